/- The walks of the functions that the laws reach: each shows that a call returns what its plain model says, wherever the model gives an answer. -/
import Derived.Test.YtefbjefmclhhjaaDoorF2

namespace Go.Proofs.YtefbjefmclhhjaaDoor
open Go Eng
set_option linter.unusedVariables false
set_option linter.unusedSimpArgs false

/-! ### gangway/gangwayref01.Bytes: function 32 -/
def gangwayref01_Bytes.l1 (a1 : Int) : Nat → Int → ByteArray → Int → Option (ByteArray)
  | 0, _, _, _ => none
  | n + 1, x1, x2, x3 =>
    bif decide (x3 < a1) then
      (catS (ByteArray.push ByteArray.empty (UInt8.ofNat (u8 (Int.tmod x1 256)).toNat)) x2).bind fun t6 =>
      gangwayref01_Bytes.l1 a1 n (u64 (Int.tdiv x1 256)) t6 (i64 (x3 + 1))
    else
      some x2

def gangwayref01_Bytes.f (k : Nat) (a0 : Int) (a1 : Int) : Option (ByteArray) :=
  gangwayref01_Bytes.l1 a1 k a0 (⟨#[]⟩ : ByteArray) 0

set_option maxRecDepth 100000 in
theorem gangwayref01_Bytes_calls (k : Nat) (a0 : Int) (a1 : Int) (r : ByteArray) (h : gangwayref01_Bytes.f k a0 a1 = some r) : Pure Tryd.prog Glob 32 #[.int .u64 a0, .int .i64 a1] (.string r) := by
  intro w Z hS
  refine calls_of (args := [.int .u64 a0, .int .i64 a1]) (L := [(0, .int .u64 a0), (1, .int .i64 a1)]) (N := 22) (S := Sat w Z [] [] Glob) Tryd.func32 rfl rfl (Nat.le_of_ble_eq_true rfl) rfl hS ?_
  have hM := h
  clear h hS
  unfold gangwayref01_Bytes.f at hM
  refine WP.seq ?_
  refine WP.run [] [0, 1, 4] (fun _ => [(0, .int .u64 a0), (1, .int .i64 a1), (4, .string (⟨#[]⟩ : ByteArray))]) (fun _ => []) (fun _ => []) (fun _ => by kernel_rfl) (fun _ => ?_)
  refine WP.seq ?_
  refine WP.run [] [0, 1, 4, 5] (fun _ => [(0, .int .u64 a0), (1, .int .i64 a1), (4, .string (⟨#[]⟩ : ByteArray)), (5, .string (⟨#[]⟩ : ByteArray))]) (fun _ => []) (fun _ => []) (fun _ => by kernel_rfl) (fun _ => ?_)
  refine WP.seq ?_
  refine WP.seq ?_
  refine WP.run [] [0, 1, 4, 5, 6] (fun _ => [(0, .int .u64 a0), (1, .int .i64 a1), (4, .string (⟨#[]⟩ : ByteArray)), (5, .string (⟨#[]⟩ : ByteArray)), (6, .int .i64 0)]) (fun _ => []) (fun _ => []) (fun _ => by kernel_rfl) (fun _ => ?_)
  refine WP.block ?_
  refine WP.sub [0, 1, 4, 5, 6] (L' := [(0, .int .u64 a0), (1, .int .i64 a1), (4, .string (⟨#[]⟩ : ByteArray)), (5, .string (⟨#[]⟩ : ByteArray)), (6, .int .i64 0)]) (by kernel_rfl) ?_
  refine WP.loop (σ := Int × ByteArray × Int) (fun n st => gangwayref01_Bytes.l1 a1 n st.1 st.2.1 st.2.2) r (fun st => [(0, .int .u64 st.1), (1, .int .i64 a1), (4, .string (⟨#[]⟩ : ByteArray)), (5, .string st.2.1), (6, .int .i64 st.2.2)]) (fun st => Sat w Z [] [] Glob) (st := (a0, (⟨#[]⟩ : ByteArray), 0)) (fun n st hM => ?_) hM
  rcases n with _ | n
  · exact nomatch (show (none : Option _) = some r from hM)
  obtain ⟨x1, x2, x3⟩ := st
  replace hM : gangwayref01_Bytes.l1 a1 (n + 1) x1 x2 x3 = some r := hM
  rw [gangwayref01_Bytes.l1] at hM
  show WP _ _ _ _ _ [(0, .int .u64 x1), (1, .int .i64 a1), (4, .string (⟨#[]⟩ : ByteArray)), (5, .string x2), (6, .int .i64 x3)] (Sat w Z [] [] Glob)
  refine WP.seq ?_
  refine WP.seq ?_
  refine WP.run [] [0, 1, 4, 5, 6, 7, 8, 9] (fun _ => [(0, .int .u64 x1), (1, .int .i64 a1), (4, .string (⟨#[]⟩ : ByteArray)), (5, .string x2), (6, .int .i64 x3), (7, .int .i64 x3), (8, .int .i64 a1), (9, .bool (decide (x3 < a1)))]) (fun _ => []) (fun _ => []) (fun _ => by kernel_rfl) (fun _ => ?_)
  refine WP.cond (decide (x3 < a1)) rfl rfl (fun c4 => ?_) (fun c4 => ?_)
  · replace hM := cond_t hM c4
    refine WP.skip ?_
    refine WP.seq ?_
    refine WP.block ?_
    refine WP.seq ?_
    refine WP.region ?_
    refine WL.run 6 [0] [0, 1, 4, 5, 6, 7, 8, 9, 12, 13, 14, 15, 16, 17] (fun b5 => [(0, .int .u64 x1), (1, .int .i64 a1), (4, .string (⟨#[]⟩ : ByteArray)), (5, .string x2), (6, .int .i64 x3), (7, .int .i64 x3), (8, .int .i64 a1), (9, .bool (decide (x3 < a1))), (12, .int .u64 x1), (13, .int .u64 (Int.tmod x1 256)), (14, .int .u8 (u8 (Int.tmod x1 256))), (15, .slice (some ⟨b5, 0, none⟩) 1 1), (16, .string (ByteArray.push ByteArray.empty (UInt8.ofNat (u8 (Int.tmod x1 256)).toNat))), (17, .string x2)]) (fun b5 => [(b5, .cells #[.int .u8 (u8 (Int.tmod x1 256))] 5 (0, 0))]) (fun b5 => [b5]) (fun b5 => by kernel_rfl) (fun b5 => ?_)
    obtain ⟨t6, h7, hM⟩ := bind_some hM
    refine WL.val (fun _ => run_catS (a := (ByteArray.push ByteArray.empty (UInt8.ofNat (u8 (Int.tmod x1 256)).toNat))) (b := x2) (by kernel_rfl) (by kernel_rfl) h7) (by kernel_rfl) (by kernel_rfl) rfl ?_
    refine WL.run 1 [] [0, 1, 4, 5, 6, 7, 8, 9, 12, 13, 14, 15, 16, 17, 18] (fun _ => [(0, .int .u64 x1), (1, .int .i64 a1), (4, .string (⟨#[]⟩ : ByteArray)), (5, .string t6), (6, .int .i64 x3), (7, .int .i64 x3), (8, .int .i64 a1), (9, .bool (decide (x3 < a1))), (12, .int .u64 x1), (13, .int .u64 (Int.tmod x1 256)), (14, .int .u8 (u8 (Int.tmod x1 256))), (15, .slice (some ⟨b5, 0, none⟩) 1 1), (16, .string (ByteArray.push ByteArray.empty (UInt8.ofNat (u8 (Int.tmod x1 256)).toNat))), (17, .string x2), (18, .string t6)]) (fun _ => [(b5, .cells #[.int .u8 (u8 (Int.tmod x1 256))] 5 (0, 0))]) (fun _ => []) (fun _ => by kernel_rfl) (fun _ => ?_)
    refine WP.done ?_
    refine WP.run [] [0, 1, 4, 5, 6, 7, 8, 9, 12, 13, 14, 15, 16, 17, 18, 19, 20] (fun _ => [(0, .int .u64 (u64 (Int.tdiv x1 256))), (1, .int .i64 a1), (4, .string (⟨#[]⟩ : ByteArray)), (5, .string t6), (6, .int .i64 x3), (7, .int .i64 x3), (8, .int .i64 a1), (9, .bool (decide (x3 < a1))), (12, .int .u64 x1), (13, .int .u64 (Int.tmod x1 256)), (14, .int .u8 (u8 (Int.tmod x1 256))), (15, .slice (some ⟨b5, 0, none⟩) 1 1), (16, .string (ByteArray.push ByteArray.empty (UInt8.ofNat (u8 (Int.tmod x1 256)).toNat))), (17, .string x2), (18, .string t6), (19, .int .u64 x1), (20, .int .u64 (u64 (Int.tdiv x1 256)))]) (fun _ => [(b5, .cells #[.int .u8 (u8 (Int.tmod x1 256))] 5 (0, 0))]) (fun _ => []) (fun _ => by kernel_rfl) (fun _ => ?_)
    refine WP.leave ?_
    refine WP.run [] [0, 1, 4, 5, 6, 7, 8, 9, 10, 11, 12, 13, 14, 15, 16, 17, 18, 19, 20] (fun _ => [(0, .int .u64 (u64 (Int.tdiv x1 256))), (1, .int .i64 a1), (4, .string (⟨#[]⟩ : ByteArray)), (5, .string t6), (6, .int .i64 (i64 (x3 + 1))), (7, .int .i64 x3), (8, .int .i64 a1), (9, .bool (decide (x3 < a1))), (10, .int .i64 x3), (11, .int .i64 (i64 (x3 + 1))), (12, .int .u64 x1), (13, .int .u64 (Int.tmod x1 256)), (14, .int .u8 (u8 (Int.tmod x1 256))), (15, .slice (some ⟨b5, 0, none⟩) 1 1), (16, .string (ByteArray.push ByteArray.empty (UInt8.ofNat (u8 (Int.tmod x1 256)).toNat))), (17, .string x2), (18, .string t6), (19, .int .u64 x1), (20, .int .u64 (u64 (Int.tdiv x1 256)))]) (fun _ => [(b5, .cells #[.int .u8 (u8 (Int.tmod x1 256))] 5 (0, 0))]) (fun _ => []) (fun _ => by kernel_rfl) (fun _ => ?_)
    exact WP.again' [0, 1, 4, 5, 6] (u64 (Int.tdiv x1 256), t6, i64 (x3 + 1)) hM (by kernel_rfl) (fun _ h => h.pick [] (by kernel_rfl))
  · replace hM := cond_f hM c4
    refine WP.exit rfl ?_
    refine WP.seq ?_
    refine WP.run [] [4] (fun _ => [(4, .string x2)]) (fun _ => []) (fun _ => []) (fun _ => by kernel_rfl) (fun _ => ?_)
    obtain rfl := Option.some.inj hM
    exact WP.ret [] [] (.string x2) (by kernel_rfl) (fun w' hw => ⟨rfl, hw.pick [] rfl⟩)

end Go.Proofs.YtefbjefmclhhjaaDoor

namespace Go.Proofs.YtefbjefmclhhjaaDoor
open Go Eng
set_option linter.unusedVariables false
set_option linter.unusedSimpArgs false

/-! ### gangway/gangwayref04.Build: function 14 -/
def gangwayref04_Build.k2 (k : Nat) (x20 : ByteArray) (a0 : api_Frame) (x22 : Int) : Option (ByteArray × Int) :=
  (gangwayref01_Bytes.f k (u64 x22) 2).bind fun r23 =>
  (catS x20 r23).bind fun t25 =>
  (catS t25 a0.Body).bind fun t27 =>
  some (t27, 0)

def gangwayref04_Build.k3 (a0 : api_Frame) (k : Nat) (x20 : ByteArray) : Option (ByteArray × Int) :=
  bif (a0.Type_ == 0) then
    gangwayref04_Build.k2 k x20 a0 (a0.Body.size : Int)
  else
    gangwayref04_Build.k2 k x20 a0 a0.Type_

def gangwayref04_Build.k1 (k : Nat) (t9 : ByteArray) (a0 : api_Frame) (x13 : Int) : Option (ByteArray × Int) :=
  (gangwayref01_Bytes.f k (u64 x13) 2).bind fun r14 =>
  (catS (⟨#[129, 0]⟩ : ByteArray) r14).bind fun t16 =>
  (catS t9 t16).bind fun t18 =>
  gangwayref04_Build.k3 a0 k t18

def gangwayref04_Build.f (k : Nat) (a0 : api_Frame) : Option (ByteArray × Int) :=
  (gangwayref04_Check.f a0).bind fun r2 =>
  bif (r2 != 0) then
    some ((⟨#[]⟩ : ByteArray), r2)
  else
    (gangwayref01_Bytes.f k a0.Dst 6).bind fun r5 =>
    (gangwayref01_Bytes.f k a0.Src 6).bind fun r7 =>
    (catS r5 r7).bind fun t9 =>
    bif a0.Tag.Has then
      bif a0.Tag.Dei then
        gangwayref04_Build.k1 k t9 a0 (i64 ((i64 ((i64 (a0.Tag.Pri * 8192)) + a0.Tag.Vid)) + 4096))
      else
        gangwayref04_Build.k1 k t9 a0 (i64 ((i64 (a0.Tag.Pri * 8192)) + a0.Tag.Vid))
    else
      gangwayref04_Build.k3 a0 k t9

set_option maxRecDepth 100000 in
theorem gangwayref04_Build_calls (k : Nat) (a0 : api_Frame) (r : ByteArray × Int) (h : gangwayref04_Build.f k a0 = some r) : Pure Tryd.prog Glob 14 #[.agg #[.int .u64 a0.Dst, .int .u64 a0.Src, .bool a0.Tag.Has, .int .i64 a0.Tag.Pri, .bool a0.Tag.Dei, .int .i64 a0.Tag.Vid, .int .i64 a0.Type_, .string a0.Body]] (.tuple #[.string r.1, .int .i64 r.2]) := by
  intro w Z hS
  refine calls_of (args := [.agg #[.int .u64 a0.Dst, .int .u64 a0.Src, .bool a0.Tag.Has, .int .i64 a0.Tag.Pri, .bool a0.Tag.Dei, .int .i64 a0.Tag.Vid, .int .i64 a0.Type_, .string a0.Body]]) (L := [(0, .agg #[.int .u64 a0.Dst, .int .u64 a0.Src, .bool a0.Tag.Has, .int .i64 a0.Tag.Pri, .bool a0.Tag.Dei, .int .i64 a0.Tag.Vid, .int .i64 a0.Type_, .string a0.Body])]) (N := 57) (S := Sat w Z [] [] Glob) Tryd.func14 rfl rfl (Nat.le_of_ble_eq_true rfl) rfl hS ?_
  have hM := h
  clear h hS
  unfold gangwayref04_Build.f at hM
  refine WP.seq ?_
  refine WP.run [] [1, 2, 3] (fun b1 => [(1, .pointer (some ⟨b1, 0, none⟩)), (2, .string (⟨#[]⟩ : ByteArray)), (3, .int .i64 0)]) (fun b1 => [(b1, .cells #[.int .u64 a0.Dst, .int .u64 a0.Src, .bool a0.Tag.Has, .int .i64 a0.Tag.Pri, .bool a0.Tag.Dei, .int .i64 a0.Tag.Vid, .int .i64 a0.Type_, .string a0.Body] 26 (0, 0))]) (fun b1 => []) (fun b1 => by kernel_rfl) (fun b1 => ?_)
  refine WP.seq ?_
  refine WP.region ?_
  refine WL.run 1 [0, 0, 0, 0, 0, 0, 0, 0] [1, 2, 3, 8] (fun _ => [(1, .pointer (some ⟨b1, 0, none⟩)), (2, .string (⟨#[]⟩ : ByteArray)), (3, .int .i64 0), (8, .agg #[.int .u64 a0.Dst, .int .u64 a0.Src, .bool a0.Tag.Has, .int .i64 a0.Tag.Pri, .bool a0.Tag.Dei, .int .i64 a0.Tag.Vid, .int .i64 a0.Type_, .string a0.Body])]) (fun _ => [(b1, .cells #[.int .u64 a0.Dst, .int .u64 a0.Src, .bool a0.Tag.Has, .int .i64 a0.Tag.Pri, .bool a0.Tag.Dei, .int .i64 a0.Tag.Vid, .int .i64 a0.Type_, .string a0.Body] 26 (0, 0))]) (fun _ => [b1, b1, b1, b1, b1, b1, b1, b1]) (fun _ => by kernel_rfl) (fun _ => ?_)
  obtain ⟨r2, h3, hM⟩ := bind_some hM
  refine WL.callP [] [] (gangwayref04_Check_calls a0 _ h3) (fun _ h => h) (by kernel_rfl) (by kernel_rfl) rfl ?_
  refine WL.run 1 [] [1, 2, 3, 4] (fun _ => [(1, .pointer (some ⟨b1, 0, none⟩)), (2, .string (⟨#[]⟩ : ByteArray)), (3, .int .i64 0), (4, .int .i64 r2)]) (fun _ => [(b1, .cells #[.int .u64 a0.Dst, .int .u64 a0.Src, .bool a0.Tag.Has, .int .i64 a0.Tag.Pri, .bool a0.Tag.Dei, .int .i64 a0.Tag.Vid, .int .i64 a0.Type_, .string a0.Body] 26 (0, 0))]) (fun _ => []) (fun _ => by kernel_rfl) (fun _ => ?_)
  refine WP.done ?_
  refine WP.seq ?_
  refine WP.seq ?_
  refine WP.run [] [1, 2, 3, 4, 11] (fun _ => [(1, .pointer (some ⟨b1, 0, none⟩)), (2, .string (⟨#[]⟩ : ByteArray)), (3, .int .i64 0), (4, .int .i64 r2), (11, .bool (r2 != 0))]) (fun _ => [(b1, .cells #[.int .u64 a0.Dst, .int .u64 a0.Src, .bool a0.Tag.Has, .int .i64 a0.Tag.Pri, .bool a0.Tag.Dei, .int .i64 a0.Tag.Vid, .int .i64 a0.Type_, .string a0.Body] 26 (0, 0))]) (fun _ => []) (fun _ => by kernel_rfl) (fun _ => ?_)
  refine WP.cond (r2 != 0) rfl rfl (fun c4 => ?_) (fun c4 => ?_)
  · replace hM := cond_t hM c4
    refine WP.seq ?_
    refine WP.run [] [1, 2, 3] (fun _ => [(1, .pointer (some ⟨b1, 0, none⟩)), (2, .string (⟨#[]⟩ : ByteArray)), (3, .int .i64 r2)]) (fun _ => [(b1, .cells #[.int .u64 a0.Dst, .int .u64 a0.Src, .bool a0.Tag.Has, .int .i64 a0.Tag.Pri, .bool a0.Tag.Dei, .int .i64 a0.Tag.Vid, .int .i64 a0.Type_, .string a0.Body] 26 (0, 0))]) (fun _ => []) (fun _ => by kernel_rfl) (fun _ => ?_)
    obtain rfl := Option.some.inj hM
    exact WP.ret [] [] (.tuple #[.string (⟨#[]⟩ : ByteArray), .int .i64 r2]) (by kernel_rfl) (fun w' hw => ⟨rfl, hw.pick [] rfl⟩)
  · replace hM := cond_f hM c4
    refine WP.skip ?_
    refine WP.seq ?_
    refine WP.quiet (by kernel_rfl) (by kernel_rfl) ?_
    refine QL.run 2 [0] [1, 2, 3, 14] [b1] [(1, .pointer (some ⟨b1, 0, none⟩)), (2, .string (⟨#[]⟩ : ByteArray)), (3, .int .i64 0), (14, .int .u64 a0.Dst)] (by kernel_rfl) ?_
    obtain ⟨r5, h6, hM⟩ := bind_some hM
    refine QL.callP [] [] (gangwayref01_Bytes_calls k a0.Dst 6 _ h6) (fun _ h => h) (by kernel_rfl) (by kernel_rfl) rfl ?_
    refine QL.run 2 [0] [1, 2, 3, 15, 17] [b1] [(1, .pointer (some ⟨b1, 0, none⟩)), (2, .string (⟨#[]⟩ : ByteArray)), (3, .int .i64 0), (15, .string r5), (17, .int .u64 a0.Src)] (by kernel_rfl) ?_
    obtain ⟨r7, h8, hM⟩ := bind_some hM
    refine QL.callP [] [] (gangwayref01_Bytes_calls k a0.Src 6 _ h8) (fun _ h => h) (by kernel_rfl) (by kernel_rfl) rfl ?_
    obtain ⟨t9, h10, hM⟩ := bind_some hM
    refine QL.val (fun _ => run_catS (a := r5) (b := r7) (by kernel_rfl) (by kernel_rfl) h10) (by kernel_rfl) (by kernel_rfl) rfl ?_
    refine QL.run 1 [] [1, 2, 3, 5] [] [(1, .pointer (some ⟨b1, 0, none⟩)), (2, .string (⟨#[]⟩ : ByteArray)), (3, .int .i64 0), (5, .string t9)] (by kernel_rfl) ?_
    refine QL.done ?_
    refine WP.seqJoin (σ := ByteArray) (fun st => gangwayref04_Build.k3 a0 k st = some r) (fun st => [(1, .pointer (some ⟨b1, 0, none⟩)), (2, .string (⟨#[]⟩ : ByteArray)), (3, .int .i64 0), (5, .string st)]) (fun st => Sat w Z [(b1, .cells #[.int .u64 a0.Dst, .int .u64 a0.Src, .bool a0.Tag.Has, .int .i64 a0.Tag.Pri, .bool a0.Tag.Dei, .int .i64 a0.Tag.Vid, .int .i64 a0.Type_, .string a0.Body] 26 (0, 0))] [] Glob) (fun st hM => ?_) (fun K3 => ?_)
    ·
      obtain ⟨x20, rfl⟩ : ∃ y, y = st := ⟨st, rfl⟩
      replace hM : gangwayref04_Build.k3 a0 k x20 = some r := hM
      unfold gangwayref04_Build.k3 at hM
      show WP _ _ _ _ _ [(1, .pointer (some ⟨b1, 0, none⟩)), (2, .string (⟨#[]⟩ : ByteArray)), (3, .int .i64 0), (5, .string x20)] (Sat w Z [(b1, .cells #[.int .u64 a0.Dst, .int .u64 a0.Src, .bool a0.Tag.Has, .int .i64 a0.Tag.Pri, .bool a0.Tag.Dei, .int .i64 a0.Tag.Vid, .int .i64 a0.Type_, .string a0.Body] 26 (0, 0))] [] Glob)
      refine WP.seq ?_
      refine WP.run [0] [1, 2, 3, 5, 7] (fun _ => [(1, .pointer (some ⟨b1, 0, none⟩)), (2, .string (⟨#[]⟩ : ByteArray)), (3, .int .i64 0), (5, .string x20), (7, .int .i64 a0.Type_)]) (fun _ => [(b1, .cells #[.int .u64 a0.Dst, .int .u64 a0.Src, .bool a0.Tag.Has, .int .i64 a0.Tag.Pri, .bool a0.Tag.Dei, .int .i64 a0.Tag.Vid, .int .i64 a0.Type_, .string a0.Body] 26 (0, 0))]) (fun _ => [b1]) (fun _ => by kernel_rfl) (fun _ => ?_)
      refine WP.seqJoin (σ := Int) (fun st => gangwayref04_Build.k2 k x20 a0 st = some r) (fun st => [(1, .pointer (some ⟨b1, 0, none⟩)), (2, .string (⟨#[]⟩ : ByteArray)), (3, .int .i64 0), (5, .string x20), (7, .int .i64 st)]) (fun st => Sat w Z [(b1, .cells #[.int .u64 a0.Dst, .int .u64 a0.Src, .bool a0.Tag.Has, .int .i64 a0.Tag.Pri, .bool a0.Tag.Dei, .int .i64 a0.Tag.Vid, .int .i64 a0.Type_, .string a0.Body] 26 (0, 0))] [] Glob) (fun st hM => ?_) (fun K2 => ?_)
      ·
        obtain ⟨x22, rfl⟩ : ∃ y, y = st := ⟨st, rfl⟩
        replace hM : gangwayref04_Build.k2 k x20 a0 x22 = some r := hM
        unfold gangwayref04_Build.k2 at hM
        show WP _ _ _ _ _ [(1, .pointer (some ⟨b1, 0, none⟩)), (2, .string (⟨#[]⟩ : ByteArray)), (3, .int .i64 0), (5, .string x20), (7, .int .i64 x22)] (Sat w Z [(b1, .cells #[.int .u64 a0.Dst, .int .u64 a0.Src, .bool a0.Tag.Has, .int .i64 a0.Tag.Pri, .bool a0.Tag.Dei, .int .i64 a0.Tag.Vid, .int .i64 a0.Type_, .string a0.Body] 26 (0, 0))] [] Glob)
        refine WP.seq ?_
        refine WP.quiet (by kernel_rfl) (by kernel_rfl) ?_
        refine QL.run 3 [] [1, 2, 3, 49, 51] [] [(1, .pointer (some ⟨b1, 0, none⟩)), (2, .string (⟨#[]⟩ : ByteArray)), (3, .int .i64 0), (49, .string x20), (51, .int .u64 (u64 x22))] (by kernel_rfl) ?_
        obtain ⟨r23, h24, hM⟩ := bind_some hM
        refine QL.callP [] [] (gangwayref01_Bytes_calls k (u64 x22) 2 _ h24) (fun _ h => h) (by kernel_rfl) (by kernel_rfl) rfl ?_
        obtain ⟨t25, h26, hM⟩ := bind_some hM
        refine QL.val (fun _ => run_catS (a := x20) (b := r23) (by kernel_rfl) (by kernel_rfl) h26) (by kernel_rfl) (by kernel_rfl) rfl ?_
        refine QL.run 2 [0] [2, 3, 53, 55] [b1] [(2, .string (⟨#[]⟩ : ByteArray)), (3, .int .i64 0), (53, .string t25), (55, .string a0.Body)] (by kernel_rfl) ?_
        obtain ⟨t27, h28, hM⟩ := bind_some hM
        refine QL.val (fun _ => run_catS (a := t25) (b := a0.Body) (by kernel_rfl) (by kernel_rfl) h28) (by kernel_rfl) (by kernel_rfl) rfl ?_
        refine QL.run 2 [] [2, 3] [] [(2, .string t27), (3, .int .i64 0)] (by kernel_rfl) ?_
        refine QL.done ?_
        refine WP.keep [false] (by kernel_rfl : _ = []) ?_
        obtain rfl := Option.some.inj hM
        exact WP.ret [] [] (.tuple #[.string t27, .int .i64 0]) (by kernel_rfl) (fun w' hw => ⟨rfl, hw.pick [] rfl⟩)
      ·
        refine WP.seq ?_
        refine WP.run [] [1, 2, 3, 5, 7, 45] (fun _ => [(1, .pointer (some ⟨b1, 0, none⟩)), (2, .string (⟨#[]⟩ : ByteArray)), (3, .int .i64 0), (5, .string x20), (7, .int .i64 a0.Type_), (45, .bool (a0.Type_ == 0))]) (fun _ => [(b1, .cells #[.int .u64 a0.Dst, .int .u64 a0.Src, .bool a0.Tag.Has, .int .i64 a0.Tag.Pri, .bool a0.Tag.Dei, .int .i64 a0.Tag.Vid, .int .i64 a0.Type_, .string a0.Body] 26 (0, 0))]) (fun _ => []) (fun _ => by kernel_rfl) (fun _ => ?_)
        refine WP.cond (a0.Type_ == 0) rfl rfl (fun c21 => ?_) (fun c21 => ?_)
        · replace hM := cond_t hM c21
          refine WP.run [0] [1, 2, 3, 5, 7] (fun _ => [(1, .pointer (some ⟨b1, 0, none⟩)), (2, .string (⟨#[]⟩ : ByteArray)), (3, .int .i64 0), (5, .string x20), (7, .int .i64 (a0.Body.size : Int))]) (fun _ => [(b1, .cells #[.int .u64 a0.Dst, .int .u64 a0.Src, .bool a0.Tag.Has, .int .i64 a0.Tag.Pri, .bool a0.Tag.Dei, .int .i64 a0.Tag.Vid, .int .i64 a0.Type_, .string a0.Body] 26 (0, 0))]) (fun _ => [b1]) (fun _ => by kernel_rfl) (fun _ => ?_)
          exact WP.sub [1, 2, 3, 5, 7] (by kernel_rfl) (WP.pick [0] (by kernel_rfl) (by kernel_rfl) (K2 (a0.Body.size : Int) hM))
        · replace hM := cond_f hM c21
          refine WP.skip ?_
          exact WP.sub [1, 2, 3, 5, 7] (by kernel_rfl) (WP.pick [0] (by kernel_rfl) (by kernel_rfl) (K2 a0.Type_ hM))
    ·
      refine WP.seq ?_
      refine WP.run [0] [1, 2, 3, 5, 22] (fun _ => [(1, .pointer (some ⟨b1, 0, none⟩)), (2, .string (⟨#[]⟩ : ByteArray)), (3, .int .i64 0), (5, .string t9), (22, .bool a0.Tag.Has)]) (fun _ => [(b1, .cells #[.int .u64 a0.Dst, .int .u64 a0.Src, .bool a0.Tag.Has, .int .i64 a0.Tag.Pri, .bool a0.Tag.Dei, .int .i64 a0.Tag.Vid, .int .i64 a0.Type_, .string a0.Body] 26 (0, 0))]) (fun _ => [b1]) (fun _ => by kernel_rfl) (fun _ => ?_)
      refine WP.cond a0.Tag.Has rfl rfl (fun c11 => ?_) (fun c11 => ?_)
      · replace hM := cond_t hM c11
        refine WP.seq ?_
        refine WP.run [0, 0] [1, 2, 3, 5, 6] (fun _ => [(1, .pointer (some ⟨b1, 0, none⟩)), (2, .string (⟨#[]⟩ : ByteArray)), (3, .int .i64 0), (5, .string t9), (6, .int .i64 (i64 ((i64 (a0.Tag.Pri * 8192)) + a0.Tag.Vid)))]) (fun _ => [(b1, .cells #[.int .u64 a0.Dst, .int .u64 a0.Src, .bool a0.Tag.Has, .int .i64 a0.Tag.Pri, .bool a0.Tag.Dei, .int .i64 a0.Tag.Vid, .int .i64 a0.Type_, .string a0.Body] 26 (0, 0))]) (fun _ => [b1, b1]) (fun _ => by kernel_rfl) (fun _ => ?_)
        refine WP.seqJoin (σ := Int) (fun st => gangwayref04_Build.k1 k t9 a0 st = some r) (fun st => [(1, .pointer (some ⟨b1, 0, none⟩)), (2, .string (⟨#[]⟩ : ByteArray)), (3, .int .i64 0), (5, .string t9), (6, .int .i64 st)]) (fun st => Sat w Z [(b1, .cells #[.int .u64 a0.Dst, .int .u64 a0.Src, .bool a0.Tag.Has, .int .i64 a0.Tag.Pri, .bool a0.Tag.Dei, .int .i64 a0.Tag.Vid, .int .i64 a0.Type_, .string a0.Body] 26 (0, 0))] [] Glob) (fun st hM => ?_) (fun K1 => ?_)
        ·
          obtain ⟨x13, rfl⟩ : ∃ y, y = st := ⟨st, rfl⟩
          replace hM : gangwayref04_Build.k1 k t9 a0 x13 = some r := hM
          unfold gangwayref04_Build.k1 at hM
          show WP _ _ _ _ _ [(1, .pointer (some ⟨b1, 0, none⟩)), (2, .string (⟨#[]⟩ : ByteArray)), (3, .int .i64 0), (5, .string t9), (6, .int .i64 x13)] (Sat w Z [(b1, .cells #[.int .u64 a0.Dst, .int .u64 a0.Src, .bool a0.Tag.Has, .int .i64 a0.Tag.Pri, .bool a0.Tag.Dei, .int .i64 a0.Tag.Vid, .int .i64 a0.Type_, .string a0.Body] 26 (0, 0))] [] Glob)
          refine WP.region ?_
          refine WL.run 3 [] [1, 2, 3, 5, 36, 38] (fun _ => [(1, .pointer (some ⟨b1, 0, none⟩)), (2, .string (⟨#[]⟩ : ByteArray)), (3, .int .i64 0), (5, .string t9), (36, .string t9), (38, .int .u64 (u64 x13))]) (fun _ => [(b1, .cells #[.int .u64 a0.Dst, .int .u64 a0.Src, .bool a0.Tag.Has, .int .i64 a0.Tag.Pri, .bool a0.Tag.Dei, .int .i64 a0.Tag.Vid, .int .i64 a0.Type_, .string a0.Body] 26 (0, 0))]) (fun _ => []) (fun _ => by kernel_rfl) (fun _ => ?_)
          obtain ⟨r14, h15, hM⟩ := bind_some hM
          refine WL.callP [] [] (gangwayref01_Bytes_calls k (u64 x13) 2 _ h15) (fun _ h => h) (by kernel_rfl) (by kernel_rfl) rfl ?_
          obtain ⟨t16, h17, hM⟩ := bind_some hM
          refine WL.val (fun _ => run_catS (a := (⟨#[129, 0]⟩ : ByteArray)) (b := r14) (by kernel_rfl) (by kernel_rfl) h17) (by kernel_rfl) (by kernel_rfl) rfl ?_
          obtain ⟨t18, h19, hM⟩ := bind_some hM
          refine WL.val (fun _ => run_catS (a := t9) (b := t16) (by kernel_rfl) (by kernel_rfl) h19) (by kernel_rfl) (by kernel_rfl) rfl ?_
          refine WL.run 1 [] [1, 2, 3, 5] (fun _ => [(1, .pointer (some ⟨b1, 0, none⟩)), (2, .string (⟨#[]⟩ : ByteArray)), (3, .int .i64 0), (5, .string t18)]) (fun _ => [(b1, .cells #[.int .u64 a0.Dst, .int .u64 a0.Src, .bool a0.Tag.Has, .int .i64 a0.Tag.Pri, .bool a0.Tag.Dei, .int .i64 a0.Tag.Vid, .int .i64 a0.Type_, .string a0.Body] 26 (0, 0))]) (fun _ => []) (fun _ => by kernel_rfl) (fun _ => ?_)
          refine WP.done ?_
          exact WP.sub [1, 2, 3, 5] (by kernel_rfl) (WP.pick [0] (by kernel_rfl) (by kernel_rfl) (K3 t18 hM))
        ·
          refine WP.seq ?_
          refine WP.run [0] [1, 2, 3, 5, 6, 33] (fun _ => [(1, .pointer (some ⟨b1, 0, none⟩)), (2, .string (⟨#[]⟩ : ByteArray)), (3, .int .i64 0), (5, .string t9), (6, .int .i64 (i64 ((i64 (a0.Tag.Pri * 8192)) + a0.Tag.Vid))), (33, .bool a0.Tag.Dei)]) (fun _ => [(b1, .cells #[.int .u64 a0.Dst, .int .u64 a0.Src, .bool a0.Tag.Has, .int .i64 a0.Tag.Pri, .bool a0.Tag.Dei, .int .i64 a0.Tag.Vid, .int .i64 a0.Type_, .string a0.Body] 26 (0, 0))]) (fun _ => [b1]) (fun _ => by kernel_rfl) (fun _ => ?_)
          refine WP.cond a0.Tag.Dei rfl rfl (fun c12 => ?_) (fun c12 => ?_)
          · replace hM := cond_t hM c12
            refine WP.run [] [1, 2, 3, 5, 6] (fun _ => [(1, .pointer (some ⟨b1, 0, none⟩)), (2, .string (⟨#[]⟩ : ByteArray)), (3, .int .i64 0), (5, .string t9), (6, .int .i64 (i64 ((i64 ((i64 (a0.Tag.Pri * 8192)) + a0.Tag.Vid)) + 4096)))]) (fun _ => [(b1, .cells #[.int .u64 a0.Dst, .int .u64 a0.Src, .bool a0.Tag.Has, .int .i64 a0.Tag.Pri, .bool a0.Tag.Dei, .int .i64 a0.Tag.Vid, .int .i64 a0.Type_, .string a0.Body] 26 (0, 0))]) (fun _ => []) (fun _ => by kernel_rfl) (fun _ => ?_)
            exact WP.sub [1, 2, 3, 5, 6] (by kernel_rfl) (WP.pick [0] (by kernel_rfl) (by kernel_rfl) (K1 (i64 ((i64 ((i64 (a0.Tag.Pri * 8192)) + a0.Tag.Vid)) + 4096)) hM))
          · replace hM := cond_f hM c12
            refine WP.skip ?_
            exact WP.sub [1, 2, 3, 5, 6] (by kernel_rfl) (WP.pick [0] (by kernel_rfl) (by kernel_rfl) (K1 (i64 ((i64 (a0.Tag.Pri * 8192)) + a0.Tag.Vid)) hM))
      · replace hM := cond_f hM c11
        refine WP.skip ?_
        exact WP.sub [1, 2, 3, 5] (by kernel_rfl) (WP.pick [0] (by kernel_rfl) (by kernel_rfl) (K3 t9 hM))

end Go.Proofs.YtefbjefmclhhjaaDoor

namespace Go.Proofs.YtefbjefmclhhjaaDoor
open Go Eng
set_option linter.unusedVariables false
set_option linter.unusedSimpArgs false

/-! ### gangway/gangwaylaw04.EtherBuilds: function 6 -/
def gangwaylaw04_EtherBuilds.k1 (x29 : Bool) : Option (Bool) :=
  some x29

def gangwaylaw04_EtherBuilds.k2 (r11 : api_Frame) (a0 : api_Frame) (t2 : ByteArray) (x25 : Bool) : Option (Bool) :=
  bif x25 then
    (ether_Bare.f r11).bind fun r27 =>
    gangwaylaw04_EtherBuilds.k1 ((r27.Dst == a0.Dst) && ((r27.Src == a0.Src) && (((r27.Tag.Has == false) && ((r27.Tag.Pri == 0) && ((r27.Tag.Dei == false) && ((r27.Tag.Vid == 0) && true)))) && ((r27.Type_ == a0.Type_) && ((r27.Body == t2) && true)))))
  else
    gangwaylaw04_EtherBuilds.k1 false

def gangwaylaw04_EtherBuilds.k3 (r11 : api_Frame) (a0 : api_Frame) (t2 : ByteArray) (a1 : api_Tag) (x23 : Bool) : Option (Bool) :=
  bif x23 then
    gangwaylaw04_EtherBuilds.k2 r11 a0 t2 ((r11.Dst == a0.Dst) && ((r11.Src == a0.Src) && (((r11.Tag.Has == a1.Has) && ((r11.Tag.Pri == a1.Pri) && ((r11.Tag.Dei == a1.Dei) && ((r11.Tag.Vid == a1.Vid) && true)))) && ((r11.Type_ == a0.Type_) && ((r11.Body == t2) && true)))))
  else
    gangwaylaw04_EtherBuilds.k2 r11 a0 t2 false

def gangwaylaw04_EtherBuilds.f (k : Nat) (a0 : api_Frame) (a1 : api_Tag) : Option (Bool) :=
  (sliceS a0.Body 0 (imin (a0.Body.size : Int) 1700)).bind fun t2 =>
  (ether_Build.f k (api_Frame.mk a0.Dst a0.Src a0.Tag a0.Type_ t2)).bind fun (r4, r5) =>
  (gangwayref04_Build.f k (api_Frame.mk a0.Dst a0.Src a0.Tag a0.Type_ t2)).bind fun (r7, r8) =>
  (ether_Tagged.f (api_Frame.mk a0.Dst a0.Src a0.Tag a0.Type_ t2) a1).bind fun r11 =>
  (gangwaylaw04_fixed.f k).bind fun r16 =>
  bif ((r16 && (r4.toList == r7.toList)) && (r5 == r8)) then
    (ether_Check.f (api_Frame.mk a0.Dst a0.Src a0.Tag a0.Type_ t2)).bind fun r19 =>
    (gangwayref04_Check.f (api_Frame.mk a0.Dst a0.Src a0.Tag a0.Type_ t2)).bind fun r21 =>
    gangwaylaw04_EtherBuilds.k3 r11 a0 t2 a1 (r19 == r21)
  else
    gangwaylaw04_EtherBuilds.k3 r11 a0 t2 a1 false

set_option maxRecDepth 100000 in
theorem gangwaylaw04_EtherBuilds_calls (k : Nat) (a0 : api_Frame) (a1 : api_Tag) (r : Bool) (h : gangwaylaw04_EtherBuilds.f k a0 a1 = some r) : Pure Tryd.prog Glob 6 #[.agg #[.int .u64 a0.Dst, .int .u64 a0.Src, .bool a0.Tag.Has, .int .i64 a0.Tag.Pri, .bool a0.Tag.Dei, .int .i64 a0.Tag.Vid, .int .i64 a0.Type_, .string a0.Body], .agg #[.bool a1.Has, .int .i64 a1.Pri, .bool a1.Dei, .int .i64 a1.Vid]] (.bool r) := by
  intro w Z hS
  refine calls_of (args := [.agg #[.int .u64 a0.Dst, .int .u64 a0.Src, .bool a0.Tag.Has, .int .i64 a0.Tag.Pri, .bool a0.Tag.Dei, .int .i64 a0.Tag.Vid, .int .i64 a0.Type_, .string a0.Body], .agg #[.bool a1.Has, .int .i64 a1.Pri, .bool a1.Dei, .int .i64 a1.Vid]]) (L := [(0, .agg #[.int .u64 a0.Dst, .int .u64 a0.Src, .bool a0.Tag.Has, .int .i64 a0.Tag.Pri, .bool a0.Tag.Dei, .int .i64 a0.Tag.Vid, .int .i64 a0.Type_, .string a0.Body]), (1, .agg #[.bool a1.Has, .int .i64 a1.Pri, .bool a1.Dei, .int .i64 a1.Vid])]) (N := 68) (S := Sat w Z [] [] Glob) Tryd.func6 rfl rfl (Nat.le_of_ble_eq_true rfl) rfl hS ?_
  have hM := h
  clear h hS
  unfold gangwaylaw04_EtherBuilds.f at hM
  refine WP.seq ?_
  refine WP.run [] [2, 3, 4] (fun b1 => [(2, .pointer (some ⟨b1, 0, none⟩)), (3, .pointer (some ⟨(b1 + 1), 0, none⟩)), (4, .bool false)]) (fun b1 => [(b1, .cells #[.int .u64 a0.Dst, .int .u64 a0.Src, .bool a0.Tag.Has, .int .i64 a0.Tag.Pri, .bool a0.Tag.Dei, .int .i64 a0.Tag.Vid, .int .i64 a0.Type_, .string a0.Body] 26 (0, 0)), ((b1 + 1), .cells #[.bool a1.Has, .int .i64 a1.Pri, .bool a1.Dei, .int .i64 a1.Vid] 24 (0, 0))]) (fun b1 => []) (fun b1 => by kernel_rfl) (fun b1 => ?_)
  refine WP.seq ?_
  refine WP.region ?_
  refine WL.run 6 [0, 0] [2, 3, 4, 13, 17] (fun _ => [(2, .pointer (some ⟨b1, 0, none⟩)), (3, .pointer (some ⟨(b1 + 1), 0, none⟩)), (4, .bool false), (13, .string a0.Body), (17, .int .i64 (imin (a0.Body.size : Int) 1700))]) (fun _ => [(b1, .cells #[.int .u64 a0.Dst, .int .u64 a0.Src, .bool a0.Tag.Has, .int .i64 a0.Tag.Pri, .bool a0.Tag.Dei, .int .i64 a0.Tag.Vid, .int .i64 a0.Type_, .string a0.Body] 26 (0, 0)), ((b1 + 1), .cells #[.bool a1.Has, .int .i64 a1.Pri, .bool a1.Dei, .int .i64 a1.Vid] 24 (0, 0))]) (fun _ => [b1, b1]) (fun _ => by kernel_rfl) (fun _ => ?_)
  obtain ⟨t2, h3, hM⟩ := bind_some hM
  refine WL.val (fun _ => run_sliceS_hi (s := a0.Body) (kh := .i64) (h := imin (a0.Body.size : Int) 1700) (by kernel_rfl) (by kernel_rfl) (by kernel_rfl) h3) (by kernel_rfl) (by kernel_rfl) rfl ?_
  refine WL.run 2 [0] [2, 3, 4] (fun _ => [(2, .pointer (some ⟨b1, 0, none⟩)), (3, .pointer (some ⟨(b1 + 1), 0, none⟩)), (4, .bool false)]) (fun _ => [(b1, .cells #[.int .u64 a0.Dst, .int .u64 a0.Src, .bool a0.Tag.Has, .int .i64 a0.Tag.Pri, .bool a0.Tag.Dei, .int .i64 a0.Tag.Vid, .int .i64 a0.Type_, .string t2] 26 (0, 0)), ((b1 + 1), .cells #[.bool a1.Has, .int .i64 a1.Pri, .bool a1.Dei, .int .i64 a1.Vid] 24 (0, 0))]) (fun _ => [b1]) (fun _ => by kernel_rfl) (fun _ => ?_)
  refine WP.done ?_
  refine WP.seq ?_
  refine WP.region ?_
  refine WL.run 1 [0, 0, 0, 0, 0, 0, 0, 0] [2, 3, 4, 21] (fun _ => [(2, .pointer (some ⟨b1, 0, none⟩)), (3, .pointer (some ⟨(b1 + 1), 0, none⟩)), (4, .bool false), (21, .agg #[.int .u64 a0.Dst, .int .u64 a0.Src, .bool a0.Tag.Has, .int .i64 a0.Tag.Pri, .bool a0.Tag.Dei, .int .i64 a0.Tag.Vid, .int .i64 a0.Type_, .string t2])]) (fun _ => [(b1, .cells #[.int .u64 a0.Dst, .int .u64 a0.Src, .bool a0.Tag.Has, .int .i64 a0.Tag.Pri, .bool a0.Tag.Dei, .int .i64 a0.Tag.Vid, .int .i64 a0.Type_, .string t2] 26 (0, 0)), ((b1 + 1), .cells #[.bool a1.Has, .int .i64 a1.Pri, .bool a1.Dei, .int .i64 a1.Vid] 24 (0, 0))]) (fun _ => [b1, b1, b1, b1, b1, b1, b1, b1]) (fun _ => by kernel_rfl) (fun _ => ?_)
  obtain ⟨⟨r4, r5⟩, h6, hM⟩ := bind_some hM
  dsimp only at hM
  refine WL.callP [] [] (ether_Build_calls k (api_Frame.mk a0.Dst a0.Src a0.Tag a0.Type_ t2) _ h6) (fun _ h => h) (by kernel_rfl) (by kernel_rfl) rfl ?_
  refine WL.run 5 [] [2, 3, 4, 5, 6] (fun _ => [(2, .pointer (some ⟨b1, 0, none⟩)), (3, .pointer (some ⟨(b1 + 1), 0, none⟩)), (4, .bool false), (5, .string r4), (6, .int .i64 r5)]) (fun _ => [(b1, .cells #[.int .u64 a0.Dst, .int .u64 a0.Src, .bool a0.Tag.Has, .int .i64 a0.Tag.Pri, .bool a0.Tag.Dei, .int .i64 a0.Tag.Vid, .int .i64 a0.Type_, .string t2] 26 (0, 0)), ((b1 + 1), .cells #[.bool a1.Has, .int .i64 a1.Pri, .bool a1.Dei, .int .i64 a1.Vid] 24 (0, 0))]) (fun _ => []) (fun _ => by kernel_rfl) (fun _ => ?_)
  refine WP.done ?_
  refine WP.seq ?_
  refine WP.region ?_
  refine WL.run 1 [0, 0, 0, 0, 0, 0, 0, 0] [2, 3, 4, 5, 6, 26] (fun _ => [(2, .pointer (some ⟨b1, 0, none⟩)), (3, .pointer (some ⟨(b1 + 1), 0, none⟩)), (4, .bool false), (5, .string r4), (6, .int .i64 r5), (26, .agg #[.int .u64 a0.Dst, .int .u64 a0.Src, .bool a0.Tag.Has, .int .i64 a0.Tag.Pri, .bool a0.Tag.Dei, .int .i64 a0.Tag.Vid, .int .i64 a0.Type_, .string t2])]) (fun _ => [(b1, .cells #[.int .u64 a0.Dst, .int .u64 a0.Src, .bool a0.Tag.Has, .int .i64 a0.Tag.Pri, .bool a0.Tag.Dei, .int .i64 a0.Tag.Vid, .int .i64 a0.Type_, .string t2] 26 (0, 0)), ((b1 + 1), .cells #[.bool a1.Has, .int .i64 a1.Pri, .bool a1.Dei, .int .i64 a1.Vid] 24 (0, 0))]) (fun _ => [b1, b1, b1, b1, b1, b1, b1, b1]) (fun _ => by kernel_rfl) (fun _ => ?_)
  obtain ⟨⟨r7, r8⟩, h9, hM⟩ := bind_some hM
  dsimp only at hM
  refine WL.callP [] [] (gangwayref04_Build_calls k (api_Frame.mk a0.Dst a0.Src a0.Tag a0.Type_ t2) _ h9) (fun _ h => h) (by kernel_rfl) (by kernel_rfl) rfl ?_
  refine WL.run 5 [] [2, 3, 4, 5, 6, 7, 8] (fun _ => [(2, .pointer (some ⟨b1, 0, none⟩)), (3, .pointer (some ⟨(b1 + 1), 0, none⟩)), (4, .bool false), (5, .string r4), (6, .int .i64 r5), (7, .string r7), (8, .int .i64 r8)]) (fun _ => [(b1, .cells #[.int .u64 a0.Dst, .int .u64 a0.Src, .bool a0.Tag.Has, .int .i64 a0.Tag.Pri, .bool a0.Tag.Dei, .int .i64 a0.Tag.Vid, .int .i64 a0.Type_, .string t2] 26 (0, 0)), ((b1 + 1), .cells #[.bool a1.Has, .int .i64 a1.Pri, .bool a1.Dei, .int .i64 a1.Vid] 24 (0, 0))]) (fun _ => []) (fun _ => by kernel_rfl) (fun _ => ?_)
  refine WP.done ?_
  refine WP.seq ?_
  obtain ⟨r11, h12, hM⟩ := bind_some hM
  refine WP.sub [2, 3, 4, 5, 6, 7, 8] (L' := [(2, .pointer (some ⟨b1, 0, none⟩)), (3, .pointer (some ⟨(b1 + 1), 0, none⟩)), (4, .bool false), (5, .string r4), (6, .int .i64 r5), (7, .string r7), (8, .int .i64 r8)]) (by kernel_rfl) ?_
  refine WP.mixed 7 [.val (.agg #[.int .u64 a0.Dst, .int .u64 a0.Src, .bool a0.Tag.Has, .int .i64 a0.Tag.Pri, .bool a0.Tag.Dei, .int .i64 a0.Tag.Vid, .int .i64 a0.Type_, .string t2]), .val (.agg #[.bool a1.Has, .int .i64 a1.Pri, .bool a1.Dei, .int .i64 a1.Vid]), .val (.agg #[.int .u64 r11.Dst, .int .u64 r11.Src, .bool r11.Tag.Has, .int .i64 r11.Tag.Pri, .bool r11.Tag.Dei, .int .i64 r11.Tag.Vid, .int .i64 r11.Type_, .string r11.Body]), .val (.agg #[.int .u64 a0.Dst, .int .u64 a0.Src, .bool a0.Tag.Has, .int .i64 a0.Tag.Pri, .bool a0.Tag.Dei, .int .i64 a0.Tag.Vid, .int .i64 a0.Type_, .string t2]), .alloc (.cells #[.int .u64 0, .int .u64 0, .bool false, .int .i64 0, .bool false, .int .i64 0, .int .i64 0, .string (⟨#[]⟩ : ByteArray)] 26 (0, 0)) (fun b => .pointer (some ⟨b, 0, none⟩)), .alloc (.cells #[.int .u64 0, .int .u64 0, .bool false, .int .i64 0, .bool false, .int .i64 0, .int .i64 0, .string (⟨#[]⟩ : ByteArray)] 26 (0, 0)) (fun b => .pointer (some ⟨b, 0, none⟩)), .fill 4 (.cells #[.int .u64 r11.Dst, .int .u64 r11.Src, .bool r11.Tag.Has, .int .i64 r11.Tag.Pri, .bool r11.Tag.Dei, .int .i64 r11.Tag.Vid, .int .i64 r11.Type_, .string r11.Body] 26 (0, 0))] (by kernel_rfl) (by kernel_rfl) (by kernel_rfl) (Heads.val (OpV.run [0, 0, 0, 0, 0, 0, 0, 0] [b1, b1, b1, b1, b1, b1, b1, b1] (by kernel_rfl) (fun _ => by kernel_rfl)) (Heads.val (OpV.run [1, 1, 1, 1] [(b1 + 1), (b1 + 1), (b1 + 1), (b1 + 1)] (by kernel_rfl) (fun _ => by kernel_rfl)) (Heads.val (OpV.callP [] [] (ether_Tagged_calls (api_Frame.mk a0.Dst a0.Src a0.Tag a0.Type_ t2) a1 _ h12) (fun _ h => h) (fun _ => by kernel_rfl)) (Heads.val (OpV.run [0, 0, 0, 0, 0, 0, 0, 0] [b1, b1, b1, b1, b1, b1, b1, b1] (by kernel_rfl) (fun _ => by kernel_rfl)) (Heads.alloc (by kernel_rfl) (fun _ => by kernel_rfl) (Heads.alloc (by kernel_rfl) (fun _ => by kernel_rfl) (Heads.fill 9 (fun b => .pointer (some ⟨b, 0, none⟩)) (.cells #[.int .u64 0, .int .u64 0, .bool false, .int .i64 0, .bool false, .int .i64 0, .int .i64 0, .string (⟨#[]⟩ : ByteArray)] 26 (0, 0)) rfl rfl (OpF.run [2, 2, 2, 2, 2, 2, 2, 2] (fun b => [b, b, b, b, b, b, b, b]) (fun _ => by kernel_rfl) (fun _ _ _ => by kernel_rfl) (fun _ _ _ => by kernel_rfl)) Heads.nil))))))) (fun s10 => [(30, .agg #[.int .u64 a0.Dst, .int .u64 a0.Src, .bool a0.Tag.Has, .int .i64 a0.Tag.Pri, .bool a0.Tag.Dei, .int .i64 a0.Tag.Vid, .int .i64 a0.Type_, .string t2]), (31, .agg #[.bool a1.Has, .int .i64 a1.Pri, .bool a1.Dei, .int .i64 a1.Vid]), (32, .agg #[.int .u64 r11.Dst, .int .u64 r11.Src, .bool r11.Tag.Has, .int .i64 r11.Tag.Pri, .bool r11.Tag.Dei, .int .i64 r11.Tag.Vid, .int .i64 r11.Type_, .string r11.Body]), (33, .agg #[.int .u64 a0.Dst, .int .u64 a0.Src, .bool a0.Tag.Has, .int .i64 a0.Tag.Pri, .bool a0.Tag.Dei, .int .i64 a0.Tag.Vid, .int .i64 a0.Type_, .string t2]), (9, .pointer (some ⟨(s10 4), 0, none⟩)), (10, .pointer (some ⟨(s10 5), 0, none⟩)), (2, .pointer (some ⟨b1, 0, none⟩)), (3, .pointer (some ⟨(b1 + 1), 0, none⟩)), (4, .bool false), (5, .string r4), (6, .int .i64 r5), (7, .string r7), (8, .int .i64 r8)]) (fun s10 => [(b1, .cells #[.int .u64 a0.Dst, .int .u64 a0.Src, .bool a0.Tag.Has, .int .i64 a0.Tag.Pri, .bool a0.Tag.Dei, .int .i64 a0.Tag.Vid, .int .i64 a0.Type_, .string t2] 26 (0, 0)), ((b1 + 1), .cells #[.bool a1.Has, .int .i64 a1.Pri, .bool a1.Dei, .int .i64 a1.Vid] 24 (0, 0)), ((s10 4), .cells #[.int .u64 r11.Dst, .int .u64 r11.Src, .bool r11.Tag.Has, .int .i64 r11.Tag.Pri, .bool r11.Tag.Dei, .int .i64 r11.Tag.Vid, .int .i64 r11.Type_, .string r11.Body] 26 (0, 0)), ((s10 5), .cells #[.int .u64 0, .int .u64 0, .bool false, .int .i64 0, .bool false, .int .i64 0, .int .i64 0, .string (⟨#[]⟩ : ByteArray)] 26 (0, 0))]) (fun _ => by kernel_rfl) (fun _ => by kernel_rfl) (fun s10 => ?_)
  generalize s10 4 = b13
  generalize s10 5 = b14
  refine WL.run 1 [3, 3, 3, 3, 3, 3, 3, 3] [2, 3, 4, 5, 6, 7, 8, 9, 10] (fun _ => [(2, .pointer (some ⟨b1, 0, none⟩)), (3, .pointer (some ⟨(b1 + 1), 0, none⟩)), (4, .bool false), (5, .string r4), (6, .int .i64 r5), (7, .string r7), (8, .int .i64 r8), (9, .pointer (some ⟨b13, 0, none⟩)), (10, .pointer (some ⟨b14, 0, none⟩))]) (fun _ => [(b1, .cells #[.int .u64 a0.Dst, .int .u64 a0.Src, .bool a0.Tag.Has, .int .i64 a0.Tag.Pri, .bool a0.Tag.Dei, .int .i64 a0.Tag.Vid, .int .i64 a0.Type_, .string t2] 26 (0, 0)), ((b1 + 1), .cells #[.bool a1.Has, .int .i64 a1.Pri, .bool a1.Dei, .int .i64 a1.Vid] 24 (0, 0)), (b13, .cells #[.int .u64 r11.Dst, .int .u64 r11.Src, .bool r11.Tag.Has, .int .i64 r11.Tag.Pri, .bool r11.Tag.Dei, .int .i64 r11.Tag.Vid, .int .i64 r11.Type_, .string r11.Body] 26 (0, 0)), (b14, .cells #[.int .u64 a0.Dst, .int .u64 a0.Src, .bool a0.Tag.Has, .int .i64 a0.Tag.Pri, .bool a0.Tag.Dei, .int .i64 a0.Tag.Vid, .int .i64 a0.Type_, .string t2] 26 (0, 0))]) (fun _ => [b14, b14, b14, b14, b14, b14, b14, b14]) (fun _ => by kernel_rfl) (fun _ => ?_)
  refine WP.done ?_
  refine WP.seq ?_
  refine WP.run [1, 1, 1, 1, 3, 3, 3, 3] [2, 4, 5, 6, 7, 8, 9, 10] (fun _ => [(2, .pointer (some ⟨b1, 0, none⟩)), (4, .bool false), (5, .string r4), (6, .int .i64 r5), (7, .string r7), (8, .int .i64 r8), (9, .pointer (some ⟨b13, 0, none⟩)), (10, .pointer (some ⟨b14, 0, none⟩))]) (fun _ => [(b1, .cells #[.int .u64 a0.Dst, .int .u64 a0.Src, .bool a0.Tag.Has, .int .i64 a0.Tag.Pri, .bool a0.Tag.Dei, .int .i64 a0.Tag.Vid, .int .i64 a0.Type_, .string t2] 26 (0, 0)), ((b1 + 1), .cells #[.bool a1.Has, .int .i64 a1.Pri, .bool a1.Dei, .int .i64 a1.Vid] 24 (0, 0)), (b13, .cells #[.int .u64 r11.Dst, .int .u64 r11.Src, .bool r11.Tag.Has, .int .i64 r11.Tag.Pri, .bool r11.Tag.Dei, .int .i64 r11.Tag.Vid, .int .i64 r11.Type_, .string r11.Body] 26 (0, 0)), (b14, .cells #[.int .u64 a0.Dst, .int .u64 a0.Src, .bool a1.Has, .int .i64 a1.Pri, .bool a1.Dei, .int .i64 a1.Vid, .int .i64 a0.Type_, .string t2] 26 (0, 0))]) (fun _ => [b14, b14, b14, b14, (b1 + 1), (b1 + 1), (b1 + 1), (b1 + 1)]) (fun _ => by kernel_rfl) (fun _ => ?_)
  refine WP.keep [true, false, true, true] (by kernel_rfl : _ = [(b1, .cells #[.int .u64 a0.Dst, .int .u64 a0.Src, .bool a0.Tag.Has, .int .i64 a0.Tag.Pri, .bool a0.Tag.Dei, .int .i64 a0.Tag.Vid, .int .i64 a0.Type_, .string t2] 26 (0, 0)), (b13, .cells #[.int .u64 r11.Dst, .int .u64 r11.Src, .bool r11.Tag.Has, .int .i64 r11.Tag.Pri, .bool r11.Tag.Dei, .int .i64 r11.Tag.Vid, .int .i64 r11.Type_, .string r11.Body] 26 (0, 0)), (b14, .cells #[.int .u64 a0.Dst, .int .u64 a0.Src, .bool a1.Has, .int .i64 a1.Pri, .bool a1.Dei, .int .i64 a1.Vid, .int .i64 a0.Type_, .string t2] 26 (0, 0))]) ?_
  refine WP.seq ?_
  refine WP.run [2, 2, 2, 2, 2, 2, 2, 2, 3, 3, 3, 3, 3, 3, 3, 3] [2, 4, 5, 6, 7, 8, 9, 10, 11] (fun b15 => [(2, .pointer (some ⟨b1, 0, none⟩)), (4, .bool false), (5, .string r4), (6, .int .i64 r5), (7, .string r7), (8, .int .i64 r8), (9, .pointer (some ⟨b13, 0, none⟩)), (10, .pointer (some ⟨b14, 0, none⟩)), (11, .pointer (some ⟨b15, 0, none⟩))]) (fun b15 => [(b1, .cells #[.int .u64 a0.Dst, .int .u64 a0.Src, .bool a0.Tag.Has, .int .i64 a0.Tag.Pri, .bool a0.Tag.Dei, .int .i64 a0.Tag.Vid, .int .i64 a0.Type_, .string t2] 26 (0, 0)), (b13, .cells #[.int .u64 r11.Dst, .int .u64 r11.Src, .bool r11.Tag.Has, .int .i64 r11.Tag.Pri, .bool r11.Tag.Dei, .int .i64 r11.Tag.Vid, .int .i64 r11.Type_, .string r11.Body] 26 (0, 0)), (b14, .cells #[.int .u64 a0.Dst, .int .u64 a0.Src, .bool a1.Has, .int .i64 a1.Pri, .bool a1.Dei, .int .i64 a1.Vid, .int .i64 a0.Type_, .string t2] 26 (0, 0)), (b15, .cells #[.int .u64 a0.Dst, .int .u64 a0.Src, .bool a1.Has, .int .i64 a1.Pri, .bool a1.Dei, .int .i64 a1.Vid, .int .i64 a0.Type_, .string t2] 26 (0, 0))]) (fun b15 => [b15, b15, b15, b15, b15, b15, b15, b15, b14, b14, b14, b14, b14, b14, b14, b14]) (fun b15 => by kernel_rfl) (fun b15 => ?_)
  refine WP.seq ?_
  refine WP.run [3, 3, 3, 3] [2, 4, 5, 6, 7, 8, 9, 10, 11] (fun _ => [(2, .pointer (some ⟨b1, 0, none⟩)), (4, .bool false), (5, .string r4), (6, .int .i64 r5), (7, .string r7), (8, .int .i64 r8), (9, .pointer (some ⟨b13, 0, none⟩)), (10, .pointer (some ⟨b14, 0, none⟩)), (11, .pointer (some ⟨b15, 0, none⟩))]) (fun _ => [(b1, .cells #[.int .u64 a0.Dst, .int .u64 a0.Src, .bool a0.Tag.Has, .int .i64 a0.Tag.Pri, .bool a0.Tag.Dei, .int .i64 a0.Tag.Vid, .int .i64 a0.Type_, .string t2] 26 (0, 0)), (b13, .cells #[.int .u64 r11.Dst, .int .u64 r11.Src, .bool r11.Tag.Has, .int .i64 r11.Tag.Pri, .bool r11.Tag.Dei, .int .i64 r11.Tag.Vid, .int .i64 r11.Type_, .string r11.Body] 26 (0, 0)), (b14, .cells #[.int .u64 a0.Dst, .int .u64 a0.Src, .bool a1.Has, .int .i64 a1.Pri, .bool a1.Dei, .int .i64 a1.Vid, .int .i64 a0.Type_, .string t2] 26 (0, 0)), (b15, .cells #[.int .u64 a0.Dst, .int .u64 a0.Src, .bool false, .int .i64 0, .bool false, .int .i64 0, .int .i64 a0.Type_, .string t2] 26 (0, 0))]) (fun _ => [b15, b15, b15, b15]) (fun _ => by kernel_rfl) (fun _ => ?_)
  refine WP.seq ?_
  refine WP.quiet (by kernel_rfl) (by kernel_rfl) ?_
  obtain ⟨r16, h17, hM⟩ := bind_some hM
  refine QL.callP [] [] (gangwaylaw04_fixed_calls k _ h17) (fun _ h => h) (by kernel_rfl) (by kernel_rfl) rfl ?_
  refine QL.run 1 [] [2, 4, 5, 6, 7, 8, 9, 10, 11, 40] [] [(2, .pointer (some ⟨b1, 0, none⟩)), (4, .bool false), (5, .string r4), (6, .int .i64 r5), (7, .string r7), (8, .int .i64 r8), (9, .pointer (some ⟨b13, 0, none⟩)), (10, .pointer (some ⟨b14, 0, none⟩)), (11, .pointer (some ⟨b15, 0, none⟩)), (40, .bool r16)] (by kernel_rfl) ?_
  refine QL.sub [2, 4, 5, 6, 7, 8, 9, 10, 11, 40] (L' := [(2, .pointer (some ⟨b1, 0, none⟩)), (4, .bool false), (5, .string r4), (6, .int .i64 r5), (7, .string r7), (8, .int .i64 r8), (9, .pointer (some ⟨b13, 0, none⟩)), (10, .pointer (some ⟨b14, 0, none⟩)), (11, .pointer (some ⟨b15, 0, none⟩)), (40, .bool r16)]) (by kernel_rfl) ?_
  refine QL.both (fun b' => [(2, .pointer (some ⟨b1, 0, none⟩)), (4, .bool false), (5, .string r4), (6, .int .i64 r5), (7, .string r7), (8, .int .i64 r8), (9, .pointer (some ⟨b13, 0, none⟩)), (10, .pointer (some ⟨b14, 0, none⟩)), (11, .pointer (some ⟨b15, 0, none⟩)), (40, .bool b')]) r16 4 [] [] [2, 4, 6, 8, 9, 10, 11, 44] [] [] (fun b' => [(2, .pointer (some ⟨b1, 0, none⟩)), (4, .bool false), (6, .int .i64 r5), (8, .int .i64 r8), (9, .pointer (some ⟨b13, 0, none⟩)), (10, .pointer (some ⟨b14, 0, none⟩)), (11, .pointer (some ⟨b15, 0, none⟩)), (44, .bool (b' && (r4.toList == r7.toList)))]) (by kernel_rfl) (by kernel_rfl) ?_
  refine QL.run 1 [] [2, 4, 6, 8, 9, 10, 11, 45] [] [(2, .pointer (some ⟨b1, 0, none⟩)), (4, .bool false), (6, .int .i64 r5), (8, .int .i64 r8), (9, .pointer (some ⟨b13, 0, none⟩)), (10, .pointer (some ⟨b14, 0, none⟩)), (11, .pointer (some ⟨b15, 0, none⟩)), (45, .bool (r16 && (r4.toList == r7.toList)))] (by kernel_rfl) ?_
  refine QL.sub [2, 4, 6, 8, 9, 10, 11, 45] (L' := [(2, .pointer (some ⟨b1, 0, none⟩)), (4, .bool false), (6, .int .i64 r5), (8, .int .i64 r8), (9, .pointer (some ⟨b13, 0, none⟩)), (10, .pointer (some ⟨b14, 0, none⟩)), (11, .pointer (some ⟨b15, 0, none⟩)), (45, .bool (r16 && (r4.toList == r7.toList)))]) (by kernel_rfl) ?_
  refine QL.both (fun b' => [(2, .pointer (some ⟨b1, 0, none⟩)), (4, .bool false), (6, .int .i64 r5), (8, .int .i64 r8), (9, .pointer (some ⟨b13, 0, none⟩)), (10, .pointer (some ⟨b14, 0, none⟩)), (11, .pointer (some ⟨b15, 0, none⟩)), (45, .bool b')]) (r16 && (r4.toList == r7.toList)) 4 [] [] [2, 4, 9, 10, 11, 49] [] [] (fun b' => [(2, .pointer (some ⟨b1, 0, none⟩)), (4, .bool false), (9, .pointer (some ⟨b13, 0, none⟩)), (10, .pointer (some ⟨b14, 0, none⟩)), (11, .pointer (some ⟨b15, 0, none⟩)), (49, .bool (b' && (r5 == r8)))]) (by kernel_rfl) (by kernel_rfl) ?_
  refine QL.run 1 [] [2, 4, 9, 10, 11, 50] [] [(2, .pointer (some ⟨b1, 0, none⟩)), (4, .bool false), (9, .pointer (some ⟨b13, 0, none⟩)), (10, .pointer (some ⟨b14, 0, none⟩)), (11, .pointer (some ⟨b15, 0, none⟩)), (50, .bool ((r16 && (r4.toList == r7.toList)) && (r5 == r8)))] (by kernel_rfl) ?_
  refine QL.sub [2, 4, 9, 10, 11, 50] (L' := [(2, .pointer (some ⟨b1, 0, none⟩)), (4, .bool false), (9, .pointer (some ⟨b13, 0, none⟩)), (10, .pointer (some ⟨b14, 0, none⟩)), (11, .pointer (some ⟨b15, 0, none⟩)), (50, .bool ((r16 && (r4.toList == r7.toList)) && (r5 == r8)))]) (by kernel_rfl) ?_
  refine QL.join (σ := Bool) 6 (fun st => gangwaylaw04_EtherBuilds.k3 r11 a0 t2 a1 st = some r) (fun st => [(4, .bool false), (9, .pointer (some ⟨b13, 0, none⟩)), (10, .pointer (some ⟨b14, 0, none⟩)), (11, .pointer (some ⟨b15, 0, none⟩)), (56, .bool st)]) (fun st hM => ?_) (fun K3 => ?_)
  ·
    obtain ⟨x23, rfl⟩ : ∃ y, y = st := ⟨st, rfl⟩
    replace hM : gangwaylaw04_EtherBuilds.k3 r11 a0 t2 a1 x23 = some r := hM
    unfold gangwaylaw04_EtherBuilds.k3 at hM
    show QL _ _ _ _ _ _ [(4, .bool false), (9, .pointer (some ⟨b13, 0, none⟩)), (10, .pointer (some ⟨b14, 0, none⟩)), (11, .pointer (some ⟨b15, 0, none⟩)), (56, .bool x23)]
    refine QL.run 1 [] [4, 9, 10, 11, 57] [] [(4, .bool false), (9, .pointer (some ⟨b13, 0, none⟩)), (10, .pointer (some ⟨b14, 0, none⟩)), (11, .pointer (some ⟨b15, 0, none⟩)), (57, .bool x23)] (by kernel_rfl) ?_
    refine QL.sub [4, 9, 10, 11, 57] (L' := [(4, .bool false), (9, .pointer (some ⟨b13, 0, none⟩)), (10, .pointer (some ⟨b14, 0, none⟩)), (11, .pointer (some ⟨b15, 0, none⟩)), (57, .bool x23)]) (by kernel_rfl) ?_
    refine QL.join (σ := Bool) 4 (fun st => gangwaylaw04_EtherBuilds.k2 r11 a0 t2 st = some r) (fun st => [(4, .bool false), (9, .pointer (some ⟨b13, 0, none⟩)), (11, .pointer (some ⟨b15, 0, none⟩)), (61, .bool st)]) (fun st hM => ?_) (fun K2 => ?_)
    ·
      obtain ⟨x25, rfl⟩ : ∃ y, y = st := ⟨st, rfl⟩
      replace hM : gangwaylaw04_EtherBuilds.k2 r11 a0 t2 x25 = some r := hM
      unfold gangwaylaw04_EtherBuilds.k2 at hM
      show QL _ _ _ _ _ _ [(4, .bool false), (9, .pointer (some ⟨b13, 0, none⟩)), (11, .pointer (some ⟨b15, 0, none⟩)), (61, .bool x25)]
      refine QL.run 1 [] [4, 9, 11, 62] [] [(4, .bool false), (9, .pointer (some ⟨b13, 0, none⟩)), (11, .pointer (some ⟨b15, 0, none⟩)), (62, .bool x25)] (by kernel_rfl) ?_
      refine QL.sub [4, 9, 11, 62] (L' := [(4, .bool false), (9, .pointer (some ⟨b13, 0, none⟩)), (11, .pointer (some ⟨b15, 0, none⟩)), (62, .bool x25)]) (by kernel_rfl) ?_
      refine QL.join (σ := Bool) 5 (fun st => gangwaylaw04_EtherBuilds.k1 st = some r) (fun st => [(4, .bool false), (67, .bool st)]) (fun st hM => ?_) (fun K1 => ?_)
      ·
        obtain ⟨x29, rfl⟩ : ∃ y, y = st := ⟨st, rfl⟩
        replace hM : gangwaylaw04_EtherBuilds.k1 x29 = some r := hM
        unfold gangwaylaw04_EtherBuilds.k1 at hM
        show QL _ _ _ _ _ _ [(4, .bool false), (67, .bool x29)]
        refine QL.run 1 [] [4] [] [(4, .bool x29)] (by kernel_rfl) ?_
        refine QL.done ?_
        refine WP.keep [false, false, false, false] (by kernel_rfl : _ = []) ?_
        obtain rfl := Option.some.inj hM
        exact WP.ret [] [] (.bool x29) (by kernel_rfl) (fun w' hw => ⟨rfl, hw.pick [] rfl⟩)
      ·
        refine QL.split (fun b' => [(4, .bool false), (9, .pointer (some ⟨b13, 0, none⟩)), (11, .pointer (some ⟨b15, 0, none⟩)), (62, .bool b')]) x25 (fun c26 => ?_) (fun c26 => ?_)
        · replace hM := cond_t hM c26
          refine QL.run 1 [1, 1, 1, 1, 1, 1, 1, 1] [4, 11, 62, 63] [b13, b13, b13, b13, b13, b13, b13, b13] [(4, .bool false), (11, .pointer (some ⟨b15, 0, none⟩)), (62, .bool true), (63, .agg #[.int .u64 r11.Dst, .int .u64 r11.Src, .bool r11.Tag.Has, .int .i64 r11.Tag.Pri, .bool r11.Tag.Dei, .int .i64 r11.Tag.Vid, .int .i64 r11.Type_, .string r11.Body])] (by kernel_rfl) ?_
          obtain ⟨r27, h28, hM⟩ := bind_some hM
          refine QL.callP [] [] (ether_Bare_calls r11 _ h28) (fun _ h => h) (by kernel_rfl) (by kernel_rfl) rfl ?_
          refine QL.run 1 [3, 3, 3, 3, 3, 3, 3, 3] [4, 62, 64, 65] [b15, b15, b15, b15, b15, b15, b15, b15] [(4, .bool false), (62, .bool true), (64, .agg #[.int .u64 r27.Dst, .int .u64 r27.Src, .bool r27.Tag.Has, .int .i64 r27.Tag.Pri, .bool r27.Tag.Dei, .int .i64 r27.Tag.Vid, .int .i64 r27.Type_, .string r27.Body]), (65, .agg #[.int .u64 a0.Dst, .int .u64 a0.Src, .bool false, .int .i64 0, .bool false, .int .i64 0, .int .i64 a0.Type_, .string t2])] (by kernel_rfl) ?_
          refine QL.val (fun _ => run_structEq (xs := #[.int .u64 r27.Dst, .int .u64 r27.Src, .bool r27.Tag.Has, .int .i64 r27.Tag.Pri, .bool r27.Tag.Dei, .int .i64 r27.Tag.Vid, .int .i64 r27.Type_, .string r27.Body]) (ys := #[.int .u64 a0.Dst, .int .u64 a0.Src, .bool false, .int .i64 0, .bool false, .int .i64 0, .int .i64 a0.Type_, .string t2]) (b := ((r27.Dst == a0.Dst) && ((r27.Src == a0.Src) && (((r27.Tag.Has == false) && ((r27.Tag.Pri == 0) && ((r27.Tag.Dei == false) && ((r27.Tag.Vid == 0) && true)))) && ((r27.Type_ == a0.Type_) && ((r27.Body == t2) && true)))))) (by kernel_rfl) (by kernel_rfl) (by kernel_rfl) (by kernel_rfl)) (by kernel_rfl) (by kernel_rfl) rfl ?_
          refine QL.run 1 [] [4, 67] [] [(4, .bool false), (67, .bool ((r27.Dst == a0.Dst) && ((r27.Src == a0.Src) && (((r27.Tag.Has == false) && ((r27.Tag.Pri == 0) && ((r27.Tag.Dei == false) && ((r27.Tag.Vid == 0) && true)))) && ((r27.Type_ == a0.Type_) && ((r27.Body == t2) && true))))))] (by kernel_rfl) ?_
          exact QL.sub [4, 67] (by kernel_rfl) (K1 ((r27.Dst == a0.Dst) && ((r27.Src == a0.Src) && (((r27.Tag.Has == false) && ((r27.Tag.Pri == 0) && ((r27.Tag.Dei == false) && ((r27.Tag.Vid == 0) && true)))) && ((r27.Type_ == a0.Type_) && ((r27.Body == t2) && true))))) hM)
        · replace hM := cond_f hM c26
          refine QL.run 5 [] [4, 67] [] [(4, .bool false), (67, .bool false)] (by kernel_rfl) ?_
          exact QL.sub [4, 67] (by kernel_rfl) (K1 false hM)
    ·
      refine QL.split (fun b' => [(4, .bool false), (9, .pointer (some ⟨b13, 0, none⟩)), (10, .pointer (some ⟨b14, 0, none⟩)), (11, .pointer (some ⟨b15, 0, none⟩)), (57, .bool b')]) x23 (fun c24 => ?_) (fun c24 => ?_)
      · replace hM := cond_t hM c24
        refine QL.run 2 [1, 1, 1, 1, 1, 1, 1, 1, 2, 2, 2, 2, 2, 2, 2, 2] [4, 9, 11, 57, 58, 59] [b13, b13, b13, b13, b13, b13, b13, b13, b14, b14, b14, b14, b14, b14, b14, b14] [(4, .bool false), (9, .pointer (some ⟨b13, 0, none⟩)), (11, .pointer (some ⟨b15, 0, none⟩)), (57, .bool true), (58, .agg #[.int .u64 r11.Dst, .int .u64 r11.Src, .bool r11.Tag.Has, .int .i64 r11.Tag.Pri, .bool r11.Tag.Dei, .int .i64 r11.Tag.Vid, .int .i64 r11.Type_, .string r11.Body]), (59, .agg #[.int .u64 a0.Dst, .int .u64 a0.Src, .bool a1.Has, .int .i64 a1.Pri, .bool a1.Dei, .int .i64 a1.Vid, .int .i64 a0.Type_, .string t2])] (by kernel_rfl) ?_
        refine QL.val (fun _ => run_structEq (xs := #[.int .u64 r11.Dst, .int .u64 r11.Src, .bool r11.Tag.Has, .int .i64 r11.Tag.Pri, .bool r11.Tag.Dei, .int .i64 r11.Tag.Vid, .int .i64 r11.Type_, .string r11.Body]) (ys := #[.int .u64 a0.Dst, .int .u64 a0.Src, .bool a1.Has, .int .i64 a1.Pri, .bool a1.Dei, .int .i64 a1.Vid, .int .i64 a0.Type_, .string t2]) (b := ((r11.Dst == a0.Dst) && ((r11.Src == a0.Src) && (((r11.Tag.Has == a1.Has) && ((r11.Tag.Pri == a1.Pri) && ((r11.Tag.Dei == a1.Dei) && ((r11.Tag.Vid == a1.Vid) && true)))) && ((r11.Type_ == a0.Type_) && ((r11.Body == t2) && true)))))) (by kernel_rfl) (by kernel_rfl) (by kernel_rfl) (by kernel_rfl)) (by kernel_rfl) (by kernel_rfl) rfl ?_
        refine QL.run 1 [] [4, 9, 11, 61] [] [(4, .bool false), (9, .pointer (some ⟨b13, 0, none⟩)), (11, .pointer (some ⟨b15, 0, none⟩)), (61, .bool ((r11.Dst == a0.Dst) && ((r11.Src == a0.Src) && (((r11.Tag.Has == a1.Has) && ((r11.Tag.Pri == a1.Pri) && ((r11.Tag.Dei == a1.Dei) && ((r11.Tag.Vid == a1.Vid) && true)))) && ((r11.Type_ == a0.Type_) && ((r11.Body == t2) && true))))))] (by kernel_rfl) ?_
        exact QL.sub [4, 9, 11, 61] (by kernel_rfl) (K2 ((r11.Dst == a0.Dst) && ((r11.Src == a0.Src) && (((r11.Tag.Has == a1.Has) && ((r11.Tag.Pri == a1.Pri) && ((r11.Tag.Dei == a1.Dei) && ((r11.Tag.Vid == a1.Vid) && true)))) && ((r11.Type_ == a0.Type_) && ((r11.Body == t2) && true))))) hM)
      · replace hM := cond_f hM c24
        refine QL.run 4 [] [4, 9, 11, 61] [] [(4, .bool false), (9, .pointer (some ⟨b13, 0, none⟩)), (11, .pointer (some ⟨b15, 0, none⟩)), (61, .bool false)] (by kernel_rfl) ?_
        exact QL.sub [4, 9, 11, 61] (by kernel_rfl) (K2 false hM)
  ·
    refine QL.split (fun b' => [(2, .pointer (some ⟨b1, 0, none⟩)), (4, .bool false), (9, .pointer (some ⟨b13, 0, none⟩)), (10, .pointer (some ⟨b14, 0, none⟩)), (11, .pointer (some ⟨b15, 0, none⟩)), (50, .bool b')]) ((r16 && (r4.toList == r7.toList)) && (r5 == r8)) (fun c18 => ?_) (fun c18 => ?_)
    · replace hM := cond_t hM c18
      refine QL.run 1 [0, 0, 0, 0, 0, 0, 0, 0] [2, 4, 9, 10, 11, 50, 51] [b1, b1, b1, b1, b1, b1, b1, b1] [(2, .pointer (some ⟨b1, 0, none⟩)), (4, .bool false), (9, .pointer (some ⟨b13, 0, none⟩)), (10, .pointer (some ⟨b14, 0, none⟩)), (11, .pointer (some ⟨b15, 0, none⟩)), (50, .bool true), (51, .agg #[.int .u64 a0.Dst, .int .u64 a0.Src, .bool a0.Tag.Has, .int .i64 a0.Tag.Pri, .bool a0.Tag.Dei, .int .i64 a0.Tag.Vid, .int .i64 a0.Type_, .string t2])] (by kernel_rfl) ?_
      obtain ⟨r19, h20, hM⟩ := bind_some hM
      refine QL.callP [] [] (ether_Check_calls (api_Frame.mk a0.Dst a0.Src a0.Tag a0.Type_ t2) _ h20) (fun _ h => h) (by kernel_rfl) (by kernel_rfl) rfl ?_
      refine QL.run 1 [0, 0, 0, 0, 0, 0, 0, 0] [4, 9, 10, 11, 50, 52, 53] [b1, b1, b1, b1, b1, b1, b1, b1] [(4, .bool false), (9, .pointer (some ⟨b13, 0, none⟩)), (10, .pointer (some ⟨b14, 0, none⟩)), (11, .pointer (some ⟨b15, 0, none⟩)), (50, .bool true), (52, .int .i64 r19), (53, .agg #[.int .u64 a0.Dst, .int .u64 a0.Src, .bool a0.Tag.Has, .int .i64 a0.Tag.Pri, .bool a0.Tag.Dei, .int .i64 a0.Tag.Vid, .int .i64 a0.Type_, .string t2])] (by kernel_rfl) ?_
      obtain ⟨r21, h22, hM⟩ := bind_some hM
      refine QL.callP [] [] (gangwayref04_Check_calls (api_Frame.mk a0.Dst a0.Src a0.Tag a0.Type_ t2) _ h22) (fun _ h => h) (by kernel_rfl) (by kernel_rfl) rfl ?_
      refine QL.run 2 [] [4, 9, 10, 11, 56] [] [(4, .bool false), (9, .pointer (some ⟨b13, 0, none⟩)), (10, .pointer (some ⟨b14, 0, none⟩)), (11, .pointer (some ⟨b15, 0, none⟩)), (56, .bool (r19 == r21))] (by kernel_rfl) ?_
      exact QL.sub [4, 9, 10, 11, 56] (by kernel_rfl) (K3 (r19 == r21) hM)
    · replace hM := cond_f hM c18
      refine QL.run 6 [] [4, 9, 10, 11, 56] [] [(4, .bool false), (9, .pointer (some ⟨b13, 0, none⟩)), (10, .pointer (some ⟨b14, 0, none⟩)), (11, .pointer (some ⟨b15, 0, none⟩)), (56, .bool false)] (by kernel_rfl) ?_
      exact QL.sub [4, 9, 10, 11, 56] (by kernel_rfl) (K3 false hM)

end Go.Proofs.YtefbjefmclhhjaaDoor

namespace Go.Proofs.YtefbjefmclhhjaaDoor
open Go Eng
set_option linter.unusedVariables false
set_option linter.unusedSimpArgs false

/-! ### gangway/bpdu.below: function 36 -/
def bpdu_below.f (a0 : Int) (a1 : Int) : Option (Bool) :=
  some ((decide (a0 ≥ 0)) && (decide (a0 < a1)))

set_option maxRecDepth 100000 in
theorem bpdu_below_calls (a0 : Int) (a1 : Int) (r : Bool) (h : bpdu_below.f a0 a1 = some r) : Pure Tryd.prog Glob 36 #[.int .i64 a0, .int .i64 a1] (.bool r) := by
  intro w Z hS
  refine calls_of (args := [.int .i64 a0, .int .i64 a1]) (L := [(0, .int .i64 a0), (1, .int .i64 a1)]) (N := 12) (S := Sat w Z [] [] Glob) Tryd.func36 rfl rfl (Nat.le_of_ble_eq_true rfl) rfl hS ?_
  have hM := h
  clear h hS
  unfold bpdu_below.f at hM
  refine WP.seq ?_
  refine WP.run [] [0, 1, 4] (fun _ => [(0, .int .i64 a0), (1, .int .i64 a1), (4, .bool false)]) (fun _ => []) (fun _ => []) (fun _ => by kernel_rfl) (fun _ => ?_)
  refine WP.seq ?_
  refine WP.region ?_
  refine WL.run 3 [] [0, 1, 4, 7] (fun _ => [(0, .int .i64 a0), (1, .int .i64 a1), (4, .bool false), (7, .bool (decide (a0 ≥ 0)))]) (fun _ => []) (fun _ => []) (fun _ => by kernel_rfl) (fun _ => ?_)
  refine WL.sub [0, 1, 4, 7] (L' := [(0, .int .i64 a0), (1, .int .i64 a1), (4, .bool false), (7, .bool (decide (a0 ≥ 0)))]) (by kernel_rfl) ?_
  refine WL.both (fun b' => [(0, .int .i64 a0), (1, .int .i64 a1), (4, .bool false), (7, .bool b')]) (decide (a0 ≥ 0)) 4 [] [] [4, 11] (fun b' => [(4, .bool false), (11, .bool (b' && (decide (a0 < a1))))]) [] [] (fun _ => by kernel_rfl) (fun _ => by kernel_rfl) ?_
  refine WL.run 1 [] [4] (fun _ => [(4, .bool ((decide (a0 ≥ 0)) && (decide (a0 < a1))))]) (fun _ => []) (fun _ => []) (fun _ => by kernel_rfl) (fun _ => ?_)
  refine WP.done ?_
  obtain rfl := Option.some.inj hM
  exact WP.ret [] [] (.bool ((decide (a0 ≥ 0)) && (decide (a0 < a1)))) (by kernel_rfl) (fun w' hw => ⟨rfl, hw.pick [] rfl⟩)

end Go.Proofs.YtefbjefmclhhjaaDoor

namespace Go.Proofs.YtefbjefmclhhjaaDoor
open Go Eng
set_option linter.unusedVariables false
set_option linter.unusedSimpArgs false

/-! ### gangway/bpdu.Check: function 19 -/
def bpdu_Check.k1 (x31 : Bool) : Option (Int) :=
  bif !x31 then
    some 91
  else
    some 0

def bpdu_Check.k2 (a0 : api_Bpdu) (x27 : Bool) : Option (Int) :=
  bif (a0.Kind == 128) then
    bpdu_Check.k1 ((a0.Kind == 128) && ((a0.Change == false) && ((a0.Propose == false) && ((a0.Learn == false) && ((a0.Forward == false) && ((a0.Agree == false) && ((a0.Ack == false) && ((a0.Role == 0) && ((a0.Root == 0) && ((a0.Cost == 0) && ((a0.Bridge == 0) && ((a0.Port == 0) && ((a0.Age == 0) && ((a0.MaxAge == 0) && ((a0.Hello == 0) && ((a0.Delay == 0) && true))))))))))))))))
  else
    bif (a0.Kind == 0) then
      bpdu_Check.k1 (((((x27 && (!a0.Propose)) && (!a0.Learn)) && (!a0.Forward)) && (!a0.Agree)) && (a0.Role == 0))
    else
      bif (a0.Kind == 2) then
        bpdu_Check.k1 x27
      else
        bpdu_Check.k1 false

def bpdu_Check.k3 (a0 : api_Bpdu) (x23 : Bool) : Option (Int) :=
  bif x23 then
    (bpdu_below.f a0.Port 65536).bind fun r25 =>
    bpdu_Check.k2 a0 r25
  else
    bpdu_Check.k2 a0 false

def bpdu_Check.k4 (a0 : api_Bpdu) (x19 : Bool) : Option (Int) :=
  bif x19 then
    (bpdu_below.f a0.Cost 4294967296).bind fun r21 =>
    bpdu_Check.k3 a0 r21
  else
    bpdu_Check.k3 a0 false

def bpdu_Check.k5 (a0 : api_Bpdu) (x15 : Bool) : Option (Int) :=
  bif x15 then
    (bpdu_below.f a0.Role 4).bind fun r17 =>
    bpdu_Check.k4 a0 r17
  else
    bpdu_Check.k4 a0 false

def bpdu_Check.k6 (a0 : api_Bpdu) (x11 : Bool) : Option (Int) :=
  bif x11 then
    (bpdu_below.f a0.Delay 65536).bind fun r13 =>
    bpdu_Check.k5 a0 r13
  else
    bpdu_Check.k5 a0 false

def bpdu_Check.k7 (a0 : api_Bpdu) (x7 : Bool) : Option (Int) :=
  bif x7 then
    (bpdu_below.f a0.Hello 65536).bind fun r9 =>
    bpdu_Check.k6 a0 r9
  else
    bpdu_Check.k6 a0 false

def bpdu_Check.f (a0 : api_Bpdu) : Option (Int) :=
  (bpdu_below.f a0.Age 65536).bind fun r2 =>
  bif r2 then
    (bpdu_below.f a0.MaxAge 65536).bind fun r5 =>
    bpdu_Check.k7 a0 r5
  else
    bpdu_Check.k7 a0 false

set_option maxRecDepth 100000 in
theorem bpdu_Check_calls (a0 : api_Bpdu) (r : Int) (h : bpdu_Check.f a0 = some r) : Pure Tryd.prog Glob 19 #[.agg #[.int .i64 a0.Kind, .bool a0.Change, .bool a0.Propose, .bool a0.Learn, .bool a0.Forward, .bool a0.Agree, .bool a0.Ack, .int .i64 a0.Role, .int .u64 a0.Root, .int .i64 a0.Cost, .int .u64 a0.Bridge, .int .i64 a0.Port, .int .i64 a0.Age, .int .i64 a0.MaxAge, .int .i64 a0.Hello, .int .i64 a0.Delay]] (.int .i64 r) := by
  intro w Z hS
  refine calls_of (args := [.agg #[.int .i64 a0.Kind, .bool a0.Change, .bool a0.Propose, .bool a0.Learn, .bool a0.Forward, .bool a0.Agree, .bool a0.Ack, .int .i64 a0.Role, .int .u64 a0.Root, .int .i64 a0.Cost, .int .u64 a0.Bridge, .int .i64 a0.Port, .int .i64 a0.Age, .int .i64 a0.MaxAge, .int .i64 a0.Hello, .int .i64 a0.Delay]]) (L := [(0, .agg #[.int .i64 a0.Kind, .bool a0.Change, .bool a0.Propose, .bool a0.Learn, .bool a0.Forward, .bool a0.Agree, .bool a0.Ack, .int .i64 a0.Role, .int .u64 a0.Root, .int .i64 a0.Cost, .int .u64 a0.Bridge, .int .i64 a0.Port, .int .i64 a0.Age, .int .i64 a0.MaxAge, .int .i64 a0.Hello, .int .i64 a0.Delay])]) (N := 78) (S := Sat w Z [] [] Glob) Tryd.func19 rfl rfl (Nat.le_of_ble_eq_true rfl) rfl hS ?_
  have hM := h
  clear h hS
  unfold bpdu_Check.f at hM
  refine WP.seq ?_
  refine WP.run [] [1, 2] (fun b1 => [(1, .pointer (some ⟨b1, 0, none⟩)), (2, .int .i64 0)]) (fun b1 => [(b1, .cells #[.int .i64 a0.Kind, .bool a0.Change, .bool a0.Propose, .bool a0.Learn, .bool a0.Forward, .bool a0.Agree, .bool a0.Ack, .int .i64 a0.Role, .int .u64 a0.Root, .int .i64 a0.Cost, .int .u64 a0.Bridge, .int .i64 a0.Port, .int .i64 a0.Age, .int .i64 a0.MaxAge, .int .i64 a0.Hello, .int .i64 a0.Delay] 41 (0, 0))]) (fun b1 => []) (fun b1 => by kernel_rfl) (fun b1 => ?_)
  refine WP.seq ?_
  refine WP.region ?_
  refine WL.run 2 [0] [1, 2, 6] (fun _ => [(1, .pointer (some ⟨b1, 0, none⟩)), (2, .int .i64 0), (6, .int .i64 a0.Age)]) (fun _ => [(b1, .cells #[.int .i64 a0.Kind, .bool a0.Change, .bool a0.Propose, .bool a0.Learn, .bool a0.Forward, .bool a0.Agree, .bool a0.Ack, .int .i64 a0.Role, .int .u64 a0.Root, .int .i64 a0.Cost, .int .u64 a0.Bridge, .int .i64 a0.Port, .int .i64 a0.Age, .int .i64 a0.MaxAge, .int .i64 a0.Hello, .int .i64 a0.Delay] 41 (0, 0))]) (fun _ => [b1]) (fun _ => by kernel_rfl) (fun _ => ?_)
  obtain ⟨r2, h3, hM⟩ := bind_some hM
  refine WL.callP [] [] (bpdu_below_calls a0.Age 65536 _ h3) (fun _ h => h) (by kernel_rfl) (by kernel_rfl) rfl ?_
  refine WL.run 1 [] [1, 2, 8] (fun _ => [(1, .pointer (some ⟨b1, 0, none⟩)), (2, .int .i64 0), (8, .bool r2)]) (fun _ => [(b1, .cells #[.int .i64 a0.Kind, .bool a0.Change, .bool a0.Propose, .bool a0.Learn, .bool a0.Forward, .bool a0.Agree, .bool a0.Ack, .int .i64 a0.Role, .int .u64 a0.Root, .int .i64 a0.Cost, .int .u64 a0.Bridge, .int .i64 a0.Port, .int .i64 a0.Age, .int .i64 a0.MaxAge, .int .i64 a0.Hello, .int .i64 a0.Delay] 41 (0, 0))]) (fun _ => []) (fun _ => by kernel_rfl) (fun _ => ?_)
  refine WL.sub [1, 2, 8] (L' := [(1, .pointer (some ⟨b1, 0, none⟩)), (2, .int .i64 0), (8, .bool r2)]) (by kernel_rfl) ?_
  refine WL.join (σ := Bool) 4 (fun st => bpdu_Check.k7 a0 st = some r) (fun st => [(1, .pointer (some ⟨b1, 0, none⟩)), (2, .int .i64 0), (12, .bool st)]) (fun st => Sat w Z [(b1, .cells #[.int .i64 a0.Kind, .bool a0.Change, .bool a0.Propose, .bool a0.Learn, .bool a0.Forward, .bool a0.Agree, .bool a0.Ack, .int .i64 a0.Role, .int .u64 a0.Root, .int .i64 a0.Cost, .int .u64 a0.Bridge, .int .i64 a0.Port, .int .i64 a0.Age, .int .i64 a0.MaxAge, .int .i64 a0.Hello, .int .i64 a0.Delay] 41 (0, 0))] [] Glob) (fun st hM => ?_) (fun K7 => ?_)
  ·
    obtain ⟨x7, rfl⟩ : ∃ y, y = st := ⟨st, rfl⟩
    replace hM : bpdu_Check.k7 a0 x7 = some r := hM
    unfold bpdu_Check.k7 at hM
    show WL _ _ _ _ _ [(1, .pointer (some ⟨b1, 0, none⟩)), (2, .int .i64 0), (12, .bool x7)] (Sat w Z [(b1, .cells #[.int .i64 a0.Kind, .bool a0.Change, .bool a0.Propose, .bool a0.Learn, .bool a0.Forward, .bool a0.Agree, .bool a0.Ack, .int .i64 a0.Role, .int .u64 a0.Root, .int .i64 a0.Cost, .int .u64 a0.Bridge, .int .i64 a0.Port, .int .i64 a0.Age, .int .i64 a0.MaxAge, .int .i64 a0.Hello, .int .i64 a0.Delay] 41 (0, 0))] [] Glob)
    refine WL.run 1 [] [1, 2, 13] (fun _ => [(1, .pointer (some ⟨b1, 0, none⟩)), (2, .int .i64 0), (13, .bool x7)]) (fun _ => [(b1, .cells #[.int .i64 a0.Kind, .bool a0.Change, .bool a0.Propose, .bool a0.Learn, .bool a0.Forward, .bool a0.Agree, .bool a0.Ack, .int .i64 a0.Role, .int .u64 a0.Root, .int .i64 a0.Cost, .int .u64 a0.Bridge, .int .i64 a0.Port, .int .i64 a0.Age, .int .i64 a0.MaxAge, .int .i64 a0.Hello, .int .i64 a0.Delay] 41 (0, 0))]) (fun _ => []) (fun _ => by kernel_rfl) (fun _ => ?_)
    refine WL.sub [1, 2, 13] (L' := [(1, .pointer (some ⟨b1, 0, none⟩)), (2, .int .i64 0), (13, .bool x7)]) (by kernel_rfl) ?_
    refine WL.join (σ := Bool) 4 (fun st => bpdu_Check.k6 a0 st = some r) (fun st => [(1, .pointer (some ⟨b1, 0, none⟩)), (2, .int .i64 0), (17, .bool st)]) (fun st => Sat w Z [(b1, .cells #[.int .i64 a0.Kind, .bool a0.Change, .bool a0.Propose, .bool a0.Learn, .bool a0.Forward, .bool a0.Agree, .bool a0.Ack, .int .i64 a0.Role, .int .u64 a0.Root, .int .i64 a0.Cost, .int .u64 a0.Bridge, .int .i64 a0.Port, .int .i64 a0.Age, .int .i64 a0.MaxAge, .int .i64 a0.Hello, .int .i64 a0.Delay] 41 (0, 0))] [] Glob) (fun st hM => ?_) (fun K6 => ?_)
    ·
      obtain ⟨x11, rfl⟩ : ∃ y, y = st := ⟨st, rfl⟩
      replace hM : bpdu_Check.k6 a0 x11 = some r := hM
      unfold bpdu_Check.k6 at hM
      show WL _ _ _ _ _ [(1, .pointer (some ⟨b1, 0, none⟩)), (2, .int .i64 0), (17, .bool x11)] (Sat w Z [(b1, .cells #[.int .i64 a0.Kind, .bool a0.Change, .bool a0.Propose, .bool a0.Learn, .bool a0.Forward, .bool a0.Agree, .bool a0.Ack, .int .i64 a0.Role, .int .u64 a0.Root, .int .i64 a0.Cost, .int .u64 a0.Bridge, .int .i64 a0.Port, .int .i64 a0.Age, .int .i64 a0.MaxAge, .int .i64 a0.Hello, .int .i64 a0.Delay] 41 (0, 0))] [] Glob)
      refine WL.run 1 [] [1, 2, 18] (fun _ => [(1, .pointer (some ⟨b1, 0, none⟩)), (2, .int .i64 0), (18, .bool x11)]) (fun _ => [(b1, .cells #[.int .i64 a0.Kind, .bool a0.Change, .bool a0.Propose, .bool a0.Learn, .bool a0.Forward, .bool a0.Agree, .bool a0.Ack, .int .i64 a0.Role, .int .u64 a0.Root, .int .i64 a0.Cost, .int .u64 a0.Bridge, .int .i64 a0.Port, .int .i64 a0.Age, .int .i64 a0.MaxAge, .int .i64 a0.Hello, .int .i64 a0.Delay] 41 (0, 0))]) (fun _ => []) (fun _ => by kernel_rfl) (fun _ => ?_)
      refine WL.sub [1, 2, 18] (L' := [(1, .pointer (some ⟨b1, 0, none⟩)), (2, .int .i64 0), (18, .bool x11)]) (by kernel_rfl) ?_
      refine WL.join (σ := Bool) 4 (fun st => bpdu_Check.k5 a0 st = some r) (fun st => [(1, .pointer (some ⟨b1, 0, none⟩)), (2, .int .i64 0), (22, .bool st)]) (fun st => Sat w Z [(b1, .cells #[.int .i64 a0.Kind, .bool a0.Change, .bool a0.Propose, .bool a0.Learn, .bool a0.Forward, .bool a0.Agree, .bool a0.Ack, .int .i64 a0.Role, .int .u64 a0.Root, .int .i64 a0.Cost, .int .u64 a0.Bridge, .int .i64 a0.Port, .int .i64 a0.Age, .int .i64 a0.MaxAge, .int .i64 a0.Hello, .int .i64 a0.Delay] 41 (0, 0))] [] Glob) (fun st hM => ?_) (fun K5 => ?_)
      ·
        obtain ⟨x15, rfl⟩ : ∃ y, y = st := ⟨st, rfl⟩
        replace hM : bpdu_Check.k5 a0 x15 = some r := hM
        unfold bpdu_Check.k5 at hM
        show WL _ _ _ _ _ [(1, .pointer (some ⟨b1, 0, none⟩)), (2, .int .i64 0), (22, .bool x15)] (Sat w Z [(b1, .cells #[.int .i64 a0.Kind, .bool a0.Change, .bool a0.Propose, .bool a0.Learn, .bool a0.Forward, .bool a0.Agree, .bool a0.Ack, .int .i64 a0.Role, .int .u64 a0.Root, .int .i64 a0.Cost, .int .u64 a0.Bridge, .int .i64 a0.Port, .int .i64 a0.Age, .int .i64 a0.MaxAge, .int .i64 a0.Hello, .int .i64 a0.Delay] 41 (0, 0))] [] Glob)
        refine WL.run 1 [] [1, 2, 3] (fun _ => [(1, .pointer (some ⟨b1, 0, none⟩)), (2, .int .i64 0), (3, .bool x15)]) (fun _ => [(b1, .cells #[.int .i64 a0.Kind, .bool a0.Change, .bool a0.Propose, .bool a0.Learn, .bool a0.Forward, .bool a0.Agree, .bool a0.Ack, .int .i64 a0.Role, .int .u64 a0.Root, .int .i64 a0.Cost, .int .u64 a0.Bridge, .int .i64 a0.Port, .int .i64 a0.Age, .int .i64 a0.MaxAge, .int .i64 a0.Hello, .int .i64 a0.Delay] 41 (0, 0))]) (fun _ => []) (fun _ => by kernel_rfl) (fun _ => ?_)
        refine WP.done ?_
        refine WP.seq ?_
        refine WP.region ?_
        refine WL.run 2 [] [1, 2, 24] (fun _ => [(1, .pointer (some ⟨b1, 0, none⟩)), (2, .int .i64 0), (24, .bool x15)]) (fun _ => [(b1, .cells #[.int .i64 a0.Kind, .bool a0.Change, .bool a0.Propose, .bool a0.Learn, .bool a0.Forward, .bool a0.Agree, .bool a0.Ack, .int .i64 a0.Role, .int .u64 a0.Root, .int .i64 a0.Cost, .int .u64 a0.Bridge, .int .i64 a0.Port, .int .i64 a0.Age, .int .i64 a0.MaxAge, .int .i64 a0.Hello, .int .i64 a0.Delay] 41 (0, 0))]) (fun _ => []) (fun _ => by kernel_rfl) (fun _ => ?_)
        refine WL.sub [1, 2, 24] (L' := [(1, .pointer (some ⟨b1, 0, none⟩)), (2, .int .i64 0), (24, .bool x15)]) (by kernel_rfl) ?_
        refine WL.join (σ := Bool) 4 (fun st => bpdu_Check.k4 a0 st = some r) (fun st => [(1, .pointer (some ⟨b1, 0, none⟩)), (2, .int .i64 0), (28, .bool st)]) (fun st => Sat w Z [(b1, .cells #[.int .i64 a0.Kind, .bool a0.Change, .bool a0.Propose, .bool a0.Learn, .bool a0.Forward, .bool a0.Agree, .bool a0.Ack, .int .i64 a0.Role, .int .u64 a0.Root, .int .i64 a0.Cost, .int .u64 a0.Bridge, .int .i64 a0.Port, .int .i64 a0.Age, .int .i64 a0.MaxAge, .int .i64 a0.Hello, .int .i64 a0.Delay] 41 (0, 0))] [] Glob) (fun st hM => ?_) (fun K4 => ?_)
        ·
          obtain ⟨x19, rfl⟩ : ∃ y, y = st := ⟨st, rfl⟩
          replace hM : bpdu_Check.k4 a0 x19 = some r := hM
          unfold bpdu_Check.k4 at hM
          show WL _ _ _ _ _ [(1, .pointer (some ⟨b1, 0, none⟩)), (2, .int .i64 0), (28, .bool x19)] (Sat w Z [(b1, .cells #[.int .i64 a0.Kind, .bool a0.Change, .bool a0.Propose, .bool a0.Learn, .bool a0.Forward, .bool a0.Agree, .bool a0.Ack, .int .i64 a0.Role, .int .u64 a0.Root, .int .i64 a0.Cost, .int .u64 a0.Bridge, .int .i64 a0.Port, .int .i64 a0.Age, .int .i64 a0.MaxAge, .int .i64 a0.Hello, .int .i64 a0.Delay] 41 (0, 0))] [] Glob)
          refine WL.run 1 [] [1, 2, 29] (fun _ => [(1, .pointer (some ⟨b1, 0, none⟩)), (2, .int .i64 0), (29, .bool x19)]) (fun _ => [(b1, .cells #[.int .i64 a0.Kind, .bool a0.Change, .bool a0.Propose, .bool a0.Learn, .bool a0.Forward, .bool a0.Agree, .bool a0.Ack, .int .i64 a0.Role, .int .u64 a0.Root, .int .i64 a0.Cost, .int .u64 a0.Bridge, .int .i64 a0.Port, .int .i64 a0.Age, .int .i64 a0.MaxAge, .int .i64 a0.Hello, .int .i64 a0.Delay] 41 (0, 0))]) (fun _ => []) (fun _ => by kernel_rfl) (fun _ => ?_)
          refine WL.sub [1, 2, 29] (L' := [(1, .pointer (some ⟨b1, 0, none⟩)), (2, .int .i64 0), (29, .bool x19)]) (by kernel_rfl) ?_
          refine WL.join (σ := Bool) 4 (fun st => bpdu_Check.k3 a0 st = some r) (fun st => [(1, .pointer (some ⟨b1, 0, none⟩)), (2, .int .i64 0), (33, .bool st)]) (fun st => Sat w Z [(b1, .cells #[.int .i64 a0.Kind, .bool a0.Change, .bool a0.Propose, .bool a0.Learn, .bool a0.Forward, .bool a0.Agree, .bool a0.Ack, .int .i64 a0.Role, .int .u64 a0.Root, .int .i64 a0.Cost, .int .u64 a0.Bridge, .int .i64 a0.Port, .int .i64 a0.Age, .int .i64 a0.MaxAge, .int .i64 a0.Hello, .int .i64 a0.Delay] 41 (0, 0))] [] Glob) (fun st hM => ?_) (fun K3 => ?_)
          ·
            obtain ⟨x23, rfl⟩ : ∃ y, y = st := ⟨st, rfl⟩
            replace hM : bpdu_Check.k3 a0 x23 = some r := hM
            unfold bpdu_Check.k3 at hM
            show WL _ _ _ _ _ [(1, .pointer (some ⟨b1, 0, none⟩)), (2, .int .i64 0), (33, .bool x23)] (Sat w Z [(b1, .cells #[.int .i64 a0.Kind, .bool a0.Change, .bool a0.Propose, .bool a0.Learn, .bool a0.Forward, .bool a0.Agree, .bool a0.Ack, .int .i64 a0.Role, .int .u64 a0.Root, .int .i64 a0.Cost, .int .u64 a0.Bridge, .int .i64 a0.Port, .int .i64 a0.Age, .int .i64 a0.MaxAge, .int .i64 a0.Hello, .int .i64 a0.Delay] 41 (0, 0))] [] Glob)
            refine WL.run 1 [] [1, 2, 34] (fun _ => [(1, .pointer (some ⟨b1, 0, none⟩)), (2, .int .i64 0), (34, .bool x23)]) (fun _ => [(b1, .cells #[.int .i64 a0.Kind, .bool a0.Change, .bool a0.Propose, .bool a0.Learn, .bool a0.Forward, .bool a0.Agree, .bool a0.Ack, .int .i64 a0.Role, .int .u64 a0.Root, .int .i64 a0.Cost, .int .u64 a0.Bridge, .int .i64 a0.Port, .int .i64 a0.Age, .int .i64 a0.MaxAge, .int .i64 a0.Hello, .int .i64 a0.Delay] 41 (0, 0))]) (fun _ => []) (fun _ => by kernel_rfl) (fun _ => ?_)
            refine WL.sub [1, 2, 34] (L' := [(1, .pointer (some ⟨b1, 0, none⟩)), (2, .int .i64 0), (34, .bool x23)]) (by kernel_rfl) ?_
            refine WL.join (σ := Bool) 4 (fun st => bpdu_Check.k2 a0 st = some r) (fun st => [(1, .pointer (some ⟨b1, 0, none⟩)), (2, .int .i64 0), (38, .bool st)]) (fun st => Sat w Z [(b1, .cells #[.int .i64 a0.Kind, .bool a0.Change, .bool a0.Propose, .bool a0.Learn, .bool a0.Forward, .bool a0.Agree, .bool a0.Ack, .int .i64 a0.Role, .int .u64 a0.Root, .int .i64 a0.Cost, .int .u64 a0.Bridge, .int .i64 a0.Port, .int .i64 a0.Age, .int .i64 a0.MaxAge, .int .i64 a0.Hello, .int .i64 a0.Delay] 41 (0, 0))] [] Glob) (fun st hM => ?_) (fun K2 => ?_)
            ·
              obtain ⟨x27, rfl⟩ : ∃ y, y = st := ⟨st, rfl⟩
              replace hM : bpdu_Check.k2 a0 x27 = some r := hM
              unfold bpdu_Check.k2 at hM
              show WL _ _ _ _ _ [(1, .pointer (some ⟨b1, 0, none⟩)), (2, .int .i64 0), (38, .bool x27)] (Sat w Z [(b1, .cells #[.int .i64 a0.Kind, .bool a0.Change, .bool a0.Propose, .bool a0.Learn, .bool a0.Forward, .bool a0.Agree, .bool a0.Ack, .int .i64 a0.Role, .int .u64 a0.Root, .int .i64 a0.Cost, .int .u64 a0.Bridge, .int .i64 a0.Port, .int .i64 a0.Age, .int .i64 a0.MaxAge, .int .i64 a0.Hello, .int .i64 a0.Delay] 41 (0, 0))] [] Glob)
              refine WL.run 1 [] [1, 2, 4] (fun _ => [(1, .pointer (some ⟨b1, 0, none⟩)), (2, .int .i64 0), (4, .bool x27)]) (fun _ => [(b1, .cells #[.int .i64 a0.Kind, .bool a0.Change, .bool a0.Propose, .bool a0.Learn, .bool a0.Forward, .bool a0.Agree, .bool a0.Ack, .int .i64 a0.Role, .int .u64 a0.Root, .int .i64 a0.Cost, .int .u64 a0.Bridge, .int .i64 a0.Port, .int .i64 a0.Age, .int .i64 a0.MaxAge, .int .i64 a0.Hello, .int .i64 a0.Delay] 41 (0, 0))]) (fun _ => []) (fun _ => by kernel_rfl) (fun _ => ?_)
              refine WP.done ?_
              refine WP.seq ?_
              refine WP.seq ?_
              refine WP.run [0] [1, 2, 4, 40] (fun _ => [(1, .pointer (some ⟨b1, 0, none⟩)), (2, .int .i64 0), (4, .bool x27), (40, .int .i64 a0.Kind)]) (fun _ => [(b1, .cells #[.int .i64 a0.Kind, .bool a0.Change, .bool a0.Propose, .bool a0.Learn, .bool a0.Forward, .bool a0.Agree, .bool a0.Ack, .int .i64 a0.Role, .int .u64 a0.Root, .int .i64 a0.Cost, .int .u64 a0.Bridge, .int .i64 a0.Port, .int .i64 a0.Age, .int .i64 a0.MaxAge, .int .i64 a0.Hello, .int .i64 a0.Delay] 41 (0, 0))]) (fun _ => [b1]) (fun _ => by kernel_rfl) (fun _ => ?_)
              refine WP.blockJoin (σ := Bool) (fun st => bpdu_Check.k1 st = some r) (fun st => [(2, .int .i64 0), (4, .bool st)]) (fun st => Sat w Z [] [] Glob) (fun st hM => ?_) (fun K1 => ?_)
              ·
                obtain ⟨x31, rfl⟩ : ∃ y, y = st := ⟨st, rfl⟩
                replace hM : bpdu_Check.k1 x31 = some r := hM
                unfold bpdu_Check.k1 at hM
                show WP _ _ _ _ _ [(2, .int .i64 0), (4, .bool x31)] (Sat w Z [] [] Glob)
                refine WP.seq ?_
                refine WP.seq ?_
                refine WP.run [] [2, 77] (fun _ => [(2, .int .i64 0), (77, .bool (!x31))]) (fun _ => []) (fun _ => []) (fun _ => by kernel_rfl) (fun _ => ?_)
                refine WP.cond (!x31) rfl rfl (fun c32 => ?_) (fun c32 => ?_)
                · replace hM := cond_t hM c32
                  refine WP.seq ?_
                  refine WP.run [] [2] (fun _ => [(2, .int .i64 91)]) (fun _ => []) (fun _ => []) (fun _ => by kernel_rfl) (fun _ => ?_)
                  obtain rfl := Option.some.inj hM
                  exact WP.ret [] [] (.int .i64 91) (by kernel_rfl) (fun w' hw => ⟨rfl, hw.pick [] rfl⟩)
                · replace hM := cond_f hM c32
                  refine WP.skip ?_
                  refine WP.seq ?_
                  refine WP.run [] [2] (fun _ => [(2, .int .i64 0)]) (fun _ => []) (fun _ => []) (fun _ => by kernel_rfl) (fun _ => ?_)
                  obtain rfl := Option.some.inj hM
                  exact WP.ret [] [] (.int .i64 0) (by kernel_rfl) (fun w' hw => ⟨rfl, hw.pick [] rfl⟩)
              ·
                refine WP.seq ?_
                refine WP.run [] [1, 2, 4, 40, 41] (fun _ => [(1, .pointer (some ⟨b1, 0, none⟩)), (2, .int .i64 0), (4, .bool x27), (40, .int .i64 a0.Kind), (41, .bool (a0.Kind == 128))]) (fun _ => [(b1, .cells #[.int .i64 a0.Kind, .bool a0.Change, .bool a0.Propose, .bool a0.Learn, .bool a0.Forward, .bool a0.Agree, .bool a0.Ack, .int .i64 a0.Role, .int .u64 a0.Root, .int .i64 a0.Cost, .int .u64 a0.Bridge, .int .i64 a0.Port, .int .i64 a0.Age, .int .i64 a0.MaxAge, .int .i64 a0.Hello, .int .i64 a0.Delay] 41 (0, 0))]) (fun _ => []) (fun _ => by kernel_rfl) (fun _ => ?_)
                refine WP.cond (a0.Kind == 128) rfl rfl (fun c28 => ?_) (fun c28 => ?_)
                · replace hM := cond_t hM c28
                  refine WP.region ?_
                  refine WL.run 2 [0, 0, 0, 0, 0, 0, 0, 0, 0, 0, 0, 0, 0, 0, 0, 0] [2, 4, 43, 44] (fun _ => [(2, .int .i64 0), (4, .bool x27), (43, .agg #[.int .i64 a0.Kind, .bool a0.Change, .bool a0.Propose, .bool a0.Learn, .bool a0.Forward, .bool a0.Agree, .bool a0.Ack, .int .i64 a0.Role, .int .u64 a0.Root, .int .i64 a0.Cost, .int .u64 a0.Bridge, .int .i64 a0.Port, .int .i64 a0.Age, .int .i64 a0.MaxAge, .int .i64 a0.Hello, .int .i64 a0.Delay]), (44, .agg #[.int .i64 128, .bool false, .bool false, .bool false, .bool false, .bool false, .bool false, .int .i64 0, .int .u64 0, .int .i64 0, .int .u64 0, .int .i64 0, .int .i64 0, .int .i64 0, .int .i64 0, .int .i64 0])]) (fun _ => [(b1, .cells #[.int .i64 a0.Kind, .bool a0.Change, .bool a0.Propose, .bool a0.Learn, .bool a0.Forward, .bool a0.Agree, .bool a0.Ack, .int .i64 a0.Role, .int .u64 a0.Root, .int .i64 a0.Cost, .int .u64 a0.Bridge, .int .i64 a0.Port, .int .i64 a0.Age, .int .i64 a0.MaxAge, .int .i64 a0.Hello, .int .i64 a0.Delay] 41 (0, 0))]) (fun _ => [b1, b1, b1, b1, b1, b1, b1, b1, b1, b1, b1, b1, b1, b1, b1, b1]) (fun _ => by kernel_rfl) (fun _ => ?_)
                  refine WL.val (fun _ => run_structEq (xs := #[.int .i64 a0.Kind, .bool a0.Change, .bool a0.Propose, .bool a0.Learn, .bool a0.Forward, .bool a0.Agree, .bool a0.Ack, .int .i64 a0.Role, .int .u64 a0.Root, .int .i64 a0.Cost, .int .u64 a0.Bridge, .int .i64 a0.Port, .int .i64 a0.Age, .int .i64 a0.MaxAge, .int .i64 a0.Hello, .int .i64 a0.Delay]) (ys := #[.int .i64 128, .bool false, .bool false, .bool false, .bool false, .bool false, .bool false, .int .i64 0, .int .u64 0, .int .i64 0, .int .u64 0, .int .i64 0, .int .i64 0, .int .i64 0, .int .i64 0, .int .i64 0]) (b := ((a0.Kind == 128) && ((a0.Change == false) && ((a0.Propose == false) && ((a0.Learn == false) && ((a0.Forward == false) && ((a0.Agree == false) && ((a0.Ack == false) && ((a0.Role == 0) && ((a0.Root == 0) && ((a0.Cost == 0) && ((a0.Bridge == 0) && ((a0.Port == 0) && ((a0.Age == 0) && ((a0.MaxAge == 0) && ((a0.Hello == 0) && ((a0.Delay == 0) && true))))))))))))))))) (by kernel_rfl) (by kernel_rfl) (by kernel_rfl) (by kernel_rfl)) (by kernel_rfl) (by kernel_rfl) rfl ?_
                  refine WL.run 1 [] [2, 4] (fun _ => [(2, .int .i64 0), (4, .bool ((a0.Kind == 128) && ((a0.Change == false) && ((a0.Propose == false) && ((a0.Learn == false) && ((a0.Forward == false) && ((a0.Agree == false) && ((a0.Ack == false) && ((a0.Role == 0) && ((a0.Root == 0) && ((a0.Cost == 0) && ((a0.Bridge == 0) && ((a0.Port == 0) && ((a0.Age == 0) && ((a0.MaxAge == 0) && ((a0.Hello == 0) && ((a0.Delay == 0) && true)))))))))))))))))]) (fun _ => [(b1, .cells #[.int .i64 a0.Kind, .bool a0.Change, .bool a0.Propose, .bool a0.Learn, .bool a0.Forward, .bool a0.Agree, .bool a0.Ack, .int .i64 a0.Role, .int .u64 a0.Root, .int .i64 a0.Cost, .int .u64 a0.Bridge, .int .i64 a0.Port, .int .i64 a0.Age, .int .i64 a0.MaxAge, .int .i64 a0.Hello, .int .i64 a0.Delay] 41 (0, 0))]) (fun _ => []) (fun _ => by kernel_rfl) (fun _ => ?_)
                  refine WP.done ?_
                  refine WP.keep [false] (by kernel_rfl : _ = []) ?_
                  refine WP.leave ?_
                  exact WP.sub [2, 4] (by kernel_rfl) (WP.pick [] (by kernel_rfl) (by kernel_rfl) (K1 ((a0.Kind == 128) && ((a0.Change == false) && ((a0.Propose == false) && ((a0.Learn == false) && ((a0.Forward == false) && ((a0.Agree == false) && ((a0.Ack == false) && ((a0.Role == 0) && ((a0.Root == 0) && ((a0.Cost == 0) && ((a0.Bridge == 0) && ((a0.Port == 0) && ((a0.Age == 0) && ((a0.MaxAge == 0) && ((a0.Hello == 0) && ((a0.Delay == 0) && true)))))))))))))))) hM))
                · replace hM := cond_f hM c28
                  refine WP.seq ?_
                  refine WP.run [] [1, 2, 4, 40, 46] (fun _ => [(1, .pointer (some ⟨b1, 0, none⟩)), (2, .int .i64 0), (4, .bool x27), (40, .int .i64 a0.Kind), (46, .bool (a0.Kind == 0))]) (fun _ => [(b1, .cells #[.int .i64 a0.Kind, .bool a0.Change, .bool a0.Propose, .bool a0.Learn, .bool a0.Forward, .bool a0.Agree, .bool a0.Ack, .int .i64 a0.Role, .int .u64 a0.Root, .int .i64 a0.Cost, .int .u64 a0.Bridge, .int .i64 a0.Port, .int .i64 a0.Age, .int .i64 a0.MaxAge, .int .i64 a0.Hello, .int .i64 a0.Delay] 41 (0, 0))]) (fun _ => []) (fun _ => by kernel_rfl) (fun _ => ?_)
                  refine WP.cond (a0.Kind == 0) rfl rfl (fun c29 => ?_) (fun c29 => ?_)
                  · replace hM := cond_t hM c29
                    refine WP.region ?_
                    refine WL.run 2 [] [1, 2, 4, 49] (fun _ => [(1, .pointer (some ⟨b1, 0, none⟩)), (2, .int .i64 0), (4, .bool x27), (49, .bool x27)]) (fun _ => [(b1, .cells #[.int .i64 a0.Kind, .bool a0.Change, .bool a0.Propose, .bool a0.Learn, .bool a0.Forward, .bool a0.Agree, .bool a0.Ack, .int .i64 a0.Role, .int .u64 a0.Root, .int .i64 a0.Cost, .int .u64 a0.Bridge, .int .i64 a0.Port, .int .i64 a0.Age, .int .i64 a0.MaxAge, .int .i64 a0.Hello, .int .i64 a0.Delay] 41 (0, 0))]) (fun _ => []) (fun _ => by kernel_rfl) (fun _ => ?_)
                    refine WL.sub [1, 2, 4, 49] (L' := [(1, .pointer (some ⟨b1, 0, none⟩)), (2, .int .i64 0), (4, .bool x27), (49, .bool x27)]) (by kernel_rfl) ?_
                    refine WL.both (fun b' => [(1, .pointer (some ⟨b1, 0, none⟩)), (2, .int .i64 0), (4, .bool x27), (49, .bool b')]) x27 4 [0] [] [1, 2, 4, 53] (fun b' => [(1, .pointer (some ⟨b1, 0, none⟩)), (2, .int .i64 0), (4, .bool x27), (53, .bool (b' && (!a0.Propose)))]) [b1] [] (fun _ => by kernel_rfl) (fun _ => by kernel_rfl) ?_
                    refine WL.run 1 [] [1, 2, 4, 54] (fun _ => [(1, .pointer (some ⟨b1, 0, none⟩)), (2, .int .i64 0), (4, .bool x27), (54, .bool (x27 && (!a0.Propose)))]) (fun _ => [(b1, .cells #[.int .i64 a0.Kind, .bool a0.Change, .bool a0.Propose, .bool a0.Learn, .bool a0.Forward, .bool a0.Agree, .bool a0.Ack, .int .i64 a0.Role, .int .u64 a0.Root, .int .i64 a0.Cost, .int .u64 a0.Bridge, .int .i64 a0.Port, .int .i64 a0.Age, .int .i64 a0.MaxAge, .int .i64 a0.Hello, .int .i64 a0.Delay] 41 (0, 0))]) (fun _ => []) (fun _ => by kernel_rfl) (fun _ => ?_)
                    refine WL.sub [1, 2, 4, 54] (L' := [(1, .pointer (some ⟨b1, 0, none⟩)), (2, .int .i64 0), (4, .bool x27), (54, .bool (x27 && (!a0.Propose)))]) (by kernel_rfl) ?_
                    refine WL.both (fun b' => [(1, .pointer (some ⟨b1, 0, none⟩)), (2, .int .i64 0), (4, .bool x27), (54, .bool b')]) (x27 && (!a0.Propose)) 4 [0] [] [1, 2, 4, 58] (fun b' => [(1, .pointer (some ⟨b1, 0, none⟩)), (2, .int .i64 0), (4, .bool x27), (58, .bool (b' && (!a0.Learn)))]) [b1] [] (fun _ => by kernel_rfl) (fun _ => by kernel_rfl) ?_
                    refine WL.run 1 [] [1, 2, 4, 59] (fun _ => [(1, .pointer (some ⟨b1, 0, none⟩)), (2, .int .i64 0), (4, .bool x27), (59, .bool ((x27 && (!a0.Propose)) && (!a0.Learn)))]) (fun _ => [(b1, .cells #[.int .i64 a0.Kind, .bool a0.Change, .bool a0.Propose, .bool a0.Learn, .bool a0.Forward, .bool a0.Agree, .bool a0.Ack, .int .i64 a0.Role, .int .u64 a0.Root, .int .i64 a0.Cost, .int .u64 a0.Bridge, .int .i64 a0.Port, .int .i64 a0.Age, .int .i64 a0.MaxAge, .int .i64 a0.Hello, .int .i64 a0.Delay] 41 (0, 0))]) (fun _ => []) (fun _ => by kernel_rfl) (fun _ => ?_)
                    refine WL.sub [1, 2, 4, 59] (L' := [(1, .pointer (some ⟨b1, 0, none⟩)), (2, .int .i64 0), (4, .bool x27), (59, .bool ((x27 && (!a0.Propose)) && (!a0.Learn)))]) (by kernel_rfl) ?_
                    refine WL.both (fun b' => [(1, .pointer (some ⟨b1, 0, none⟩)), (2, .int .i64 0), (4, .bool x27), (59, .bool b')]) ((x27 && (!a0.Propose)) && (!a0.Learn)) 4 [0] [] [1, 2, 4, 63] (fun b' => [(1, .pointer (some ⟨b1, 0, none⟩)), (2, .int .i64 0), (4, .bool x27), (63, .bool (b' && (!a0.Forward)))]) [b1] [] (fun _ => by kernel_rfl) (fun _ => by kernel_rfl) ?_
                    refine WL.run 1 [] [1, 2, 4, 64] (fun _ => [(1, .pointer (some ⟨b1, 0, none⟩)), (2, .int .i64 0), (4, .bool x27), (64, .bool (((x27 && (!a0.Propose)) && (!a0.Learn)) && (!a0.Forward)))]) (fun _ => [(b1, .cells #[.int .i64 a0.Kind, .bool a0.Change, .bool a0.Propose, .bool a0.Learn, .bool a0.Forward, .bool a0.Agree, .bool a0.Ack, .int .i64 a0.Role, .int .u64 a0.Root, .int .i64 a0.Cost, .int .u64 a0.Bridge, .int .i64 a0.Port, .int .i64 a0.Age, .int .i64 a0.MaxAge, .int .i64 a0.Hello, .int .i64 a0.Delay] 41 (0, 0))]) (fun _ => []) (fun _ => by kernel_rfl) (fun _ => ?_)
                    refine WL.sub [1, 2, 4, 64] (L' := [(1, .pointer (some ⟨b1, 0, none⟩)), (2, .int .i64 0), (4, .bool x27), (64, .bool (((x27 && (!a0.Propose)) && (!a0.Learn)) && (!a0.Forward)))]) (by kernel_rfl) ?_
                    refine WL.both (fun b' => [(1, .pointer (some ⟨b1, 0, none⟩)), (2, .int .i64 0), (4, .bool x27), (64, .bool b')]) (((x27 && (!a0.Propose)) && (!a0.Learn)) && (!a0.Forward)) 4 [0] [] [1, 2, 4, 68] (fun b' => [(1, .pointer (some ⟨b1, 0, none⟩)), (2, .int .i64 0), (4, .bool x27), (68, .bool (b' && (!a0.Agree)))]) [b1] [] (fun _ => by kernel_rfl) (fun _ => by kernel_rfl) ?_
                    refine WL.run 1 [] [1, 2, 4, 69] (fun _ => [(1, .pointer (some ⟨b1, 0, none⟩)), (2, .int .i64 0), (4, .bool x27), (69, .bool ((((x27 && (!a0.Propose)) && (!a0.Learn)) && (!a0.Forward)) && (!a0.Agree)))]) (fun _ => [(b1, .cells #[.int .i64 a0.Kind, .bool a0.Change, .bool a0.Propose, .bool a0.Learn, .bool a0.Forward, .bool a0.Agree, .bool a0.Ack, .int .i64 a0.Role, .int .u64 a0.Root, .int .i64 a0.Cost, .int .u64 a0.Bridge, .int .i64 a0.Port, .int .i64 a0.Age, .int .i64 a0.MaxAge, .int .i64 a0.Hello, .int .i64 a0.Delay] 41 (0, 0))]) (fun _ => []) (fun _ => by kernel_rfl) (fun _ => ?_)
                    refine WL.sub [1, 2, 4, 69] (L' := [(1, .pointer (some ⟨b1, 0, none⟩)), (2, .int .i64 0), (4, .bool x27), (69, .bool ((((x27 && (!a0.Propose)) && (!a0.Learn)) && (!a0.Forward)) && (!a0.Agree)))]) (by kernel_rfl) ?_
                    refine WL.both (fun b' => [(1, .pointer (some ⟨b1, 0, none⟩)), (2, .int .i64 0), (4, .bool x27), (69, .bool b')]) ((((x27 && (!a0.Propose)) && (!a0.Learn)) && (!a0.Forward)) && (!a0.Agree)) 4 [0] [] [2, 4, 73] (fun b' => [(2, .int .i64 0), (4, .bool x27), (73, .bool (b' && (a0.Role == 0)))]) [b1] [] (fun _ => by kernel_rfl) (fun _ => by kernel_rfl) ?_
                    refine WL.run 1 [] [2, 4] (fun _ => [(2, .int .i64 0), (4, .bool (((((x27 && (!a0.Propose)) && (!a0.Learn)) && (!a0.Forward)) && (!a0.Agree)) && (a0.Role == 0)))]) (fun _ => [(b1, .cells #[.int .i64 a0.Kind, .bool a0.Change, .bool a0.Propose, .bool a0.Learn, .bool a0.Forward, .bool a0.Agree, .bool a0.Ack, .int .i64 a0.Role, .int .u64 a0.Root, .int .i64 a0.Cost, .int .u64 a0.Bridge, .int .i64 a0.Port, .int .i64 a0.Age, .int .i64 a0.MaxAge, .int .i64 a0.Hello, .int .i64 a0.Delay] 41 (0, 0))]) (fun _ => []) (fun _ => by kernel_rfl) (fun _ => ?_)
                    refine WP.done ?_
                    refine WP.keep [false] (by kernel_rfl : _ = []) ?_
                    refine WP.leave ?_
                    exact WP.sub [2, 4] (by kernel_rfl) (WP.pick [] (by kernel_rfl) (by kernel_rfl) (K1 (((((x27 && (!a0.Propose)) && (!a0.Learn)) && (!a0.Forward)) && (!a0.Agree)) && (a0.Role == 0)) hM))
                  · replace hM := cond_f hM c29
                    refine WP.seq ?_
                    refine WP.run [] [2, 4, 74] (fun _ => [(2, .int .i64 0), (4, .bool x27), (74, .bool (a0.Kind == 2))]) (fun _ => [(b1, .cells #[.int .i64 a0.Kind, .bool a0.Change, .bool a0.Propose, .bool a0.Learn, .bool a0.Forward, .bool a0.Agree, .bool a0.Ack, .int .i64 a0.Role, .int .u64 a0.Root, .int .i64 a0.Cost, .int .u64 a0.Bridge, .int .i64 a0.Port, .int .i64 a0.Age, .int .i64 a0.MaxAge, .int .i64 a0.Hello, .int .i64 a0.Delay] 41 (0, 0))]) (fun _ => []) (fun _ => by kernel_rfl) (fun _ => ?_)
                    refine WP.keep [false] (by kernel_rfl : _ = []) ?_
                    refine WP.cond (a0.Kind == 2) rfl rfl (fun c30 => ?_) (fun c30 => ?_)
                    · replace hM := cond_t hM c30
                      refine WP.skip ?_
                      refine WP.leave ?_
                      exact WP.sub [2, 4] (by kernel_rfl) (WP.pick [] (by kernel_rfl) (by kernel_rfl) (K1 x27 hM))
                    · replace hM := cond_f hM c30
                      refine WP.run [] [2, 4] (fun _ => [(2, .int .i64 0), (4, .bool false)]) (fun _ => []) (fun _ => []) (fun _ => by kernel_rfl) (fun _ => ?_)
                      refine WP.leave ?_
                      exact WP.sub [2, 4] (by kernel_rfl) (WP.pick [] (by kernel_rfl) (by kernel_rfl) (K1 false hM))
            ·
              refine WL.split (fun b' => [(1, .pointer (some ⟨b1, 0, none⟩)), (2, .int .i64 0), (34, .bool b')]) x23 (fun c24 => ?_) (fun c24 => ?_)
              · replace hM := cond_t hM c24
                refine WL.run 2 [0] [1, 2, 34, 36] (fun _ => [(1, .pointer (some ⟨b1, 0, none⟩)), (2, .int .i64 0), (34, .bool true), (36, .int .i64 a0.Port)]) (fun _ => [(b1, .cells #[.int .i64 a0.Kind, .bool a0.Change, .bool a0.Propose, .bool a0.Learn, .bool a0.Forward, .bool a0.Agree, .bool a0.Ack, .int .i64 a0.Role, .int .u64 a0.Root, .int .i64 a0.Cost, .int .u64 a0.Bridge, .int .i64 a0.Port, .int .i64 a0.Age, .int .i64 a0.MaxAge, .int .i64 a0.Hello, .int .i64 a0.Delay] 41 (0, 0))]) (fun _ => [b1]) (fun _ => by kernel_rfl) (fun _ => ?_)
                obtain ⟨r25, h26, hM⟩ := bind_some hM
                refine WL.callP [] [] (bpdu_below_calls a0.Port 65536 _ h26) (fun _ h => h) (by kernel_rfl) (by kernel_rfl) rfl ?_
                refine WL.run 1 [] [1, 2, 38] (fun _ => [(1, .pointer (some ⟨b1, 0, none⟩)), (2, .int .i64 0), (38, .bool r25)]) (fun _ => [(b1, .cells #[.int .i64 a0.Kind, .bool a0.Change, .bool a0.Propose, .bool a0.Learn, .bool a0.Forward, .bool a0.Agree, .bool a0.Ack, .int .i64 a0.Role, .int .u64 a0.Root, .int .i64 a0.Cost, .int .u64 a0.Bridge, .int .i64 a0.Port, .int .i64 a0.Age, .int .i64 a0.MaxAge, .int .i64 a0.Hello, .int .i64 a0.Delay] 41 (0, 0))]) (fun _ => []) (fun _ => by kernel_rfl) (fun _ => ?_)
                exact WL.sub [1, 2, 38] (by kernel_rfl) (WL.pick [0] (by kernel_rfl) (by kernel_rfl) (K2 r25 hM))
              · replace hM := cond_f hM c24
                refine WL.run 4 [] [1, 2, 38] (fun _ => [(1, .pointer (some ⟨b1, 0, none⟩)), (2, .int .i64 0), (38, .bool false)]) (fun _ => [(b1, .cells #[.int .i64 a0.Kind, .bool a0.Change, .bool a0.Propose, .bool a0.Learn, .bool a0.Forward, .bool a0.Agree, .bool a0.Ack, .int .i64 a0.Role, .int .u64 a0.Root, .int .i64 a0.Cost, .int .u64 a0.Bridge, .int .i64 a0.Port, .int .i64 a0.Age, .int .i64 a0.MaxAge, .int .i64 a0.Hello, .int .i64 a0.Delay] 41 (0, 0))]) (fun _ => []) (fun _ => by kernel_rfl) (fun _ => ?_)
                exact WL.sub [1, 2, 38] (by kernel_rfl) (WL.pick [0] (by kernel_rfl) (by kernel_rfl) (K2 false hM))
          ·
            refine WL.split (fun b' => [(1, .pointer (some ⟨b1, 0, none⟩)), (2, .int .i64 0), (29, .bool b')]) x19 (fun c20 => ?_) (fun c20 => ?_)
            · replace hM := cond_t hM c20
              refine WL.run 2 [0] [1, 2, 29, 31] (fun _ => [(1, .pointer (some ⟨b1, 0, none⟩)), (2, .int .i64 0), (29, .bool true), (31, .int .i64 a0.Cost)]) (fun _ => [(b1, .cells #[.int .i64 a0.Kind, .bool a0.Change, .bool a0.Propose, .bool a0.Learn, .bool a0.Forward, .bool a0.Agree, .bool a0.Ack, .int .i64 a0.Role, .int .u64 a0.Root, .int .i64 a0.Cost, .int .u64 a0.Bridge, .int .i64 a0.Port, .int .i64 a0.Age, .int .i64 a0.MaxAge, .int .i64 a0.Hello, .int .i64 a0.Delay] 41 (0, 0))]) (fun _ => [b1]) (fun _ => by kernel_rfl) (fun _ => ?_)
              obtain ⟨r21, h22, hM⟩ := bind_some hM
              refine WL.callP [] [] (bpdu_below_calls a0.Cost 4294967296 _ h22) (fun _ h => h) (by kernel_rfl) (by kernel_rfl) rfl ?_
              refine WL.run 1 [] [1, 2, 33] (fun _ => [(1, .pointer (some ⟨b1, 0, none⟩)), (2, .int .i64 0), (33, .bool r21)]) (fun _ => [(b1, .cells #[.int .i64 a0.Kind, .bool a0.Change, .bool a0.Propose, .bool a0.Learn, .bool a0.Forward, .bool a0.Agree, .bool a0.Ack, .int .i64 a0.Role, .int .u64 a0.Root, .int .i64 a0.Cost, .int .u64 a0.Bridge, .int .i64 a0.Port, .int .i64 a0.Age, .int .i64 a0.MaxAge, .int .i64 a0.Hello, .int .i64 a0.Delay] 41 (0, 0))]) (fun _ => []) (fun _ => by kernel_rfl) (fun _ => ?_)
              exact WL.sub [1, 2, 33] (by kernel_rfl) (WL.pick [0] (by kernel_rfl) (by kernel_rfl) (K3 r21 hM))
            · replace hM := cond_f hM c20
              refine WL.run 4 [] [1, 2, 33] (fun _ => [(1, .pointer (some ⟨b1, 0, none⟩)), (2, .int .i64 0), (33, .bool false)]) (fun _ => [(b1, .cells #[.int .i64 a0.Kind, .bool a0.Change, .bool a0.Propose, .bool a0.Learn, .bool a0.Forward, .bool a0.Agree, .bool a0.Ack, .int .i64 a0.Role, .int .u64 a0.Root, .int .i64 a0.Cost, .int .u64 a0.Bridge, .int .i64 a0.Port, .int .i64 a0.Age, .int .i64 a0.MaxAge, .int .i64 a0.Hello, .int .i64 a0.Delay] 41 (0, 0))]) (fun _ => []) (fun _ => by kernel_rfl) (fun _ => ?_)
              exact WL.sub [1, 2, 33] (by kernel_rfl) (WL.pick [0] (by kernel_rfl) (by kernel_rfl) (K3 false hM))
        ·
          refine WL.split (fun b' => [(1, .pointer (some ⟨b1, 0, none⟩)), (2, .int .i64 0), (24, .bool b')]) x15 (fun c16 => ?_) (fun c16 => ?_)
          · replace hM := cond_t hM c16
            refine WL.run 2 [0] [1, 2, 24, 26] (fun _ => [(1, .pointer (some ⟨b1, 0, none⟩)), (2, .int .i64 0), (24, .bool true), (26, .int .i64 a0.Role)]) (fun _ => [(b1, .cells #[.int .i64 a0.Kind, .bool a0.Change, .bool a0.Propose, .bool a0.Learn, .bool a0.Forward, .bool a0.Agree, .bool a0.Ack, .int .i64 a0.Role, .int .u64 a0.Root, .int .i64 a0.Cost, .int .u64 a0.Bridge, .int .i64 a0.Port, .int .i64 a0.Age, .int .i64 a0.MaxAge, .int .i64 a0.Hello, .int .i64 a0.Delay] 41 (0, 0))]) (fun _ => [b1]) (fun _ => by kernel_rfl) (fun _ => ?_)
            obtain ⟨r17, h18, hM⟩ := bind_some hM
            refine WL.callP [] [] (bpdu_below_calls a0.Role 4 _ h18) (fun _ h => h) (by kernel_rfl) (by kernel_rfl) rfl ?_
            refine WL.run 1 [] [1, 2, 28] (fun _ => [(1, .pointer (some ⟨b1, 0, none⟩)), (2, .int .i64 0), (28, .bool r17)]) (fun _ => [(b1, .cells #[.int .i64 a0.Kind, .bool a0.Change, .bool a0.Propose, .bool a0.Learn, .bool a0.Forward, .bool a0.Agree, .bool a0.Ack, .int .i64 a0.Role, .int .u64 a0.Root, .int .i64 a0.Cost, .int .u64 a0.Bridge, .int .i64 a0.Port, .int .i64 a0.Age, .int .i64 a0.MaxAge, .int .i64 a0.Hello, .int .i64 a0.Delay] 41 (0, 0))]) (fun _ => []) (fun _ => by kernel_rfl) (fun _ => ?_)
            exact WL.sub [1, 2, 28] (by kernel_rfl) (WL.pick [0] (by kernel_rfl) (by kernel_rfl) (K4 r17 hM))
          · replace hM := cond_f hM c16
            refine WL.run 4 [] [1, 2, 28] (fun _ => [(1, .pointer (some ⟨b1, 0, none⟩)), (2, .int .i64 0), (28, .bool false)]) (fun _ => [(b1, .cells #[.int .i64 a0.Kind, .bool a0.Change, .bool a0.Propose, .bool a0.Learn, .bool a0.Forward, .bool a0.Agree, .bool a0.Ack, .int .i64 a0.Role, .int .u64 a0.Root, .int .i64 a0.Cost, .int .u64 a0.Bridge, .int .i64 a0.Port, .int .i64 a0.Age, .int .i64 a0.MaxAge, .int .i64 a0.Hello, .int .i64 a0.Delay] 41 (0, 0))]) (fun _ => []) (fun _ => by kernel_rfl) (fun _ => ?_)
            exact WL.sub [1, 2, 28] (by kernel_rfl) (WL.pick [0] (by kernel_rfl) (by kernel_rfl) (K4 false hM))
      ·
        refine WL.split (fun b' => [(1, .pointer (some ⟨b1, 0, none⟩)), (2, .int .i64 0), (18, .bool b')]) x11 (fun c12 => ?_) (fun c12 => ?_)
        · replace hM := cond_t hM c12
          refine WL.run 2 [0] [1, 2, 18, 20] (fun _ => [(1, .pointer (some ⟨b1, 0, none⟩)), (2, .int .i64 0), (18, .bool true), (20, .int .i64 a0.Delay)]) (fun _ => [(b1, .cells #[.int .i64 a0.Kind, .bool a0.Change, .bool a0.Propose, .bool a0.Learn, .bool a0.Forward, .bool a0.Agree, .bool a0.Ack, .int .i64 a0.Role, .int .u64 a0.Root, .int .i64 a0.Cost, .int .u64 a0.Bridge, .int .i64 a0.Port, .int .i64 a0.Age, .int .i64 a0.MaxAge, .int .i64 a0.Hello, .int .i64 a0.Delay] 41 (0, 0))]) (fun _ => [b1]) (fun _ => by kernel_rfl) (fun _ => ?_)
          obtain ⟨r13, h14, hM⟩ := bind_some hM
          refine WL.callP [] [] (bpdu_below_calls a0.Delay 65536 _ h14) (fun _ h => h) (by kernel_rfl) (by kernel_rfl) rfl ?_
          refine WL.run 1 [] [1, 2, 22] (fun _ => [(1, .pointer (some ⟨b1, 0, none⟩)), (2, .int .i64 0), (22, .bool r13)]) (fun _ => [(b1, .cells #[.int .i64 a0.Kind, .bool a0.Change, .bool a0.Propose, .bool a0.Learn, .bool a0.Forward, .bool a0.Agree, .bool a0.Ack, .int .i64 a0.Role, .int .u64 a0.Root, .int .i64 a0.Cost, .int .u64 a0.Bridge, .int .i64 a0.Port, .int .i64 a0.Age, .int .i64 a0.MaxAge, .int .i64 a0.Hello, .int .i64 a0.Delay] 41 (0, 0))]) (fun _ => []) (fun _ => by kernel_rfl) (fun _ => ?_)
          exact WL.sub [1, 2, 22] (by kernel_rfl) (WL.pick [0] (by kernel_rfl) (by kernel_rfl) (K5 r13 hM))
        · replace hM := cond_f hM c12
          refine WL.run 4 [] [1, 2, 22] (fun _ => [(1, .pointer (some ⟨b1, 0, none⟩)), (2, .int .i64 0), (22, .bool false)]) (fun _ => [(b1, .cells #[.int .i64 a0.Kind, .bool a0.Change, .bool a0.Propose, .bool a0.Learn, .bool a0.Forward, .bool a0.Agree, .bool a0.Ack, .int .i64 a0.Role, .int .u64 a0.Root, .int .i64 a0.Cost, .int .u64 a0.Bridge, .int .i64 a0.Port, .int .i64 a0.Age, .int .i64 a0.MaxAge, .int .i64 a0.Hello, .int .i64 a0.Delay] 41 (0, 0))]) (fun _ => []) (fun _ => by kernel_rfl) (fun _ => ?_)
          exact WL.sub [1, 2, 22] (by kernel_rfl) (WL.pick [0] (by kernel_rfl) (by kernel_rfl) (K5 false hM))
    ·
      refine WL.split (fun b' => [(1, .pointer (some ⟨b1, 0, none⟩)), (2, .int .i64 0), (13, .bool b')]) x7 (fun c8 => ?_) (fun c8 => ?_)
      · replace hM := cond_t hM c8
        refine WL.run 2 [0] [1, 2, 13, 15] (fun _ => [(1, .pointer (some ⟨b1, 0, none⟩)), (2, .int .i64 0), (13, .bool true), (15, .int .i64 a0.Hello)]) (fun _ => [(b1, .cells #[.int .i64 a0.Kind, .bool a0.Change, .bool a0.Propose, .bool a0.Learn, .bool a0.Forward, .bool a0.Agree, .bool a0.Ack, .int .i64 a0.Role, .int .u64 a0.Root, .int .i64 a0.Cost, .int .u64 a0.Bridge, .int .i64 a0.Port, .int .i64 a0.Age, .int .i64 a0.MaxAge, .int .i64 a0.Hello, .int .i64 a0.Delay] 41 (0, 0))]) (fun _ => [b1]) (fun _ => by kernel_rfl) (fun _ => ?_)
        obtain ⟨r9, h10, hM⟩ := bind_some hM
        refine WL.callP [] [] (bpdu_below_calls a0.Hello 65536 _ h10) (fun _ h => h) (by kernel_rfl) (by kernel_rfl) rfl ?_
        refine WL.run 1 [] [1, 2, 17] (fun _ => [(1, .pointer (some ⟨b1, 0, none⟩)), (2, .int .i64 0), (17, .bool r9)]) (fun _ => [(b1, .cells #[.int .i64 a0.Kind, .bool a0.Change, .bool a0.Propose, .bool a0.Learn, .bool a0.Forward, .bool a0.Agree, .bool a0.Ack, .int .i64 a0.Role, .int .u64 a0.Root, .int .i64 a0.Cost, .int .u64 a0.Bridge, .int .i64 a0.Port, .int .i64 a0.Age, .int .i64 a0.MaxAge, .int .i64 a0.Hello, .int .i64 a0.Delay] 41 (0, 0))]) (fun _ => []) (fun _ => by kernel_rfl) (fun _ => ?_)
        exact WL.sub [1, 2, 17] (by kernel_rfl) (WL.pick [0] (by kernel_rfl) (by kernel_rfl) (K6 r9 hM))
      · replace hM := cond_f hM c8
        refine WL.run 4 [] [1, 2, 17] (fun _ => [(1, .pointer (some ⟨b1, 0, none⟩)), (2, .int .i64 0), (17, .bool false)]) (fun _ => [(b1, .cells #[.int .i64 a0.Kind, .bool a0.Change, .bool a0.Propose, .bool a0.Learn, .bool a0.Forward, .bool a0.Agree, .bool a0.Ack, .int .i64 a0.Role, .int .u64 a0.Root, .int .i64 a0.Cost, .int .u64 a0.Bridge, .int .i64 a0.Port, .int .i64 a0.Age, .int .i64 a0.MaxAge, .int .i64 a0.Hello, .int .i64 a0.Delay] 41 (0, 0))]) (fun _ => []) (fun _ => by kernel_rfl) (fun _ => ?_)
        exact WL.sub [1, 2, 17] (by kernel_rfl) (WL.pick [0] (by kernel_rfl) (by kernel_rfl) (K6 false hM))
  ·
    refine WL.split (fun b' => [(1, .pointer (some ⟨b1, 0, none⟩)), (2, .int .i64 0), (8, .bool b')]) r2 (fun c4 => ?_) (fun c4 => ?_)
    · replace hM := cond_t hM c4
      refine WL.run 2 [0] [1, 2, 8, 10] (fun _ => [(1, .pointer (some ⟨b1, 0, none⟩)), (2, .int .i64 0), (8, .bool true), (10, .int .i64 a0.MaxAge)]) (fun _ => [(b1, .cells #[.int .i64 a0.Kind, .bool a0.Change, .bool a0.Propose, .bool a0.Learn, .bool a0.Forward, .bool a0.Agree, .bool a0.Ack, .int .i64 a0.Role, .int .u64 a0.Root, .int .i64 a0.Cost, .int .u64 a0.Bridge, .int .i64 a0.Port, .int .i64 a0.Age, .int .i64 a0.MaxAge, .int .i64 a0.Hello, .int .i64 a0.Delay] 41 (0, 0))]) (fun _ => [b1]) (fun _ => by kernel_rfl) (fun _ => ?_)
      obtain ⟨r5, h6, hM⟩ := bind_some hM
      refine WL.callP [] [] (bpdu_below_calls a0.MaxAge 65536 _ h6) (fun _ h => h) (by kernel_rfl) (by kernel_rfl) rfl ?_
      refine WL.run 1 [] [1, 2, 12] (fun _ => [(1, .pointer (some ⟨b1, 0, none⟩)), (2, .int .i64 0), (12, .bool r5)]) (fun _ => [(b1, .cells #[.int .i64 a0.Kind, .bool a0.Change, .bool a0.Propose, .bool a0.Learn, .bool a0.Forward, .bool a0.Agree, .bool a0.Ack, .int .i64 a0.Role, .int .u64 a0.Root, .int .i64 a0.Cost, .int .u64 a0.Bridge, .int .i64 a0.Port, .int .i64 a0.Age, .int .i64 a0.MaxAge, .int .i64 a0.Hello, .int .i64 a0.Delay] 41 (0, 0))]) (fun _ => []) (fun _ => by kernel_rfl) (fun _ => ?_)
      exact WL.sub [1, 2, 12] (by kernel_rfl) (WL.pick [0] (by kernel_rfl) (by kernel_rfl) (K7 r5 hM))
    · replace hM := cond_f hM c4
      refine WL.run 4 [] [1, 2, 12] (fun _ => [(1, .pointer (some ⟨b1, 0, none⟩)), (2, .int .i64 0), (12, .bool false)]) (fun _ => [(b1, .cells #[.int .i64 a0.Kind, .bool a0.Change, .bool a0.Propose, .bool a0.Learn, .bool a0.Forward, .bool a0.Agree, .bool a0.Ack, .int .i64 a0.Role, .int .u64 a0.Root, .int .i64 a0.Cost, .int .u64 a0.Bridge, .int .i64 a0.Port, .int .i64 a0.Age, .int .i64 a0.MaxAge, .int .i64 a0.Hello, .int .i64 a0.Delay] 41 (0, 0))]) (fun _ => []) (fun _ => by kernel_rfl) (fun _ => ?_)
      exact WL.sub [1, 2, 12] (by kernel_rfl) (WL.pick [0] (by kernel_rfl) (by kernel_rfl) (K7 false hM))

end Go.Proofs.YtefbjefmclhhjaaDoor

namespace Go.Proofs.YtefbjefmclhhjaaDoor
open Go Eng
set_option linter.unusedVariables false
set_option linter.unusedSimpArgs false

/-! ### gangway/bpdu.flags$1: function 58 -/
def bpdu_flags_1.f (a0 : Bool) (a1 : Int) (a2 : Int) : Option (Int) :=
  bif a0 then
    some (bOr .u8 a2 a1)
  else
    some a2

set_option maxRecDepth 100000 in
theorem bpdu_flags_1_calls (b_0 : Nat) (a0 : Bool) (a1 : Int) (a2 : Int) (r : Int) (h : bpdu_flags_1.f a0 a1 a2 = some r) : Does Tryd.prog 58 #[.bool a0, .int .u8 a1, .pointer (some ⟨b_0, 0, none⟩)] [(b_0, .cells #[.int .u8 a2] 5 (0, 0))] Glob (fun _ : Unit => .tuple #[]) (fun _ => [(b_0, .cells #[.int .u8 r] 5 (0, 0))]) (fun _ => []) (fun _ => Glob) := by
  intro w Z hS
  refine calls_of (args := [.bool a0, .int .u8 a1, .pointer (some ⟨b_0, 0, none⟩)]) (L := [(0, .bool a0), (1, .int .u8 a1), (2, .pointer (some ⟨b_0, 0, none⟩))]) (N := 9) (S := Sat w Z [(b_0, .cells #[.int .u8 a2] 5 (0, 0))] [] Glob) Tryd.func58 rfl rfl (Nat.le_of_ble_eq_true rfl) rfl hS ?_
  have hM := h
  clear h hS
  unfold bpdu_flags_1.f at hM
  refine WP.seq ?_
  refine WP.run [] [1, 2, 5] (fun _ => [(1, .int .u8 a1), (2, .pointer (some ⟨b_0, 0, none⟩)), (5, .bool a0)]) (fun _ => [(b_0, .cells #[.int .u8 a2] 5 (0, 0))]) (fun _ => []) (fun _ => by kernel_rfl) (fun _ => ?_)
  refine WP.cond a0 rfl rfl (fun c1 => ?_) (fun c1 => ?_)
  · replace hM := cond_t hM c1
    refine WP.run [0, 0] [] (fun _ => []) (fun _ => [(b_0, .cells #[.int .u8 (bOr .u8 a2 a1)] 5 (0, 0))]) (fun _ => [b_0, b_0]) (fun _ => by kernel_rfl) (fun _ => ?_)
    obtain rfl := Option.some.inj hM
    exact WP.end [] [] (.tuple #[]) (by kernel_rfl) (fun w' hw => ⟨(), rfl, hw.pick [0] (by kernel_rfl)⟩)
  · replace hM := cond_f hM c1
    refine WP.skip ?_
    obtain rfl := Option.some.inj hM
    exact WP.end [] [] (.tuple #[]) (by kernel_rfl) (fun w' hw => ⟨(), rfl, hw.pick [0] (by kernel_rfl)⟩)

end Go.Proofs.YtefbjefmclhhjaaDoor

namespace Go.Proofs.YtefbjefmclhhjaaDoor
open Go Eng
set_option linter.unusedVariables false
set_option linter.unusedSimpArgs false

/-! ### gangway/bpdu.flags: function 47 -/
def bpdu_flags.f (a0 : api_Bpdu) : Option (Int) :=
  (bpdu_flags_1.f a0.Change 1 (u8 (i64 (a0.Role * 4)))).bind fun r3 =>
  (bpdu_flags_1.f a0.Propose 2 r3).bind fun r5 =>
  (bpdu_flags_1.f a0.Learn 16 r5).bind fun r7 =>
  (bpdu_flags_1.f a0.Forward 32 r7).bind fun r9 =>
  (bpdu_flags_1.f a0.Agree 64 r9).bind fun r11 =>
  (bpdu_flags_1.f a0.Ack 128 r11).bind fun r13 =>
  some r13

set_option maxRecDepth 100000 in
theorem bpdu_flags_calls (a0 : api_Bpdu) (r : Int) (h : bpdu_flags.f a0 = some r) : Pure Tryd.prog Glob 47 #[.agg #[.int .i64 a0.Kind, .bool a0.Change, .bool a0.Propose, .bool a0.Learn, .bool a0.Forward, .bool a0.Agree, .bool a0.Ack, .int .i64 a0.Role, .int .u64 a0.Root, .int .i64 a0.Cost, .int .u64 a0.Bridge, .int .i64 a0.Port, .int .i64 a0.Age, .int .i64 a0.MaxAge, .int .i64 a0.Hello, .int .i64 a0.Delay]] (.int .u8 r) := by
  intro w Z hS
  refine calls_of (args := [.agg #[.int .i64 a0.Kind, .bool a0.Change, .bool a0.Propose, .bool a0.Learn, .bool a0.Forward, .bool a0.Agree, .bool a0.Ack, .int .i64 a0.Role, .int .u64 a0.Root, .int .i64 a0.Cost, .int .u64 a0.Bridge, .int .i64 a0.Port, .int .i64 a0.Age, .int .i64 a0.MaxAge, .int .i64 a0.Hello, .int .i64 a0.Delay]]) (L := [(0, .agg #[.int .i64 a0.Kind, .bool a0.Change, .bool a0.Propose, .bool a0.Learn, .bool a0.Forward, .bool a0.Agree, .bool a0.Ack, .int .i64 a0.Role, .int .u64 a0.Root, .int .i64 a0.Cost, .int .u64 a0.Bridge, .int .i64 a0.Port, .int .i64 a0.Age, .int .i64 a0.MaxAge, .int .i64 a0.Hello, .int .i64 a0.Delay])]) (N := 35) (S := Sat w Z [] [] Glob) Tryd.func47 rfl rfl (Nat.le_of_ble_eq_true rfl) rfl hS ?_
  have hM := h
  clear h hS
  unfold bpdu_flags.f at hM
  refine WP.seq ?_
  refine WP.run [] [1, 2] (fun b1 => [(1, .pointer (some ⟨b1, 0, none⟩)), (2, .int .u8 0)]) (fun b1 => [(b1, .cells #[.int .i64 a0.Kind, .bool a0.Change, .bool a0.Propose, .bool a0.Learn, .bool a0.Forward, .bool a0.Agree, .bool a0.Ack, .int .i64 a0.Role, .int .u64 a0.Root, .int .i64 a0.Cost, .int .u64 a0.Bridge, .int .i64 a0.Port, .int .i64 a0.Age, .int .i64 a0.MaxAge, .int .i64 a0.Hello, .int .i64 a0.Delay] 41 (0, 0))]) (fun b1 => []) (fun b1 => by kernel_rfl) (fun b1 => ?_)
  refine WP.seq ?_
  refine WP.run [0, 1] [1, 2, 3] (fun b2 => [(1, .pointer (some ⟨b1, 0, none⟩)), (2, .int .u8 0), (3, .pointer (some ⟨b2, 0, none⟩))]) (fun b2 => [(b1, .cells #[.int .i64 a0.Kind, .bool a0.Change, .bool a0.Propose, .bool a0.Learn, .bool a0.Forward, .bool a0.Agree, .bool a0.Ack, .int .i64 a0.Role, .int .u64 a0.Root, .int .i64 a0.Cost, .int .u64 a0.Bridge, .int .i64 a0.Port, .int .i64 a0.Age, .int .i64 a0.MaxAge, .int .i64 a0.Hello, .int .i64 a0.Delay] 41 (0, 0)), (b2, .cells #[.int .u8 (u8 (i64 (a0.Role * 4)))] 5 (0, 0))]) (fun b2 => [b2, b1]) (fun b2 => by kernel_rfl) (fun b2 => ?_)
  refine WP.seq ?_
  refine WP.run [] [1, 2, 3, 4] (fun _ => [(1, .pointer (some ⟨b1, 0, none⟩)), (2, .int .u8 0), (3, .pointer (some ⟨b2, 0, none⟩)), (4, .func (.func 58) #[] #[.pointer (some ⟨b2, 0, none⟩)])]) (fun _ => [(b1, .cells #[.int .i64 a0.Kind, .bool a0.Change, .bool a0.Propose, .bool a0.Learn, .bool a0.Forward, .bool a0.Agree, .bool a0.Ack, .int .i64 a0.Role, .int .u64 a0.Root, .int .i64 a0.Cost, .int .u64 a0.Bridge, .int .i64 a0.Port, .int .i64 a0.Age, .int .i64 a0.MaxAge, .int .i64 a0.Hello, .int .i64 a0.Delay] 41 (0, 0)), (b2, .cells #[.int .u8 (u8 (i64 (a0.Role * 4)))] 5 (0, 0))]) (fun _ => []) (fun _ => by kernel_rfl) (fun _ => ?_)
  refine WP.seq ?_
  refine WP.region ?_
  refine WL.run 3 [0] [1, 2, 3, 4, 10, 12] (fun _ => [(1, .pointer (some ⟨b1, 0, none⟩)), (2, .int .u8 0), (3, .pointer (some ⟨b2, 0, none⟩)), (4, .func (.func 58) #[] #[.pointer (some ⟨b2, 0, none⟩)]), (10, .func (.func 58) #[] #[.pointer (some ⟨b2, 0, none⟩)]), (12, .bool a0.Change)]) (fun _ => [(b1, .cells #[.int .i64 a0.Kind, .bool a0.Change, .bool a0.Propose, .bool a0.Learn, .bool a0.Forward, .bool a0.Agree, .bool a0.Ack, .int .i64 a0.Role, .int .u64 a0.Root, .int .i64 a0.Cost, .int .u64 a0.Bridge, .int .i64 a0.Port, .int .i64 a0.Age, .int .i64 a0.MaxAge, .int .i64 a0.Hello, .int .i64 a0.Delay] 41 (0, 0)), (b2, .cells #[.int .u8 (u8 (i64 (a0.Role * 4)))] 5 (0, 0))]) (fun _ => [b1]) (fun _ => by kernel_rfl) (fun _ => ?_)
  obtain ⟨r3, h4, hM⟩ := bind_some hM
  refine WL.callE (X := Unit) [] [] [false, true] (fun _ => _) (bpdu_flags_1_calls b2 a0.Change 1 (u8 (i64 (a0.Role * 4))) _ h4) rfl rfl (fun _ h => h) (by kernel_rfl) (by kernel_rfl) (fun _ => rfl) (fun _ => ?_)
  refine WP.done ?_
  refine WP.seq ?_
  refine WP.region ?_
  refine WL.run 3 [1] [1, 2, 3, 4, 14, 16] (fun _ => [(1, .pointer (some ⟨b1, 0, none⟩)), (2, .int .u8 0), (3, .pointer (some ⟨b2, 0, none⟩)), (4, .func (.func 58) #[] #[.pointer (some ⟨b2, 0, none⟩)]), (14, .func (.func 58) #[] #[.pointer (some ⟨b2, 0, none⟩)]), (16, .bool a0.Propose)]) (fun _ => [(b2, .cells #[.int .u8 r3] 5 (0, 0)), (b1, .cells #[.int .i64 a0.Kind, .bool a0.Change, .bool a0.Propose, .bool a0.Learn, .bool a0.Forward, .bool a0.Agree, .bool a0.Ack, .int .i64 a0.Role, .int .u64 a0.Root, .int .i64 a0.Cost, .int .u64 a0.Bridge, .int .i64 a0.Port, .int .i64 a0.Age, .int .i64 a0.MaxAge, .int .i64 a0.Hello, .int .i64 a0.Delay] 41 (0, 0))]) (fun _ => [b1]) (fun _ => by kernel_rfl) (fun _ => ?_)
  obtain ⟨r5, h6, hM⟩ := bind_some hM
  refine WL.callE (X := Unit) [] [] [true, false] (fun _ => _) (bpdu_flags_1_calls b2 a0.Propose 2 r3 _ h6) rfl rfl (fun _ h => h) (by kernel_rfl) (by kernel_rfl) (fun _ => rfl) (fun _ => ?_)
  refine WP.done ?_
  refine WP.seq ?_
  refine WP.region ?_
  refine WL.run 3 [1] [1, 2, 3, 4, 18, 20] (fun _ => [(1, .pointer (some ⟨b1, 0, none⟩)), (2, .int .u8 0), (3, .pointer (some ⟨b2, 0, none⟩)), (4, .func (.func 58) #[] #[.pointer (some ⟨b2, 0, none⟩)]), (18, .func (.func 58) #[] #[.pointer (some ⟨b2, 0, none⟩)]), (20, .bool a0.Learn)]) (fun _ => [(b2, .cells #[.int .u8 r5] 5 (0, 0)), (b1, .cells #[.int .i64 a0.Kind, .bool a0.Change, .bool a0.Propose, .bool a0.Learn, .bool a0.Forward, .bool a0.Agree, .bool a0.Ack, .int .i64 a0.Role, .int .u64 a0.Root, .int .i64 a0.Cost, .int .u64 a0.Bridge, .int .i64 a0.Port, .int .i64 a0.Age, .int .i64 a0.MaxAge, .int .i64 a0.Hello, .int .i64 a0.Delay] 41 (0, 0))]) (fun _ => [b1]) (fun _ => by kernel_rfl) (fun _ => ?_)
  obtain ⟨r7, h8, hM⟩ := bind_some hM
  refine WL.callE (X := Unit) [] [] [true, false] (fun _ => _) (bpdu_flags_1_calls b2 a0.Learn 16 r5 _ h8) rfl rfl (fun _ h => h) (by kernel_rfl) (by kernel_rfl) (fun _ => rfl) (fun _ => ?_)
  refine WP.done ?_
  refine WP.seq ?_
  refine WP.region ?_
  refine WL.run 3 [1] [1, 2, 3, 4, 22, 24] (fun _ => [(1, .pointer (some ⟨b1, 0, none⟩)), (2, .int .u8 0), (3, .pointer (some ⟨b2, 0, none⟩)), (4, .func (.func 58) #[] #[.pointer (some ⟨b2, 0, none⟩)]), (22, .func (.func 58) #[] #[.pointer (some ⟨b2, 0, none⟩)]), (24, .bool a0.Forward)]) (fun _ => [(b2, .cells #[.int .u8 r7] 5 (0, 0)), (b1, .cells #[.int .i64 a0.Kind, .bool a0.Change, .bool a0.Propose, .bool a0.Learn, .bool a0.Forward, .bool a0.Agree, .bool a0.Ack, .int .i64 a0.Role, .int .u64 a0.Root, .int .i64 a0.Cost, .int .u64 a0.Bridge, .int .i64 a0.Port, .int .i64 a0.Age, .int .i64 a0.MaxAge, .int .i64 a0.Hello, .int .i64 a0.Delay] 41 (0, 0))]) (fun _ => [b1]) (fun _ => by kernel_rfl) (fun _ => ?_)
  obtain ⟨r9, h10, hM⟩ := bind_some hM
  refine WL.callE (X := Unit) [] [] [true, false] (fun _ => _) (bpdu_flags_1_calls b2 a0.Forward 32 r7 _ h10) rfl rfl (fun _ h => h) (by kernel_rfl) (by kernel_rfl) (fun _ => rfl) (fun _ => ?_)
  refine WP.done ?_
  refine WP.seq ?_
  refine WP.region ?_
  refine WL.run 3 [1] [1, 2, 3, 4, 26, 28] (fun _ => [(1, .pointer (some ⟨b1, 0, none⟩)), (2, .int .u8 0), (3, .pointer (some ⟨b2, 0, none⟩)), (4, .func (.func 58) #[] #[.pointer (some ⟨b2, 0, none⟩)]), (26, .func (.func 58) #[] #[.pointer (some ⟨b2, 0, none⟩)]), (28, .bool a0.Agree)]) (fun _ => [(b2, .cells #[.int .u8 r9] 5 (0, 0)), (b1, .cells #[.int .i64 a0.Kind, .bool a0.Change, .bool a0.Propose, .bool a0.Learn, .bool a0.Forward, .bool a0.Agree, .bool a0.Ack, .int .i64 a0.Role, .int .u64 a0.Root, .int .i64 a0.Cost, .int .u64 a0.Bridge, .int .i64 a0.Port, .int .i64 a0.Age, .int .i64 a0.MaxAge, .int .i64 a0.Hello, .int .i64 a0.Delay] 41 (0, 0))]) (fun _ => [b1]) (fun _ => by kernel_rfl) (fun _ => ?_)
  obtain ⟨r11, h12, hM⟩ := bind_some hM
  refine WL.callE (X := Unit) [] [] [true, false] (fun _ => _) (bpdu_flags_1_calls b2 a0.Agree 64 r9 _ h12) rfl rfl (fun _ h => h) (by kernel_rfl) (by kernel_rfl) (fun _ => rfl) (fun _ => ?_)
  refine WP.done ?_
  refine WP.seq ?_
  refine WP.region ?_
  refine WL.run 3 [1] [2, 3, 30, 32] (fun _ => [(2, .int .u8 0), (3, .pointer (some ⟨b2, 0, none⟩)), (30, .func (.func 58) #[] #[.pointer (some ⟨b2, 0, none⟩)]), (32, .bool a0.Ack)]) (fun _ => [(b2, .cells #[.int .u8 r11] 5 (0, 0)), (b1, .cells #[.int .i64 a0.Kind, .bool a0.Change, .bool a0.Propose, .bool a0.Learn, .bool a0.Forward, .bool a0.Agree, .bool a0.Ack, .int .i64 a0.Role, .int .u64 a0.Root, .int .i64 a0.Cost, .int .u64 a0.Bridge, .int .i64 a0.Port, .int .i64 a0.Age, .int .i64 a0.MaxAge, .int .i64 a0.Hello, .int .i64 a0.Delay] 41 (0, 0))]) (fun _ => [b1]) (fun _ => by kernel_rfl) (fun _ => ?_)
  obtain ⟨r13, h14, hM⟩ := bind_some hM
  refine WL.callE (X := Unit) [] [] [true, false] (fun _ => _) (bpdu_flags_1_calls b2 a0.Ack 128 r11 _ h14) rfl rfl (fun _ h => h) (by kernel_rfl) (by kernel_rfl) (fun _ => rfl) (fun _ => ?_)
  refine WP.done ?_
  refine WP.keep [true, false] (by kernel_rfl : _ = [(b2, .cells #[.int .u8 r13] 5 (0, 0))]) ?_
  refine WP.seq ?_
  refine WP.run [0] [2] (fun _ => [(2, .int .u8 r13)]) (fun _ => [(b2, .cells #[.int .u8 r13] 5 (0, 0))]) (fun _ => [b2]) (fun _ => by kernel_rfl) (fun _ => ?_)
  refine WP.keep [false] (by kernel_rfl : _ = []) ?_
  obtain rfl := Option.some.inj hM
  exact WP.ret [] [] (.int .u8 r13) (by kernel_rfl) (fun w' hw => ⟨rfl, hw.pick [] rfl⟩)

end Go.Proofs.YtefbjefmclhhjaaDoor

namespace Go.Proofs.YtefbjefmclhhjaaDoor
open Go Eng
set_option linter.unusedVariables false
set_option linter.unusedSimpArgs false

/-! ### gangway/bpdu.put: function 48 -/
def bpdu_put.f (k : Nat) (a0 : Int) (a1 : Int) : Option (ByteArray) :=
  (octets_Put.f k a0 a1).bind fun (r1, r2) =>
  some r1

set_option maxRecDepth 100000 in
theorem bpdu_put_calls (k : Nat) (a0 : Int) (a1 : Int) (r : ByteArray) (h : bpdu_put.f k a0 a1 = some r) : Pure Tryd.prog Glob 48 #[.int .u64 a0, .int .i64 a1] (.string r) := by
  intro w Z hS
  refine calls_of (args := [.int .u64 a0, .int .i64 a1]) (L := [(0, .int .u64 a0), (1, .int .i64 a1)]) (N := 14) (S := Sat w Z [] [] Glob) Tryd.func48 rfl rfl (Nat.le_of_ble_eq_true rfl) rfl hS ?_
  have hM := h
  clear h hS
  unfold bpdu_put.f at hM
  refine WP.seq ?_
  refine WP.run [] [0, 1, 4] (fun _ => [(0, .int .u64 a0), (1, .int .i64 a1), (4, .string (⟨#[]⟩ : ByteArray))]) (fun _ => []) (fun _ => []) (fun _ => by kernel_rfl) (fun _ => ?_)
  refine WP.seq ?_
  refine WP.region ?_
  refine WL.run 2 [] [4, 8, 9] (fun _ => [(4, .string (⟨#[]⟩ : ByteArray)), (8, .int .u64 a0), (9, .int .i64 a1)]) (fun _ => []) (fun _ => []) (fun _ => by kernel_rfl) (fun _ => ?_)
  obtain ⟨⟨r1, r2⟩, h3, hM⟩ := bind_some hM
  dsimp only at hM
  refine WL.callP [] [] (octets_Put_calls k a0 a1 _ h3) (fun _ h => h) (by kernel_rfl) (by kernel_rfl) rfl ?_
  refine WL.run 5 [] [4, 5] (fun _ => [(4, .string (⟨#[]⟩ : ByteArray)), (5, .string r1)]) (fun _ => []) (fun _ => []) (fun _ => by kernel_rfl) (fun _ => ?_)
  refine WP.done ?_
  refine WP.seq ?_
  refine WP.run [] [4] (fun _ => [(4, .string r1)]) (fun _ => []) (fun _ => []) (fun _ => by kernel_rfl) (fun _ => ?_)
  obtain rfl := Option.some.inj hM
  exact WP.ret [] [] (.string r1) (by kernel_rfl) (fun w' hw => ⟨rfl, hw.pick [] rfl⟩)

end Go.Proofs.YtefbjefmclhhjaaDoor

namespace Go.Proofs.YtefbjefmclhhjaaDoor
open Go Eng
set_option linter.unusedVariables false
set_option linter.unusedSimpArgs false

/-! ### gangway/bpdu.Build: function 34 -/
def bpdu_Build.k1 (x8 : ByteArray) (x53 : ByteArray) : Option (ByteArray × Int) :=
  (catS x53 x8).bind fun t54 =>
  some (t54, 0)

def bpdu_Build.k2 (a0 : api_Bpdu) (k : Nat) (x7 : ByteArray) (x8 : ByteArray) : Option (ByteArray × Int) :=
  (catS (⟨#[66, 66, 3, 0, 0]⟩ : ByteArray) x7).bind fun t10 =>
  (bpdu_flags.f a0).bind fun r12 =>
  (catS t10 (ByteArray.push ByteArray.empty (UInt8.ofNat r12.toNat))).bind fun t15 =>
  (bpdu_put.f k a0.Root 8).bind fun r17 =>
  (catS t15 r17).bind fun t19 =>
  (bpdu_put.f k (u64 a0.Cost) 4).bind fun r21 =>
  (catS t19 r21).bind fun t23 =>
  (bpdu_put.f k a0.Bridge 8).bind fun r25 =>
  (catS t23 r25).bind fun t27 =>
  (bpdu_put.f k (u64 a0.Port) 2).bind fun r29 =>
  (catS t27 r29).bind fun t31 =>
  (bpdu_put.f k (u64 a0.Age) 2).bind fun r37 =>
  (catS t31 r37).bind fun t39 =>
  (bpdu_put.f k (u64 a0.MaxAge) 2).bind fun r41 =>
  (catS t39 r41).bind fun t43 =>
  (bpdu_put.f k (u64 a0.Hello) 2).bind fun r45 =>
  (catS t43 r45).bind fun t47 =>
  (bpdu_put.f k (u64 a0.Delay) 2).bind fun r49 =>
  (catS t47 r49).bind fun t51 =>
  bpdu_Build.k1 x8 t51

def bpdu_Build.f (k : Nat) (a0 : api_Bpdu) : Option (ByteArray × Int) :=
  (bpdu_Check.f a0).bind fun r2 =>
  bif (r2 != 0) then
    some ((⟨#[]⟩ : ByteArray), r2)
  else
    bif (a0.Kind == 128) then
      some ((⟨#[66, 66, 3, 0, 0, 0, 128]⟩ : ByteArray), 0)
    else
      bif (a0.Kind == 2) then
        bpdu_Build.k2 a0 k (⟨#[2, 2]⟩ : ByteArray) (⟨#[0]⟩ : ByteArray)
      else
        bpdu_Build.k2 a0 k (⟨#[0, 0]⟩ : ByteArray) (⟨#[]⟩ : ByteArray)

set_option maxRecDepth 100000 in
theorem bpdu_Build_calls (k : Nat) (a0 : api_Bpdu) (r : ByteArray × Int) (h : bpdu_Build.f k a0 = some r) : Pure Tryd.prog Glob 34 #[.agg #[.int .i64 a0.Kind, .bool a0.Change, .bool a0.Propose, .bool a0.Learn, .bool a0.Forward, .bool a0.Agree, .bool a0.Ack, .int .i64 a0.Role, .int .u64 a0.Root, .int .i64 a0.Cost, .int .u64 a0.Bridge, .int .i64 a0.Port, .int .i64 a0.Age, .int .i64 a0.MaxAge, .int .i64 a0.Hello, .int .i64 a0.Delay]] (.tuple #[.string r.1, .int .i64 r.2]) := by
  intro w Z hS
  refine calls_of (args := [.agg #[.int .i64 a0.Kind, .bool a0.Change, .bool a0.Propose, .bool a0.Learn, .bool a0.Forward, .bool a0.Agree, .bool a0.Ack, .int .i64 a0.Role, .int .u64 a0.Root, .int .i64 a0.Cost, .int .u64 a0.Bridge, .int .i64 a0.Port, .int .i64 a0.Age, .int .i64 a0.MaxAge, .int .i64 a0.Hello, .int .i64 a0.Delay]]) (L := [(0, .agg #[.int .i64 a0.Kind, .bool a0.Change, .bool a0.Propose, .bool a0.Learn, .bool a0.Forward, .bool a0.Agree, .bool a0.Ack, .int .i64 a0.Role, .int .u64 a0.Root, .int .i64 a0.Cost, .int .u64 a0.Bridge, .int .i64 a0.Port, .int .i64 a0.Age, .int .i64 a0.MaxAge, .int .i64 a0.Hello, .int .i64 a0.Delay])]) (N := 69) (S := Sat w Z [] [] Glob) Tryd.func34 rfl rfl (Nat.le_of_ble_eq_true rfl) rfl hS ?_
  have hM := h
  clear h hS
  unfold bpdu_Build.f at hM
  refine WP.seq ?_
  refine WP.run [] [1, 2, 3] (fun b1 => [(1, .pointer (some ⟨b1, 0, none⟩)), (2, .string (⟨#[]⟩ : ByteArray)), (3, .int .i64 0)]) (fun b1 => [(b1, .cells #[.int .i64 a0.Kind, .bool a0.Change, .bool a0.Propose, .bool a0.Learn, .bool a0.Forward, .bool a0.Agree, .bool a0.Ack, .int .i64 a0.Role, .int .u64 a0.Root, .int .i64 a0.Cost, .int .u64 a0.Bridge, .int .i64 a0.Port, .int .i64 a0.Age, .int .i64 a0.MaxAge, .int .i64 a0.Hello, .int .i64 a0.Delay] 41 (0, 0))]) (fun b1 => []) (fun b1 => by kernel_rfl) (fun b1 => ?_)
  refine WP.seq ?_
  refine WP.seq ?_
  refine WP.region ?_
  refine WL.run 1 [0, 0, 0, 0, 0, 0, 0, 0, 0, 0, 0, 0, 0, 0, 0, 0] [1, 2, 3, 10] (fun _ => [(1, .pointer (some ⟨b1, 0, none⟩)), (2, .string (⟨#[]⟩ : ByteArray)), (3, .int .i64 0), (10, .agg #[.int .i64 a0.Kind, .bool a0.Change, .bool a0.Propose, .bool a0.Learn, .bool a0.Forward, .bool a0.Agree, .bool a0.Ack, .int .i64 a0.Role, .int .u64 a0.Root, .int .i64 a0.Cost, .int .u64 a0.Bridge, .int .i64 a0.Port, .int .i64 a0.Age, .int .i64 a0.MaxAge, .int .i64 a0.Hello, .int .i64 a0.Delay])]) (fun _ => [(b1, .cells #[.int .i64 a0.Kind, .bool a0.Change, .bool a0.Propose, .bool a0.Learn, .bool a0.Forward, .bool a0.Agree, .bool a0.Ack, .int .i64 a0.Role, .int .u64 a0.Root, .int .i64 a0.Cost, .int .u64 a0.Bridge, .int .i64 a0.Port, .int .i64 a0.Age, .int .i64 a0.MaxAge, .int .i64 a0.Hello, .int .i64 a0.Delay] 41 (0, 0))]) (fun _ => [b1, b1, b1, b1, b1, b1, b1, b1, b1, b1, b1, b1, b1, b1, b1, b1]) (fun _ => by kernel_rfl) (fun _ => ?_)
  obtain ⟨r2, h3, hM⟩ := bind_some hM
  refine WL.callP [] [] (bpdu_Check_calls a0 _ h3) (fun _ h => h) (by kernel_rfl) (by kernel_rfl) rfl ?_
  refine WL.run 1 [] [1, 2, 3, 4] (fun _ => [(1, .pointer (some ⟨b1, 0, none⟩)), (2, .string (⟨#[]⟩ : ByteArray)), (3, .int .i64 0), (4, .int .i64 r2)]) (fun _ => [(b1, .cells #[.int .i64 a0.Kind, .bool a0.Change, .bool a0.Propose, .bool a0.Learn, .bool a0.Forward, .bool a0.Agree, .bool a0.Ack, .int .i64 a0.Role, .int .u64 a0.Root, .int .i64 a0.Cost, .int .u64 a0.Bridge, .int .i64 a0.Port, .int .i64 a0.Age, .int .i64 a0.MaxAge, .int .i64 a0.Hello, .int .i64 a0.Delay] 41 (0, 0))]) (fun _ => []) (fun _ => by kernel_rfl) (fun _ => ?_)
  refine WP.done ?_
  refine WP.seq ?_
  refine WP.run [] [1, 2, 3, 4, 13] (fun _ => [(1, .pointer (some ⟨b1, 0, none⟩)), (2, .string (⟨#[]⟩ : ByteArray)), (3, .int .i64 0), (4, .int .i64 r2), (13, .bool (r2 != 0))]) (fun _ => [(b1, .cells #[.int .i64 a0.Kind, .bool a0.Change, .bool a0.Propose, .bool a0.Learn, .bool a0.Forward, .bool a0.Agree, .bool a0.Ack, .int .i64 a0.Role, .int .u64 a0.Root, .int .i64 a0.Cost, .int .u64 a0.Bridge, .int .i64 a0.Port, .int .i64 a0.Age, .int .i64 a0.MaxAge, .int .i64 a0.Hello, .int .i64 a0.Delay] 41 (0, 0))]) (fun _ => []) (fun _ => by kernel_rfl) (fun _ => ?_)
  refine WP.cond (r2 != 0) rfl rfl (fun c4 => ?_) (fun c4 => ?_)
  · replace hM := cond_t hM c4
    refine WP.seq ?_
    refine WP.run [] [1, 2, 3] (fun _ => [(1, .pointer (some ⟨b1, 0, none⟩)), (2, .string (⟨#[]⟩ : ByteArray)), (3, .int .i64 r2)]) (fun _ => [(b1, .cells #[.int .i64 a0.Kind, .bool a0.Change, .bool a0.Propose, .bool a0.Learn, .bool a0.Forward, .bool a0.Agree, .bool a0.Ack, .int .i64 a0.Role, .int .u64 a0.Root, .int .i64 a0.Cost, .int .u64 a0.Bridge, .int .i64 a0.Port, .int .i64 a0.Age, .int .i64 a0.MaxAge, .int .i64 a0.Hello, .int .i64 a0.Delay] 41 (0, 0))]) (fun _ => []) (fun _ => by kernel_rfl) (fun _ => ?_)
    obtain rfl := Option.some.inj hM
    exact WP.ret [] [] (.tuple #[.string (⟨#[]⟩ : ByteArray), .int .i64 r2]) (by kernel_rfl) (fun w' hw => ⟨rfl, hw.pick [] rfl⟩)
  · replace hM := cond_f hM c4
    refine WP.skip ?_
    refine WP.seq ?_
    refine WP.seq ?_
    refine WP.run [0] [1, 2, 3, 17] (fun _ => [(1, .pointer (some ⟨b1, 0, none⟩)), (2, .string (⟨#[]⟩ : ByteArray)), (3, .int .i64 0), (17, .bool (a0.Kind == 128))]) (fun _ => [(b1, .cells #[.int .i64 a0.Kind, .bool a0.Change, .bool a0.Propose, .bool a0.Learn, .bool a0.Forward, .bool a0.Agree, .bool a0.Ack, .int .i64 a0.Role, .int .u64 a0.Root, .int .i64 a0.Cost, .int .u64 a0.Bridge, .int .i64 a0.Port, .int .i64 a0.Age, .int .i64 a0.MaxAge, .int .i64 a0.Hello, .int .i64 a0.Delay] 41 (0, 0))]) (fun _ => [b1]) (fun _ => by kernel_rfl) (fun _ => ?_)
    refine WP.cond (a0.Kind == 128) rfl rfl (fun c5 => ?_) (fun c5 => ?_)
    · replace hM := cond_t hM c5
      refine WP.seq ?_
      refine WP.run [] [1, 2, 3] (fun _ => [(1, .pointer (some ⟨b1, 0, none⟩)), (2, .string (⟨#[66, 66, 3, 0, 0, 0, 128]⟩ : ByteArray)), (3, .int .i64 0)]) (fun _ => [(b1, .cells #[.int .i64 a0.Kind, .bool a0.Change, .bool a0.Propose, .bool a0.Learn, .bool a0.Forward, .bool a0.Agree, .bool a0.Ack, .int .i64 a0.Role, .int .u64 a0.Root, .int .i64 a0.Cost, .int .u64 a0.Bridge, .int .i64 a0.Port, .int .i64 a0.Age, .int .i64 a0.MaxAge, .int .i64 a0.Hello, .int .i64 a0.Delay] 41 (0, 0))]) (fun _ => []) (fun _ => by kernel_rfl) (fun _ => ?_)
      obtain rfl := Option.some.inj hM
      exact WP.ret [] [] (.tuple #[.string (⟨#[66, 66, 3, 0, 0, 0, 128]⟩ : ByteArray), .int .i64 0]) (by kernel_rfl) (fun w' hw => ⟨rfl, hw.pick [] rfl⟩)
    · replace hM := cond_f hM c5
      refine WP.skip ?_
      refine WP.seq ?_
      refine WP.run [] [1, 2, 3, 5, 6] (fun _ => [(1, .pointer (some ⟨b1, 0, none⟩)), (2, .string (⟨#[]⟩ : ByteArray)), (3, .int .i64 0), (5, .string (⟨#[0, 0]⟩ : ByteArray)), (6, .string (⟨#[]⟩ : ByteArray))]) (fun _ => [(b1, .cells #[.int .i64 a0.Kind, .bool a0.Change, .bool a0.Propose, .bool a0.Learn, .bool a0.Forward, .bool a0.Agree, .bool a0.Ack, .int .i64 a0.Role, .int .u64 a0.Root, .int .i64 a0.Cost, .int .u64 a0.Bridge, .int .i64 a0.Port, .int .i64 a0.Age, .int .i64 a0.MaxAge, .int .i64 a0.Hello, .int .i64 a0.Delay] 41 (0, 0))]) (fun _ => []) (fun _ => by kernel_rfl) (fun _ => ?_)
      refine WP.seqJoin (σ := ByteArray × ByteArray) (fun st => bpdu_Build.k2 a0 k st.1 st.2 = some r) (fun st => [(1, .pointer (some ⟨b1, 0, none⟩)), (2, .string (⟨#[]⟩ : ByteArray)), (3, .int .i64 0), (5, .string st.1), (6, .string st.2)]) (fun st => Sat w Z [(b1, .cells #[.int .i64 a0.Kind, .bool a0.Change, .bool a0.Propose, .bool a0.Learn, .bool a0.Forward, .bool a0.Agree, .bool a0.Ack, .int .i64 a0.Role, .int .u64 a0.Root, .int .i64 a0.Cost, .int .u64 a0.Bridge, .int .i64 a0.Port, .int .i64 a0.Age, .int .i64 a0.MaxAge, .int .i64 a0.Hello, .int .i64 a0.Delay] 41 (0, 0))] [] Glob) (fun st hM => ?_) (fun K2 => ?_)
      ·
        obtain ⟨x7, x8⟩ := st
        replace hM : bpdu_Build.k2 a0 k x7 x8 = some r := hM
        unfold bpdu_Build.k2 at hM
        show WP _ _ _ _ _ [(1, .pointer (some ⟨b1, 0, none⟩)), (2, .string (⟨#[]⟩ : ByteArray)), (3, .int .i64 0), (5, .string x7), (6, .string x8)] (Sat w Z [(b1, .cells #[.int .i64 a0.Kind, .bool a0.Change, .bool a0.Propose, .bool a0.Learn, .bool a0.Forward, .bool a0.Agree, .bool a0.Ack, .int .i64 a0.Role, .int .u64 a0.Root, .int .i64 a0.Cost, .int .u64 a0.Bridge, .int .i64 a0.Port, .int .i64 a0.Age, .int .i64 a0.MaxAge, .int .i64 a0.Hello, .int .i64 a0.Delay] 41 (0, 0))] [] Glob)
        refine WP.seq ?_
        obtain ⟨t10, h11, hM⟩ := bind_some hM
        obtain ⟨r12, h13, hM⟩ := bind_some hM
        obtain ⟨t15, h16, hM⟩ := bind_some hM
        obtain ⟨r17, h18, hM⟩ := bind_some hM
        obtain ⟨t19, h20, hM⟩ := bind_some hM
        obtain ⟨r21, h22, hM⟩ := bind_some hM
        obtain ⟨t23, h24, hM⟩ := bind_some hM
        obtain ⟨r25, h26, hM⟩ := bind_some hM
        obtain ⟨t27, h28, hM⟩ := bind_some hM
        obtain ⟨r29, h30, hM⟩ := bind_some hM
        refine WP.sub [1, 2, 3, 5, 6] (L' := [(1, .pointer (some ⟨b1, 0, none⟩)), (2, .string (⟨#[]⟩ : ByteArray)), (3, .int .i64 0), (5, .string x7), (6, .string x8)]) (by kernel_rfl) ?_
        refine WP.mixed 24 [.val (.string x7), .val (.string t10), .val (.agg #[.int .i64 a0.Kind, .bool a0.Change, .bool a0.Propose, .bool a0.Learn, .bool a0.Forward, .bool a0.Agree, .bool a0.Ack, .int .i64 a0.Role, .int .u64 a0.Root, .int .i64 a0.Cost, .int .u64 a0.Bridge, .int .i64 a0.Port, .int .i64 a0.Age, .int .i64 a0.MaxAge, .int .i64 a0.Hello, .int .i64 a0.Delay]), .val (.int .u8 r12), .alloc (.cells #[.int .u8 r12] 5 (0, 0)) (fun b => .slice (some ⟨b, 0, none⟩) 1 1), .use 4 (.string (ByteArray.push ByteArray.empty (UInt8.ofNat r12.toNat))), .val (.string t15), .val (.pointer (some ⟨b1, 8, none⟩)), .val (.int .u64 a0.Root), .val (.string r17), .val (.string t19), .val (.pointer (some ⟨b1, 9, none⟩)), .val (.int .i64 a0.Cost), .val (.int .u64 (u64 a0.Cost)), .val (.string r21), .val (.string t23), .val (.pointer (some ⟨b1, 10, none⟩)), .val (.int .u64 a0.Bridge), .val (.string r25), .val (.string t27), .val (.pointer (some ⟨b1, 11, none⟩)), .val (.int .i64 a0.Port), .val (.int .u64 (u64 a0.Port)), .val (.string r29)] (by kernel_rfl) (by kernel_rfl) (by kernel_rfl) (Heads.val (OpV.run [] [] (by kernel_rfl) (fun _ => by kernel_rfl)) (Heads.val (OpV.val (fun _ => run_catS (a := (⟨#[66, 66, 3, 0, 0]⟩ : ByteArray)) (b := x7) (by kernel_rfl) (by kernel_rfl) h11) (by kernel_rfl)) (Heads.val (OpV.run [0, 0, 0, 0, 0, 0, 0, 0, 0, 0, 0, 0, 0, 0, 0, 0] [b1, b1, b1, b1, b1, b1, b1, b1, b1, b1, b1, b1, b1, b1, b1, b1] (by kernel_rfl) (fun _ => by kernel_rfl)) (Heads.val (OpV.callP [] [] (bpdu_flags_calls a0 _ h13) (fun _ h => h) (fun _ => by kernel_rfl)) (Heads.alloc (by kernel_rfl) (fun _ => by kernel_rfl) (Heads.use 25 (fun b => .slice (some ⟨b, 0, none⟩) 1 1) (.cells #[.int .u8 r12] 5 (0, 0)) rfl rfl (OpU.run [1] (fun b => [b]) (fun _ => by kernel_rfl) (fun _ _ => by kernel_rfl)) (Heads.val (OpV.val (fun _ => run_catS (a := t10) (b := (ByteArray.push ByteArray.empty (UInt8.ofNat r12.toNat))) (by kernel_rfl) (by kernel_rfl) h16) (by kernel_rfl)) (Heads.val (OpV.run [] [] (by kernel_rfl) (fun _ => by kernel_rfl)) (Heads.val (OpV.run [0] [b1] (by kernel_rfl) (fun _ => by kernel_rfl)) (Heads.val (OpV.callP [] [] (bpdu_put_calls k a0.Root 8 _ h18) (fun _ h => h) (fun _ => by kernel_rfl)) (Heads.val (OpV.val (fun _ => run_catS (a := t15) (b := r17) (by kernel_rfl) (by kernel_rfl) h20) (by kernel_rfl)) (Heads.val (OpV.run [] [] (by kernel_rfl) (fun _ => by kernel_rfl)) (Heads.val (OpV.run [0] [b1] (by kernel_rfl) (fun _ => by kernel_rfl)) (Heads.val (OpV.run [] [] (by kernel_rfl) (fun _ => by kernel_rfl)) (Heads.val (OpV.callP [] [] (bpdu_put_calls k (u64 a0.Cost) 4 _ h22) (fun _ h => h) (fun _ => by kernel_rfl)) (Heads.val (OpV.val (fun _ => run_catS (a := t19) (b := r21) (by kernel_rfl) (by kernel_rfl) h24) (by kernel_rfl)) (Heads.val (OpV.run [] [] (by kernel_rfl) (fun _ => by kernel_rfl)) (Heads.val (OpV.run [0] [b1] (by kernel_rfl) (fun _ => by kernel_rfl)) (Heads.val (OpV.callP [] [] (bpdu_put_calls k a0.Bridge 8 _ h26) (fun _ h => h) (fun _ => by kernel_rfl)) (Heads.val (OpV.val (fun _ => run_catS (a := t23) (b := r25) (by kernel_rfl) (by kernel_rfl) h28) (by kernel_rfl)) (Heads.val (OpV.run [] [] (by kernel_rfl) (fun _ => by kernel_rfl)) (Heads.val (OpV.run [0] [b1] (by kernel_rfl) (fun _ => by kernel_rfl)) (Heads.val (OpV.run [] [] (by kernel_rfl) (fun _ => by kernel_rfl)) (Heads.val (OpV.callP [] [] (bpdu_put_calls k (u64 a0.Port) 2 _ h30) (fun _ h => h) (fun _ => by kernel_rfl)) Heads.nil)))))))))))))))))))))))) (fun s9 => [(21, .string x7), (22, .string t10), (23, .agg #[.int .i64 a0.Kind, .bool a0.Change, .bool a0.Propose, .bool a0.Learn, .bool a0.Forward, .bool a0.Agree, .bool a0.Ack, .int .i64 a0.Role, .int .u64 a0.Root, .int .i64 a0.Cost, .int .u64 a0.Bridge, .int .i64 a0.Port, .int .i64 a0.Age, .int .i64 a0.MaxAge, .int .i64 a0.Hello, .int .i64 a0.Delay]), (24, .int .u8 r12), (25, .slice (some ⟨(s9 4), 0, none⟩) 1 1), (26, .string (ByteArray.push ByteArray.empty (UInt8.ofNat r12.toNat))), (27, .string t15), (28, .pointer (some ⟨b1, 8, none⟩)), (29, .int .u64 a0.Root), (30, .string r17), (31, .string t19), (32, .pointer (some ⟨b1, 9, none⟩)), (33, .int .i64 a0.Cost), (34, .int .u64 (u64 a0.Cost)), (35, .string r21), (36, .string t23), (37, .pointer (some ⟨b1, 10, none⟩)), (38, .int .u64 a0.Bridge), (39, .string r25), (40, .string t27), (41, .pointer (some ⟨b1, 11, none⟩)), (42, .int .i64 a0.Port), (43, .int .u64 (u64 a0.Port)), (44, .string r29), (1, .pointer (some ⟨b1, 0, none⟩)), (2, .string (⟨#[]⟩ : ByteArray)), (3, .int .i64 0), (5, .string x7), (6, .string x8)]) (fun s9 => [(b1, .cells #[.int .i64 a0.Kind, .bool a0.Change, .bool a0.Propose, .bool a0.Learn, .bool a0.Forward, .bool a0.Agree, .bool a0.Ack, .int .i64 a0.Role, .int .u64 a0.Root, .int .i64 a0.Cost, .int .u64 a0.Bridge, .int .i64 a0.Port, .int .i64 a0.Age, .int .i64 a0.MaxAge, .int .i64 a0.Hello, .int .i64 a0.Delay] 41 (0, 0)), ((s9 4), .cells #[.int .u8 r12] 5 (0, 0))]) (fun _ => by kernel_rfl) (fun _ => by kernel_rfl) (fun s9 => ?_)
        generalize s9 4 = b14
        obtain ⟨t31, h32, hM⟩ := bind_some hM
        refine WL.val (fun _ => run_catS (a := t27) (b := r29) (by kernel_rfl) (by kernel_rfl) h32) (by kernel_rfl) (by kernel_rfl) rfl ?_
        refine WL.run 1 [] [1, 2, 3, 6, 7] (fun _ => [(1, .pointer (some ⟨b1, 0, none⟩)), (2, .string (⟨#[]⟩ : ByteArray)), (3, .int .i64 0), (6, .string x8), (7, .string t31)]) (fun _ => [(b1, .cells #[.int .i64 a0.Kind, .bool a0.Change, .bool a0.Propose, .bool a0.Learn, .bool a0.Forward, .bool a0.Agree, .bool a0.Ack, .int .i64 a0.Role, .int .u64 a0.Root, .int .i64 a0.Cost, .int .u64 a0.Bridge, .int .i64 a0.Port, .int .i64 a0.Age, .int .i64 a0.MaxAge, .int .i64 a0.Hello, .int .i64 a0.Delay] 41 (0, 0)), (b14, .cells #[.int .u8 r12] 5 (0, 0))]) (fun _ => []) (fun _ => by kernel_rfl) (fun _ => ?_)
        refine WP.done ?_
        refine WP.keep [true, false] (by kernel_rfl : _ = [(b1, .cells #[.int .i64 a0.Kind, .bool a0.Change, .bool a0.Propose, .bool a0.Learn, .bool a0.Forward, .bool a0.Agree, .bool a0.Ack, .int .i64 a0.Role, .int .u64 a0.Root, .int .i64 a0.Cost, .int .u64 a0.Bridge, .int .i64 a0.Port, .int .i64 a0.Age, .int .i64 a0.MaxAge, .int .i64 a0.Hello, .int .i64 a0.Delay] 41 (0, 0))]) ?_
        refine WP.seq ?_
        refine WP.seq ?_
        refine WP.run [0, 0, 0, 0] [2, 3, 6, 7, 54, 55, 56] (fun b33 => [(2, .string (⟨#[]⟩ : ByteArray)), (3, .int .i64 0), (6, .string x8), (7, .string t31), (54, .slice (some ⟨b33, 0, none⟩) 4 4), (55, .int .i64 4), (56, .int .i64 0)]) (fun b33 => [(b1, .cells #[.int .i64 a0.Kind, .bool a0.Change, .bool a0.Propose, .bool a0.Learn, .bool a0.Forward, .bool a0.Agree, .bool a0.Ack, .int .i64 a0.Role, .int .u64 a0.Root, .int .i64 a0.Cost, .int .u64 a0.Bridge, .int .i64 a0.Port, .int .i64 a0.Age, .int .i64 a0.MaxAge, .int .i64 a0.Hello, .int .i64 a0.Delay] 41 (0, 0)), (b33, .cells #[.int .i64 a0.Age, .int .i64 a0.MaxAge, .int .i64 a0.Hello, .int .i64 a0.Delay] 3 (0, 0))]) (fun b33 => [b1, b1, b1, b1]) (fun b33 => by kernel_rfl) (fun b33 => ?_)
        refine WP.keep [false, true] (by kernel_rfl : _ = [(b33, .cells #[.int .i64 a0.Age, .int .i64 a0.MaxAge, .int .i64 a0.Hello, .int .i64 a0.Delay] 3 (0, 0))]) ?_
        refine WP.blockJoin (σ := ByteArray) (fun st => bpdu_Build.k1 x8 st = some r) (fun st => [(2, .string (⟨#[]⟩ : ByteArray)), (3, .int .i64 0), (6, .string x8), (7, .string st)]) (fun st => Sat w Z [] [] Glob) (fun st hM => ?_) (fun K1 => ?_)
        ·
          obtain ⟨x53, rfl⟩ : ∃ y, y = st := ⟨st, rfl⟩
          replace hM : bpdu_Build.k1 x8 x53 = some r := hM
          unfold bpdu_Build.k1 at hM
          show WP _ _ _ _ _ [(2, .string (⟨#[]⟩ : ByteArray)), (3, .int .i64 0), (6, .string x8), (7, .string x53)] (Sat w Z [] [] Glob)
          refine WP.seq ?_
          refine WP.region ?_
          refine WL.run 2 [] [2, 3, 66, 67] (fun _ => [(2, .string (⟨#[]⟩ : ByteArray)), (3, .int .i64 0), (66, .string x53), (67, .string x8)]) (fun _ => []) (fun _ => []) (fun _ => by kernel_rfl) (fun _ => ?_)
          obtain ⟨t54, h55, hM⟩ := bind_some hM
          refine WL.val (fun _ => run_catS (a := x53) (b := x8) (by kernel_rfl) (by kernel_rfl) h55) (by kernel_rfl) (by kernel_rfl) rfl ?_
          refine WL.run 2 [] [2, 3] (fun _ => [(2, .string t54), (3, .int .i64 0)]) (fun _ => []) (fun _ => []) (fun _ => by kernel_rfl) (fun _ => ?_)
          refine WP.done ?_
          obtain rfl := Option.some.inj hM
          exact WP.ret [] [] (.tuple #[.string t54, .int .i64 0]) (by kernel_rfl) (fun w' hw => ⟨rfl, hw.pick [] rfl⟩)
        ·
          refine WP.unroll 40 ?_
          refine WP.seq ?_
          refine WP.run [] [2, 3, 6, 7, 54, 55, 56, 57] (fun _ => [(2, .string (⟨#[]⟩ : ByteArray)), (3, .int .i64 0), (6, .string x8), (7, .string t31), (54, .slice (some ⟨b33, 0, none⟩) 4 4), (55, .int .i64 4), (56, .int .i64 0), (57, .bool true)]) (fun _ => [(b33, .cells #[.int .i64 a0.Age, .int .i64 a0.MaxAge, .int .i64 a0.Hello, .int .i64 a0.Delay] 3 (0, 0))]) (fun _ => []) (fun _ => by kernel_rfl) (fun _ => ?_)
          refine WP.seq ?_
          refine WP.yes rfl rfl ?_
          refine WP.skip ?_
          refine WP.seq ?_
          refine WP.block ?_
          refine WP.seq ?_
          refine WP.run [0] [2, 3, 6, 7, 9, 54, 55, 56, 57, 58, 59] (fun _ => [(2, .string (⟨#[]⟩ : ByteArray)), (3, .int .i64 0), (6, .string x8), (7, .string t31), (9, .int .i64 a0.Age), (54, .slice (some ⟨b33, 0, none⟩) 4 4), (55, .int .i64 4), (56, .int .i64 0), (57, .bool true), (58, .pointer (some ⟨b33, 0, none⟩)), (59, .int .i64 a0.Age)]) (fun _ => [(b33, .cells #[.int .i64 a0.Age, .int .i64 a0.MaxAge, .int .i64 a0.Hello, .int .i64 a0.Delay] 3 (0, 0))]) (fun _ => [b33]) (fun _ => by kernel_rfl) (fun _ => ?_)
          refine WP.region ?_
          refine WL.run 3 [] [2, 3, 6, 7, 9, 54, 55, 56, 57, 58, 59, 60, 61, 62] (fun _ => [(2, .string (⟨#[]⟩ : ByteArray)), (3, .int .i64 0), (6, .string x8), (7, .string t31), (9, .int .i64 a0.Age), (54, .slice (some ⟨b33, 0, none⟩) 4 4), (55, .int .i64 4), (56, .int .i64 0), (57, .bool true), (58, .pointer (some ⟨b33, 0, none⟩)), (59, .int .i64 a0.Age), (60, .string t31), (61, .int .i64 a0.Age), (62, .int .u64 (u64 a0.Age))]) (fun _ => [(b33, .cells #[.int .i64 a0.Age, .int .i64 a0.MaxAge, .int .i64 a0.Hello, .int .i64 a0.Delay] 3 (0, 0))]) (fun _ => []) (fun _ => by kernel_rfl) (fun _ => ?_)
          obtain ⟨r37, h38, hM⟩ := bind_some hM
          refine WL.callP [] [] (bpdu_put_calls k (u64 a0.Age) 2 _ h38) (fun _ h => h) (by kernel_rfl) (by kernel_rfl) rfl ?_
          obtain ⟨t39, h40, hM⟩ := bind_some hM
          refine WL.val (fun _ => run_catS (a := t31) (b := r37) (by kernel_rfl) (by kernel_rfl) h40) (by kernel_rfl) (by kernel_rfl) rfl ?_
          refine WL.run 1 [] [2, 3, 6, 7, 9, 54, 55, 56, 57, 58, 59, 60, 61, 62, 63, 64] (fun _ => [(2, .string (⟨#[]⟩ : ByteArray)), (3, .int .i64 0), (6, .string x8), (7, .string t39), (9, .int .i64 a0.Age), (54, .slice (some ⟨b33, 0, none⟩) 4 4), (55, .int .i64 4), (56, .int .i64 0), (57, .bool true), (58, .pointer (some ⟨b33, 0, none⟩)), (59, .int .i64 a0.Age), (60, .string t31), (61, .int .i64 a0.Age), (62, .int .u64 (u64 a0.Age)), (63, .string r37), (64, .string t39)]) (fun _ => [(b33, .cells #[.int .i64 a0.Age, .int .i64 a0.MaxAge, .int .i64 a0.Hello, .int .i64 a0.Delay] 3 (0, 0))]) (fun _ => []) (fun _ => by kernel_rfl) (fun _ => ?_)
          refine WP.done ?_
          refine WP.leave ?_
          refine WP.run [] [2, 3, 6, 7, 9, 54, 55, 56, 57, 58, 59, 60, 61, 62, 63, 64, 65] (fun _ => [(2, .string (⟨#[]⟩ : ByteArray)), (3, .int .i64 0), (6, .string x8), (7, .string t39), (9, .int .i64 a0.Age), (54, .slice (some ⟨b33, 0, none⟩) 4 4), (55, .int .i64 4), (56, .int .i64 1), (57, .bool true), (58, .pointer (some ⟨b33, 0, none⟩)), (59, .int .i64 a0.Age), (60, .string t31), (61, .int .i64 a0.Age), (62, .int .u64 (u64 a0.Age)), (63, .string r37), (64, .string t39), (65, .int .i64 1)]) (fun _ => [(b33, .cells #[.int .i64 a0.Age, .int .i64 a0.MaxAge, .int .i64 a0.Hello, .int .i64 a0.Delay] 3 (0, 0))]) (fun _ => []) (fun _ => by kernel_rfl) (fun _ => ?_)
          refine WP.round ?_
          refine WP.seq ?_
          refine WP.run [] [2, 3, 6, 7, 9, 54, 55, 56, 57, 58, 59, 60, 61, 62, 63, 64, 65] (fun _ => [(2, .string (⟨#[]⟩ : ByteArray)), (3, .int .i64 0), (6, .string x8), (7, .string t39), (9, .int .i64 a0.Age), (54, .slice (some ⟨b33, 0, none⟩) 4 4), (55, .int .i64 4), (56, .int .i64 1), (57, .bool true), (58, .pointer (some ⟨b33, 0, none⟩)), (59, .int .i64 a0.Age), (60, .string t31), (61, .int .i64 a0.Age), (62, .int .u64 (u64 a0.Age)), (63, .string r37), (64, .string t39), (65, .int .i64 1)]) (fun _ => [(b33, .cells #[.int .i64 a0.Age, .int .i64 a0.MaxAge, .int .i64 a0.Hello, .int .i64 a0.Delay] 3 (0, 0))]) (fun _ => []) (fun _ => by kernel_rfl) (fun _ => ?_)
          refine WP.seq ?_
          refine WP.yes rfl rfl ?_
          refine WP.skip ?_
          refine WP.seq ?_
          refine WP.block ?_
          refine WP.seq ?_
          refine WP.run [0] [2, 3, 6, 7, 9, 54, 55, 56, 57, 58, 59, 60, 61, 62, 63, 64, 65] (fun _ => [(2, .string (⟨#[]⟩ : ByteArray)), (3, .int .i64 0), (6, .string x8), (7, .string t39), (9, .int .i64 a0.MaxAge), (54, .slice (some ⟨b33, 0, none⟩) 4 4), (55, .int .i64 4), (56, .int .i64 1), (57, .bool true), (58, .pointer (some ⟨b33, 1, none⟩)), (59, .int .i64 a0.MaxAge), (60, .string t31), (61, .int .i64 a0.Age), (62, .int .u64 (u64 a0.Age)), (63, .string r37), (64, .string t39), (65, .int .i64 1)]) (fun _ => [(b33, .cells #[.int .i64 a0.Age, .int .i64 a0.MaxAge, .int .i64 a0.Hello, .int .i64 a0.Delay] 3 (0, 0))]) (fun _ => [b33]) (fun _ => by kernel_rfl) (fun _ => ?_)
          refine WP.region ?_
          refine WL.run 3 [] [2, 3, 6, 7, 9, 54, 55, 56, 57, 58, 59, 60, 61, 62, 63, 64, 65] (fun _ => [(2, .string (⟨#[]⟩ : ByteArray)), (3, .int .i64 0), (6, .string x8), (7, .string t39), (9, .int .i64 a0.MaxAge), (54, .slice (some ⟨b33, 0, none⟩) 4 4), (55, .int .i64 4), (56, .int .i64 1), (57, .bool true), (58, .pointer (some ⟨b33, 1, none⟩)), (59, .int .i64 a0.MaxAge), (60, .string t39), (61, .int .i64 a0.MaxAge), (62, .int .u64 (u64 a0.MaxAge)), (63, .string r37), (64, .string t39), (65, .int .i64 1)]) (fun _ => [(b33, .cells #[.int .i64 a0.Age, .int .i64 a0.MaxAge, .int .i64 a0.Hello, .int .i64 a0.Delay] 3 (0, 0))]) (fun _ => []) (fun _ => by kernel_rfl) (fun _ => ?_)
          obtain ⟨r41, h42, hM⟩ := bind_some hM
          refine WL.callP [] [] (bpdu_put_calls k (u64 a0.MaxAge) 2 _ h42) (fun _ h => h) (by kernel_rfl) (by kernel_rfl) rfl ?_
          obtain ⟨t43, h44, hM⟩ := bind_some hM
          refine WL.val (fun _ => run_catS (a := t39) (b := r41) (by kernel_rfl) (by kernel_rfl) h44) (by kernel_rfl) (by kernel_rfl) rfl ?_
          refine WL.run 1 [] [2, 3, 6, 7, 9, 54, 55, 56, 57, 58, 59, 60, 61, 62, 63, 64, 65] (fun _ => [(2, .string (⟨#[]⟩ : ByteArray)), (3, .int .i64 0), (6, .string x8), (7, .string t43), (9, .int .i64 a0.MaxAge), (54, .slice (some ⟨b33, 0, none⟩) 4 4), (55, .int .i64 4), (56, .int .i64 1), (57, .bool true), (58, .pointer (some ⟨b33, 1, none⟩)), (59, .int .i64 a0.MaxAge), (60, .string t39), (61, .int .i64 a0.MaxAge), (62, .int .u64 (u64 a0.MaxAge)), (63, .string r41), (64, .string t43), (65, .int .i64 1)]) (fun _ => [(b33, .cells #[.int .i64 a0.Age, .int .i64 a0.MaxAge, .int .i64 a0.Hello, .int .i64 a0.Delay] 3 (0, 0))]) (fun _ => []) (fun _ => by kernel_rfl) (fun _ => ?_)
          refine WP.done ?_
          refine WP.leave ?_
          refine WP.run [] [2, 3, 6, 7, 9, 54, 55, 56, 57, 58, 59, 60, 61, 62, 63, 64, 65] (fun _ => [(2, .string (⟨#[]⟩ : ByteArray)), (3, .int .i64 0), (6, .string x8), (7, .string t43), (9, .int .i64 a0.MaxAge), (54, .slice (some ⟨b33, 0, none⟩) 4 4), (55, .int .i64 4), (56, .int .i64 2), (57, .bool true), (58, .pointer (some ⟨b33, 1, none⟩)), (59, .int .i64 a0.MaxAge), (60, .string t39), (61, .int .i64 a0.MaxAge), (62, .int .u64 (u64 a0.MaxAge)), (63, .string r41), (64, .string t43), (65, .int .i64 2)]) (fun _ => [(b33, .cells #[.int .i64 a0.Age, .int .i64 a0.MaxAge, .int .i64 a0.Hello, .int .i64 a0.Delay] 3 (0, 0))]) (fun _ => []) (fun _ => by kernel_rfl) (fun _ => ?_)
          refine WP.round ?_
          refine WP.seq ?_
          refine WP.run [] [2, 3, 6, 7, 9, 54, 55, 56, 57, 58, 59, 60, 61, 62, 63, 64, 65] (fun _ => [(2, .string (⟨#[]⟩ : ByteArray)), (3, .int .i64 0), (6, .string x8), (7, .string t43), (9, .int .i64 a0.MaxAge), (54, .slice (some ⟨b33, 0, none⟩) 4 4), (55, .int .i64 4), (56, .int .i64 2), (57, .bool true), (58, .pointer (some ⟨b33, 1, none⟩)), (59, .int .i64 a0.MaxAge), (60, .string t39), (61, .int .i64 a0.MaxAge), (62, .int .u64 (u64 a0.MaxAge)), (63, .string r41), (64, .string t43), (65, .int .i64 2)]) (fun _ => [(b33, .cells #[.int .i64 a0.Age, .int .i64 a0.MaxAge, .int .i64 a0.Hello, .int .i64 a0.Delay] 3 (0, 0))]) (fun _ => []) (fun _ => by kernel_rfl) (fun _ => ?_)
          refine WP.seq ?_
          refine WP.yes rfl rfl ?_
          refine WP.skip ?_
          refine WP.seq ?_
          refine WP.block ?_
          refine WP.seq ?_
          refine WP.run [0] [2, 3, 6, 7, 9, 54, 55, 56, 57, 58, 59, 60, 61, 62, 63, 64, 65] (fun _ => [(2, .string (⟨#[]⟩ : ByteArray)), (3, .int .i64 0), (6, .string x8), (7, .string t43), (9, .int .i64 a0.Hello), (54, .slice (some ⟨b33, 0, none⟩) 4 4), (55, .int .i64 4), (56, .int .i64 2), (57, .bool true), (58, .pointer (some ⟨b33, 2, none⟩)), (59, .int .i64 a0.Hello), (60, .string t39), (61, .int .i64 a0.MaxAge), (62, .int .u64 (u64 a0.MaxAge)), (63, .string r41), (64, .string t43), (65, .int .i64 2)]) (fun _ => [(b33, .cells #[.int .i64 a0.Age, .int .i64 a0.MaxAge, .int .i64 a0.Hello, .int .i64 a0.Delay] 3 (0, 0))]) (fun _ => [b33]) (fun _ => by kernel_rfl) (fun _ => ?_)
          refine WP.region ?_
          refine WL.run 3 [] [2, 3, 6, 7, 9, 54, 55, 56, 57, 58, 59, 60, 61, 62, 63, 64, 65] (fun _ => [(2, .string (⟨#[]⟩ : ByteArray)), (3, .int .i64 0), (6, .string x8), (7, .string t43), (9, .int .i64 a0.Hello), (54, .slice (some ⟨b33, 0, none⟩) 4 4), (55, .int .i64 4), (56, .int .i64 2), (57, .bool true), (58, .pointer (some ⟨b33, 2, none⟩)), (59, .int .i64 a0.Hello), (60, .string t43), (61, .int .i64 a0.Hello), (62, .int .u64 (u64 a0.Hello)), (63, .string r41), (64, .string t43), (65, .int .i64 2)]) (fun _ => [(b33, .cells #[.int .i64 a0.Age, .int .i64 a0.MaxAge, .int .i64 a0.Hello, .int .i64 a0.Delay] 3 (0, 0))]) (fun _ => []) (fun _ => by kernel_rfl) (fun _ => ?_)
          obtain ⟨r45, h46, hM⟩ := bind_some hM
          refine WL.callP [] [] (bpdu_put_calls k (u64 a0.Hello) 2 _ h46) (fun _ h => h) (by kernel_rfl) (by kernel_rfl) rfl ?_
          obtain ⟨t47, h48, hM⟩ := bind_some hM
          refine WL.val (fun _ => run_catS (a := t43) (b := r45) (by kernel_rfl) (by kernel_rfl) h48) (by kernel_rfl) (by kernel_rfl) rfl ?_
          refine WL.run 1 [] [2, 3, 6, 7, 9, 54, 55, 56, 57, 58, 59, 60, 61, 62, 63, 64, 65] (fun _ => [(2, .string (⟨#[]⟩ : ByteArray)), (3, .int .i64 0), (6, .string x8), (7, .string t47), (9, .int .i64 a0.Hello), (54, .slice (some ⟨b33, 0, none⟩) 4 4), (55, .int .i64 4), (56, .int .i64 2), (57, .bool true), (58, .pointer (some ⟨b33, 2, none⟩)), (59, .int .i64 a0.Hello), (60, .string t43), (61, .int .i64 a0.Hello), (62, .int .u64 (u64 a0.Hello)), (63, .string r45), (64, .string t47), (65, .int .i64 2)]) (fun _ => [(b33, .cells #[.int .i64 a0.Age, .int .i64 a0.MaxAge, .int .i64 a0.Hello, .int .i64 a0.Delay] 3 (0, 0))]) (fun _ => []) (fun _ => by kernel_rfl) (fun _ => ?_)
          refine WP.done ?_
          refine WP.leave ?_
          refine WP.run [] [2, 3, 6, 7, 9, 54, 55, 56, 57, 58, 59, 60, 61, 62, 63, 64, 65] (fun _ => [(2, .string (⟨#[]⟩ : ByteArray)), (3, .int .i64 0), (6, .string x8), (7, .string t47), (9, .int .i64 a0.Hello), (54, .slice (some ⟨b33, 0, none⟩) 4 4), (55, .int .i64 4), (56, .int .i64 3), (57, .bool true), (58, .pointer (some ⟨b33, 2, none⟩)), (59, .int .i64 a0.Hello), (60, .string t43), (61, .int .i64 a0.Hello), (62, .int .u64 (u64 a0.Hello)), (63, .string r45), (64, .string t47), (65, .int .i64 3)]) (fun _ => [(b33, .cells #[.int .i64 a0.Age, .int .i64 a0.MaxAge, .int .i64 a0.Hello, .int .i64 a0.Delay] 3 (0, 0))]) (fun _ => []) (fun _ => by kernel_rfl) (fun _ => ?_)
          refine WP.round ?_
          refine WP.seq ?_
          refine WP.run [] [2, 3, 6, 7, 9, 54, 55, 56, 57, 58, 59, 60, 61, 62, 63, 64, 65] (fun _ => [(2, .string (⟨#[]⟩ : ByteArray)), (3, .int .i64 0), (6, .string x8), (7, .string t47), (9, .int .i64 a0.Hello), (54, .slice (some ⟨b33, 0, none⟩) 4 4), (55, .int .i64 4), (56, .int .i64 3), (57, .bool true), (58, .pointer (some ⟨b33, 2, none⟩)), (59, .int .i64 a0.Hello), (60, .string t43), (61, .int .i64 a0.Hello), (62, .int .u64 (u64 a0.Hello)), (63, .string r45), (64, .string t47), (65, .int .i64 3)]) (fun _ => [(b33, .cells #[.int .i64 a0.Age, .int .i64 a0.MaxAge, .int .i64 a0.Hello, .int .i64 a0.Delay] 3 (0, 0))]) (fun _ => []) (fun _ => by kernel_rfl) (fun _ => ?_)
          refine WP.seq ?_
          refine WP.yes rfl rfl ?_
          refine WP.skip ?_
          refine WP.seq ?_
          refine WP.block ?_
          refine WP.seq ?_
          refine WP.run [0] [2, 3, 6, 7, 9, 54, 55, 56, 57, 58, 59, 60, 61, 62, 63, 64, 65] (fun _ => [(2, .string (⟨#[]⟩ : ByteArray)), (3, .int .i64 0), (6, .string x8), (7, .string t47), (9, .int .i64 a0.Delay), (54, .slice (some ⟨b33, 0, none⟩) 4 4), (55, .int .i64 4), (56, .int .i64 3), (57, .bool true), (58, .pointer (some ⟨b33, 3, none⟩)), (59, .int .i64 a0.Delay), (60, .string t43), (61, .int .i64 a0.Hello), (62, .int .u64 (u64 a0.Hello)), (63, .string r45), (64, .string t47), (65, .int .i64 3)]) (fun _ => [(b33, .cells #[.int .i64 a0.Age, .int .i64 a0.MaxAge, .int .i64 a0.Hello, .int .i64 a0.Delay] 3 (0, 0))]) (fun _ => [b33]) (fun _ => by kernel_rfl) (fun _ => ?_)
          refine WP.region ?_
          refine WL.run 3 [] [2, 3, 6, 7, 9, 54, 55, 56, 57, 58, 59, 60, 61, 62, 63, 64, 65] (fun _ => [(2, .string (⟨#[]⟩ : ByteArray)), (3, .int .i64 0), (6, .string x8), (7, .string t47), (9, .int .i64 a0.Delay), (54, .slice (some ⟨b33, 0, none⟩) 4 4), (55, .int .i64 4), (56, .int .i64 3), (57, .bool true), (58, .pointer (some ⟨b33, 3, none⟩)), (59, .int .i64 a0.Delay), (60, .string t47), (61, .int .i64 a0.Delay), (62, .int .u64 (u64 a0.Delay)), (63, .string r45), (64, .string t47), (65, .int .i64 3)]) (fun _ => [(b33, .cells #[.int .i64 a0.Age, .int .i64 a0.MaxAge, .int .i64 a0.Hello, .int .i64 a0.Delay] 3 (0, 0))]) (fun _ => []) (fun _ => by kernel_rfl) (fun _ => ?_)
          obtain ⟨r49, h50, hM⟩ := bind_some hM
          refine WL.callP [] [] (bpdu_put_calls k (u64 a0.Delay) 2 _ h50) (fun _ h => h) (by kernel_rfl) (by kernel_rfl) rfl ?_
          obtain ⟨t51, h52, hM⟩ := bind_some hM
          refine WL.val (fun _ => run_catS (a := t47) (b := r49) (by kernel_rfl) (by kernel_rfl) h52) (by kernel_rfl) (by kernel_rfl) rfl ?_
          refine WL.run 1 [] [2, 3, 6, 7, 9, 54, 55, 56, 57, 58, 59, 60, 61, 62, 63, 64, 65] (fun _ => [(2, .string (⟨#[]⟩ : ByteArray)), (3, .int .i64 0), (6, .string x8), (7, .string t51), (9, .int .i64 a0.Delay), (54, .slice (some ⟨b33, 0, none⟩) 4 4), (55, .int .i64 4), (56, .int .i64 3), (57, .bool true), (58, .pointer (some ⟨b33, 3, none⟩)), (59, .int .i64 a0.Delay), (60, .string t47), (61, .int .i64 a0.Delay), (62, .int .u64 (u64 a0.Delay)), (63, .string r49), (64, .string t51), (65, .int .i64 3)]) (fun _ => [(b33, .cells #[.int .i64 a0.Age, .int .i64 a0.MaxAge, .int .i64 a0.Hello, .int .i64 a0.Delay] 3 (0, 0))]) (fun _ => []) (fun _ => by kernel_rfl) (fun _ => ?_)
          refine WP.done ?_
          refine WP.leave ?_
          refine WP.run [] [2, 3, 6, 7, 9, 54, 55, 56, 57, 58, 59, 60, 61, 62, 63, 64, 65] (fun _ => [(2, .string (⟨#[]⟩ : ByteArray)), (3, .int .i64 0), (6, .string x8), (7, .string t51), (9, .int .i64 a0.Delay), (54, .slice (some ⟨b33, 0, none⟩) 4 4), (55, .int .i64 4), (56, .int .i64 4), (57, .bool true), (58, .pointer (some ⟨b33, 3, none⟩)), (59, .int .i64 a0.Delay), (60, .string t47), (61, .int .i64 a0.Delay), (62, .int .u64 (u64 a0.Delay)), (63, .string r49), (64, .string t51), (65, .int .i64 4)]) (fun _ => [(b33, .cells #[.int .i64 a0.Age, .int .i64 a0.MaxAge, .int .i64 a0.Hello, .int .i64 a0.Delay] 3 (0, 0))]) (fun _ => []) (fun _ => by kernel_rfl) (fun _ => ?_)
          refine WP.round ?_
          refine WP.seq ?_
          refine WP.run [] [2, 3, 6, 7, 9, 54, 55, 56, 57, 58, 59, 60, 61, 62, 63, 64, 65] (fun _ => [(2, .string (⟨#[]⟩ : ByteArray)), (3, .int .i64 0), (6, .string x8), (7, .string t51), (9, .int .i64 a0.Delay), (54, .slice (some ⟨b33, 0, none⟩) 4 4), (55, .int .i64 4), (56, .int .i64 4), (57, .bool false), (58, .pointer (some ⟨b33, 3, none⟩)), (59, .int .i64 a0.Delay), (60, .string t47), (61, .int .i64 a0.Delay), (62, .int .u64 (u64 a0.Delay)), (63, .string r49), (64, .string t51), (65, .int .i64 4)]) (fun _ => [(b33, .cells #[.int .i64 a0.Age, .int .i64 a0.MaxAge, .int .i64 a0.Hello, .int .i64 a0.Delay] 3 (0, 0))]) (fun _ => []) (fun _ => by kernel_rfl) (fun _ => ?_)
          refine WP.seq ?_
          refine WP.no rfl rfl ?_
          refine WP.exit rfl ?_
          exact WP.sub [2, 3, 6, 7] (by kernel_rfl) (WP.pick [] (by kernel_rfl) (by kernel_rfl) (K1 t51 hM))
      ·
        refine WP.seq ?_
        refine WP.run [0] [1, 2, 3, 5, 6, 20] (fun _ => [(1, .pointer (some ⟨b1, 0, none⟩)), (2, .string (⟨#[]⟩ : ByteArray)), (3, .int .i64 0), (5, .string (⟨#[0, 0]⟩ : ByteArray)), (6, .string (⟨#[]⟩ : ByteArray)), (20, .bool (a0.Kind == 2))]) (fun _ => [(b1, .cells #[.int .i64 a0.Kind, .bool a0.Change, .bool a0.Propose, .bool a0.Learn, .bool a0.Forward, .bool a0.Agree, .bool a0.Ack, .int .i64 a0.Role, .int .u64 a0.Root, .int .i64 a0.Cost, .int .u64 a0.Bridge, .int .i64 a0.Port, .int .i64 a0.Age, .int .i64 a0.MaxAge, .int .i64 a0.Hello, .int .i64 a0.Delay] 41 (0, 0))]) (fun _ => [b1]) (fun _ => by kernel_rfl) (fun _ => ?_)
        refine WP.cond (a0.Kind == 2) rfl rfl (fun c6 => ?_) (fun c6 => ?_)
        · replace hM := cond_t hM c6
          refine WP.run [] [1, 2, 3, 5, 6] (fun _ => [(1, .pointer (some ⟨b1, 0, none⟩)), (2, .string (⟨#[]⟩ : ByteArray)), (3, .int .i64 0), (5, .string (⟨#[2, 2]⟩ : ByteArray)), (6, .string (⟨#[0]⟩ : ByteArray))]) (fun _ => [(b1, .cells #[.int .i64 a0.Kind, .bool a0.Change, .bool a0.Propose, .bool a0.Learn, .bool a0.Forward, .bool a0.Agree, .bool a0.Ack, .int .i64 a0.Role, .int .u64 a0.Root, .int .i64 a0.Cost, .int .u64 a0.Bridge, .int .i64 a0.Port, .int .i64 a0.Age, .int .i64 a0.MaxAge, .int .i64 a0.Hello, .int .i64 a0.Delay] 41 (0, 0))]) (fun _ => []) (fun _ => by kernel_rfl) (fun _ => ?_)
          exact WP.sub [1, 2, 3, 5, 6] (by kernel_rfl) (WP.pick [0] (by kernel_rfl) (by kernel_rfl) (K2 ((⟨#[2, 2]⟩ : ByteArray), (⟨#[0]⟩ : ByteArray)) hM))
        · replace hM := cond_f hM c6
          refine WP.skip ?_
          exact WP.sub [1, 2, 3, 5, 6] (by kernel_rfl) (WP.pick [0] (by kernel_rfl) (by kernel_rfl) (K2 ((⟨#[0, 0]⟩ : ByteArray), (⟨#[]⟩ : ByteArray)) hM))

end Go.Proofs.YtefbjefmclhhjaaDoor

namespace Go.Proofs.YtefbjefmclhhjaaDoor
open Go Eng
set_option linter.unusedVariables false
set_option linter.unusedSimpArgs false

/-! ### gangway/addrs.Group: function 49 -/
def addrs_Group.f (a0 : Int) : Option (Bool) :=
  some ((bAnd .u64 a0 1099511627776) != 0)

set_option maxRecDepth 100000 in
theorem addrs_Group_calls (a0 : Int) (r : Bool) (h : addrs_Group.f a0 = some r) : Pure Tryd.prog Glob 49 #[.int .u64 a0] (.bool r) := by
  intro w Z hS
  refine calls_of (args := [.int .u64 a0]) (L := [(0, .int .u64 a0)]) (N := 6) (S := Sat w Z [] [] Glob) Tryd.func49 rfl rfl (Nat.le_of_ble_eq_true rfl) rfl hS ?_
  have hM := h
  clear h hS
  unfold addrs_Group.f at hM
  refine WP.seq ?_
  refine WP.run [] [0, 2] (fun _ => [(0, .int .u64 a0), (2, .bool false)]) (fun _ => []) (fun _ => []) (fun _ => by kernel_rfl) (fun _ => ?_)
  refine WP.seq ?_
  refine WP.run [] [2] (fun _ => [(2, .bool ((bAnd .u64 a0 1099511627776) != 0))]) (fun _ => []) (fun _ => []) (fun _ => by kernel_rfl) (fun _ => ?_)
  obtain rfl := Option.some.inj hM
  exact WP.ret [] [] (.bool ((bAnd .u64 a0 1099511627776) != 0)) (by kernel_rfl) (fun w' hw => ⟨rfl, hw.pick [] rfl⟩)

end Go.Proofs.YtefbjefmclhhjaaDoor

namespace Go.Proofs.YtefbjefmclhhjaaDoor
open Go Eng
set_option linter.unusedVariables false
set_option linter.unusedSimpArgs false

/-! ### gangway/addrs.Own: function 35 -/
def addrs_Own.k1 (x4 : Bool) : Option (Bool) :=
  some x4

def addrs_Own.f (a0 : Int) : Option (Bool) :=
  bif ((a0 != 0) && (decide (a0 < 281474976710656))) then
    (addrs_Group.f a0).bind fun r2 =>
    addrs_Own.k1 (!r2)
  else
    addrs_Own.k1 false

set_option maxRecDepth 100000 in
theorem addrs_Own_calls (a0 : Int) (r : Bool) (h : addrs_Own.f a0 = some r) : Pure Tryd.prog Glob 35 #[.int .u64 a0] (.bool r) := by
  intro w Z hS
  refine calls_of (args := [.int .u64 a0]) (L := [(0, .int .u64 a0)]) (N := 14) (S := Sat w Z [] [] Glob) Tryd.func35 rfl rfl (Nat.le_of_ble_eq_true rfl) rfl hS ?_
  have hM := h
  clear h hS
  unfold addrs_Own.f at hM
  refine WP.seq ?_
  refine WP.run [] [0, 2] (fun _ => [(0, .int .u64 a0), (2, .bool false)]) (fun _ => []) (fun _ => []) (fun _ => by kernel_rfl) (fun _ => ?_)
  refine WP.seq ?_
  refine WP.region ?_
  refine WL.run 3 [] [0, 2, 5] (fun _ => [(0, .int .u64 a0), (2, .bool false), (5, .bool (a0 != 0))]) (fun _ => []) (fun _ => []) (fun _ => by kernel_rfl) (fun _ => ?_)
  refine WL.sub [0, 2, 5] (L' := [(0, .int .u64 a0), (2, .bool false), (5, .bool (a0 != 0))]) (by kernel_rfl) ?_
  refine WL.both (fun b' => [(0, .int .u64 a0), (2, .bool false), (5, .bool b')]) (a0 != 0) 3 [] [] [0, 2, 8] (fun b' => [(0, .int .u64 a0), (2, .bool false), (8, .bool (b' && (decide (a0 < 281474976710656))))]) [] [] (fun _ => by kernel_rfl) (fun _ => by kernel_rfl) ?_
  refine WL.run 1 [] [0, 2, 9] (fun _ => [(0, .int .u64 a0), (2, .bool false), (9, .bool ((a0 != 0) && (decide (a0 < 281474976710656))))]) (fun _ => []) (fun _ => []) (fun _ => by kernel_rfl) (fun _ => ?_)
  refine WL.sub [0, 2, 9] (L' := [(0, .int .u64 a0), (2, .bool false), (9, .bool ((a0 != 0) && (decide (a0 < 281474976710656))))]) (by kernel_rfl) ?_
  refine WL.join (σ := Bool) 4 (fun st => addrs_Own.k1 st = some r) (fun st => [(2, .bool false), (13, .bool st)]) (fun st => Sat w Z [] [] Glob) (fun st hM => ?_) (fun K1 => ?_)
  ·
    obtain ⟨x4, rfl⟩ : ∃ y, y = st := ⟨st, rfl⟩
    replace hM : addrs_Own.k1 x4 = some r := hM
    unfold addrs_Own.k1 at hM
    show WL _ _ _ _ _ [(2, .bool false), (13, .bool x4)] (Sat w Z [] [] Glob)
    refine WL.run 1 [] [2] (fun _ => [(2, .bool x4)]) (fun _ => []) (fun _ => []) (fun _ => by kernel_rfl) (fun _ => ?_)
    refine WP.done ?_
    obtain rfl := Option.some.inj hM
    exact WP.ret [] [] (.bool x4) (by kernel_rfl) (fun w' hw => ⟨rfl, hw.pick [] rfl⟩)
  ·
    refine WL.split (fun b' => [(0, .int .u64 a0), (2, .bool false), (9, .bool b')]) ((a0 != 0) && (decide (a0 < 281474976710656))) (fun c1 => ?_) (fun c1 => ?_)
    · replace hM := cond_t hM c1
      refine WL.run 1 [] [2, 9, 10] (fun _ => [(2, .bool false), (9, .bool true), (10, .int .u64 a0)]) (fun _ => []) (fun _ => []) (fun _ => by kernel_rfl) (fun _ => ?_)
      obtain ⟨r2, h3, hM⟩ := bind_some hM
      refine WL.callP [] [] (addrs_Group_calls a0 _ h3) (fun _ h => h) (by kernel_rfl) (by kernel_rfl) rfl ?_
      refine WL.run 2 [] [2, 13] (fun _ => [(2, .bool false), (13, .bool (!r2))]) (fun _ => []) (fun _ => []) (fun _ => by kernel_rfl) (fun _ => ?_)
      exact WL.sub [2, 13] (by kernel_rfl) (WL.pick [] (by kernel_rfl) (by kernel_rfl) (K1 (!r2) hM))
    · replace hM := cond_f hM c1
      refine WL.run 4 [] [2, 13] (fun _ => [(2, .bool false), (13, .bool false)]) (fun _ => []) (fun _ => []) (fun _ => by kernel_rfl) (fun _ => ?_)
      exact WL.sub [2, 13] (by kernel_rfl) (WL.pick [] (by kernel_rfl) (by kernel_rfl) (K1 false hM))

end Go.Proofs.YtefbjefmclhhjaaDoor

namespace Go.Proofs.YtefbjefmclhhjaaDoor
open Go Eng
set_option linter.unusedVariables false
set_option linter.unusedSimpArgs false

/-! ### gangway/bpdu.Frame: function 18 -/
def bpdu_Frame.k1 (a0 : Int) (r2 : ByteArray) (x8 : Bool) : Option (api_Frame × Int) :=
  bif x8 then
    some ((api_Frame.mk 0 0 (api_Tag.mk false 0 false 0) 0 (⟨#[]⟩ : ByteArray)), 91)
  else
    some ((api_Frame.mk 1652522221568 a0 (api_Tag.mk false 0 false 0) 0 r2), 0)

def bpdu_Frame.f (k : Nat) (a0 : Int) (a1 : api_Bpdu) : Option (api_Frame × Int) :=
  (bpdu_Build.f k a1).bind fun (r2, r3) =>
  bif (r3 != 0) then
    bpdu_Frame.k1 a0 r2 true
  else
    (addrs_Own.f a0).bind fun r6 =>
    bpdu_Frame.k1 a0 r2 (!r6)

set_option maxRecDepth 100000 in
theorem bpdu_Frame_calls (k : Nat) (a0 : Int) (a1 : api_Bpdu) (r : api_Frame × Int) (h : bpdu_Frame.f k a0 a1 = some r) : Pure Tryd.prog Glob 18 #[.int .u64 a0, .agg #[.int .i64 a1.Kind, .bool a1.Change, .bool a1.Propose, .bool a1.Learn, .bool a1.Forward, .bool a1.Agree, .bool a1.Ack, .int .i64 a1.Role, .int .u64 a1.Root, .int .i64 a1.Cost, .int .u64 a1.Bridge, .int .i64 a1.Port, .int .i64 a1.Age, .int .i64 a1.MaxAge, .int .i64 a1.Hello, .int .i64 a1.Delay]] (.tuple #[.agg #[.int .u64 r.1.Dst, .int .u64 r.1.Src, .bool r.1.Tag.Has, .int .i64 r.1.Tag.Pri, .bool r.1.Tag.Dei, .int .i64 r.1.Tag.Vid, .int .i64 r.1.Type_, .string r.1.Body], .int .i64 r.2]) := by
  intro w Z hS
  refine calls_of (args := [.int .u64 a0, .agg #[.int .i64 a1.Kind, .bool a1.Change, .bool a1.Propose, .bool a1.Learn, .bool a1.Forward, .bool a1.Agree, .bool a1.Ack, .int .i64 a1.Role, .int .u64 a1.Root, .int .i64 a1.Cost, .int .u64 a1.Bridge, .int .i64 a1.Port, .int .i64 a1.Age, .int .i64 a1.MaxAge, .int .i64 a1.Hello, .int .i64 a1.Delay]]) (L := [(0, .int .u64 a0), (1, .agg #[.int .i64 a1.Kind, .bool a1.Change, .bool a1.Propose, .bool a1.Learn, .bool a1.Forward, .bool a1.Agree, .bool a1.Ack, .int .i64 a1.Role, .int .u64 a1.Root, .int .i64 a1.Cost, .int .u64 a1.Bridge, .int .i64 a1.Port, .int .i64 a1.Age, .int .i64 a1.MaxAge, .int .i64 a1.Hello, .int .i64 a1.Delay])]) (N := 24) (S := Sat w Z [] [] Glob) Tryd.func18 rfl rfl (Nat.le_of_ble_eq_true rfl) rfl hS ?_
  have hM := h
  clear h hS
  unfold bpdu_Frame.f at hM
  refine WP.seq ?_
  refine WP.run [] [0, 3, 4, 5] (fun b1 => [(0, .int .u64 a0), (3, .pointer (some ⟨b1, 0, none⟩)), (4, .pointer (some ⟨(b1 + 1), 0, none⟩)), (5, .int .i64 0)]) (fun b1 => [(b1, .cells #[.int .i64 a1.Kind, .bool a1.Change, .bool a1.Propose, .bool a1.Learn, .bool a1.Forward, .bool a1.Agree, .bool a1.Ack, .int .i64 a1.Role, .int .u64 a1.Root, .int .i64 a1.Cost, .int .u64 a1.Bridge, .int .i64 a1.Port, .int .i64 a1.Age, .int .i64 a1.MaxAge, .int .i64 a1.Hello, .int .i64 a1.Delay] 41 (0, 0)), ((b1 + 1), .cells #[.int .u64 0, .int .u64 0, .bool false, .int .i64 0, .bool false, .int .i64 0, .int .i64 0, .string (⟨#[]⟩ : ByteArray)] 26 (0, 0))]) (fun b1 => []) (fun b1 => by kernel_rfl) (fun b1 => ?_)
  refine WP.seq ?_
  refine WP.region ?_
  refine WL.run 1 [0, 0, 0, 0, 0, 0, 0, 0, 0, 0, 0, 0, 0, 0, 0, 0] [0, 4, 5, 9] (fun _ => [(0, .int .u64 a0), (4, .pointer (some ⟨(b1 + 1), 0, none⟩)), (5, .int .i64 0), (9, .agg #[.int .i64 a1.Kind, .bool a1.Change, .bool a1.Propose, .bool a1.Learn, .bool a1.Forward, .bool a1.Agree, .bool a1.Ack, .int .i64 a1.Role, .int .u64 a1.Root, .int .i64 a1.Cost, .int .u64 a1.Bridge, .int .i64 a1.Port, .int .i64 a1.Age, .int .i64 a1.MaxAge, .int .i64 a1.Hello, .int .i64 a1.Delay])]) (fun _ => [(b1, .cells #[.int .i64 a1.Kind, .bool a1.Change, .bool a1.Propose, .bool a1.Learn, .bool a1.Forward, .bool a1.Agree, .bool a1.Ack, .int .i64 a1.Role, .int .u64 a1.Root, .int .i64 a1.Cost, .int .u64 a1.Bridge, .int .i64 a1.Port, .int .i64 a1.Age, .int .i64 a1.MaxAge, .int .i64 a1.Hello, .int .i64 a1.Delay] 41 (0, 0)), ((b1 + 1), .cells #[.int .u64 0, .int .u64 0, .bool false, .int .i64 0, .bool false, .int .i64 0, .int .i64 0, .string (⟨#[]⟩ : ByteArray)] 26 (0, 0))]) (fun _ => [b1, b1, b1, b1, b1, b1, b1, b1, b1, b1, b1, b1, b1, b1, b1, b1]) (fun _ => by kernel_rfl) (fun _ => ?_)
  obtain ⟨⟨r2, r3⟩, h4, hM⟩ := bind_some hM
  dsimp only at hM
  refine WL.callP [] [] (bpdu_Build_calls k a1 _ h4) (fun _ h => h) (by kernel_rfl) (by kernel_rfl) rfl ?_
  refine WL.run 5 [] [0, 4, 5, 6, 7] (fun _ => [(0, .int .u64 a0), (4, .pointer (some ⟨(b1 + 1), 0, none⟩)), (5, .int .i64 0), (6, .string r2), (7, .int .i64 r3)]) (fun _ => [(b1, .cells #[.int .i64 a1.Kind, .bool a1.Change, .bool a1.Propose, .bool a1.Learn, .bool a1.Forward, .bool a1.Agree, .bool a1.Ack, .int .i64 a1.Role, .int .u64 a1.Root, .int .i64 a1.Cost, .int .u64 a1.Bridge, .int .i64 a1.Port, .int .i64 a1.Age, .int .i64 a1.MaxAge, .int .i64 a1.Hello, .int .i64 a1.Delay] 41 (0, 0)), ((b1 + 1), .cells #[.int .u64 0, .int .u64 0, .bool false, .int .i64 0, .bool false, .int .i64 0, .int .i64 0, .string (⟨#[]⟩ : ByteArray)] 26 (0, 0))]) (fun _ => []) (fun _ => by kernel_rfl) (fun _ => ?_)
  refine WP.done ?_
  refine WP.keep [false, true] (by kernel_rfl : _ = [((b1 + 1), .cells #[.int .u64 0, .int .u64 0, .bool false, .int .i64 0, .bool false, .int .i64 0, .int .i64 0, .string (⟨#[]⟩ : ByteArray)] 26 (0, 0))]) ?_
  refine WP.seq ?_
  refine WP.seq ?_
  refine WP.region ?_
  refine WL.run 3 [] [0, 4, 5, 6, 15] (fun _ => [(0, .int .u64 a0), (4, .pointer (some ⟨(b1 + 1), 0, none⟩)), (5, .int .i64 0), (6, .string r2), (15, .bool (r3 != 0))]) (fun _ => [((b1 + 1), .cells #[.int .u64 0, .int .u64 0, .bool false, .int .i64 0, .bool false, .int .i64 0, .int .i64 0, .string (⟨#[]⟩ : ByteArray)] 26 (0, 0))]) (fun _ => []) (fun _ => by kernel_rfl) (fun _ => ?_)
  refine WL.sub [0, 4, 5, 6, 15] (L' := [(0, .int .u64 a0), (4, .pointer (some ⟨(b1 + 1), 0, none⟩)), (5, .int .i64 0), (6, .string r2), (15, .bool (r3 != 0))]) (by kernel_rfl) ?_
  refine WL.join (σ := Bool) 4 (fun st => bpdu_Frame.k1 a0 r2 st = some r) (fun st => [(0, .int .u64 a0), (4, .pointer (some ⟨(b1 + 1), 0, none⟩)), (5, .int .i64 0), (6, .string r2), (19, .bool st)]) (fun st => Sat w Z [((b1 + 1), .cells #[.int .u64 0, .int .u64 0, .bool false, .int .i64 0, .bool false, .int .i64 0, .int .i64 0, .string (⟨#[]⟩ : ByteArray)] 26 (0, 0))] [] Glob) (fun st hM => ?_) (fun K1 => ?_)
  ·
    obtain ⟨x8, rfl⟩ : ∃ y, y = st := ⟨st, rfl⟩
    replace hM : bpdu_Frame.k1 a0 r2 x8 = some r := hM
    unfold bpdu_Frame.k1 at hM
    show WL _ _ _ _ _ [(0, .int .u64 a0), (4, .pointer (some ⟨(b1 + 1), 0, none⟩)), (5, .int .i64 0), (6, .string r2), (19, .bool x8)] (Sat w Z [((b1 + 1), .cells #[.int .u64 0, .int .u64 0, .bool false, .int .i64 0, .bool false, .int .i64 0, .int .i64 0, .string (⟨#[]⟩ : ByteArray)] 26 (0, 0))] [] Glob)
    refine WP.done ?_
    refine WP.cond x8 rfl rfl (fun c9 => ?_) (fun c9 => ?_)
    · replace hM := cond_t hM c9
      refine WP.seq ?_
      refine WP.run [0, 0, 0, 0, 0, 0, 0, 0] [0, 4, 5, 6] (fun _ => [(0, .int .u64 a0), (4, .pointer (some ⟨(b1 + 1), 0, none⟩)), (5, .int .i64 91), (6, .string r2)]) (fun _ => [((b1 + 1), .cells #[.int .u64 0, .int .u64 0, .bool false, .int .i64 0, .bool false, .int .i64 0, .int .i64 0, .string (⟨#[]⟩ : ByteArray)] 26 (0, 0))]) (fun _ => [(b1 + 1), (b1 + 1), (b1 + 1), (b1 + 1), (b1 + 1), (b1 + 1), (b1 + 1), (b1 + 1)]) (fun _ => by kernel_rfl) (fun _ => ?_)
      obtain rfl := Option.some.inj hM
      exact WP.ret [0, 0, 0, 0, 0, 0, 0, 0] [(b1 + 1), (b1 + 1), (b1 + 1), (b1 + 1), (b1 + 1), (b1 + 1), (b1 + 1), (b1 + 1)] (.tuple #[.agg #[.int .u64 0, .int .u64 0, .bool false, .int .i64 0, .bool false, .int .i64 0, .int .i64 0, .string (⟨#[]⟩ : ByteArray)], .int .i64 91]) (by kernel_rfl) (fun w' hw => ⟨rfl, hw.pick [] rfl⟩)
    · replace hM := cond_f hM c9
      refine WP.skip ?_
      refine WP.seq ?_
      refine WP.run [0, 0, 0, 0, 0, 0, 0, 0] [4, 5] (fun _ => [(4, .pointer (some ⟨(b1 + 1), 0, none⟩)), (5, .int .i64 0)]) (fun _ => [((b1 + 1), .cells #[.int .u64 1652522221568, .int .u64 a0, .bool false, .int .i64 0, .bool false, .int .i64 0, .int .i64 0, .string r2] 26 (0, 0))]) (fun _ => [(b1 + 1), (b1 + 1), (b1 + 1), (b1 + 1), (b1 + 1), (b1 + 1), (b1 + 1), (b1 + 1)]) (fun _ => by kernel_rfl) (fun _ => ?_)
      obtain rfl := Option.some.inj hM
      exact WP.ret [0, 0, 0, 0, 0, 0, 0, 0] [(b1 + 1), (b1 + 1), (b1 + 1), (b1 + 1), (b1 + 1), (b1 + 1), (b1 + 1), (b1 + 1)] (.tuple #[.agg #[.int .u64 1652522221568, .int .u64 a0, .bool false, .int .i64 0, .bool false, .int .i64 0, .int .i64 0, .string r2], .int .i64 0]) (by kernel_rfl) (fun w' hw => ⟨rfl, hw.pick [] rfl⟩)
  ·
    refine WL.split (fun b' => [(0, .int .u64 a0), (4, .pointer (some ⟨(b1 + 1), 0, none⟩)), (5, .int .i64 0), (6, .string r2), (15, .bool b')]) (r3 != 0) (fun c5 => ?_) (fun c5 => ?_)
    · replace hM := cond_t hM c5
      refine WL.run 4 [] [0, 4, 5, 6, 19] (fun _ => [(0, .int .u64 a0), (4, .pointer (some ⟨(b1 + 1), 0, none⟩)), (5, .int .i64 0), (6, .string r2), (19, .bool true)]) (fun _ => [((b1 + 1), .cells #[.int .u64 0, .int .u64 0, .bool false, .int .i64 0, .bool false, .int .i64 0, .int .i64 0, .string (⟨#[]⟩ : ByteArray)] 26 (0, 0))]) (fun _ => []) (fun _ => by kernel_rfl) (fun _ => ?_)
      exact WL.sub [0, 4, 5, 6, 19] (by kernel_rfl) (WL.pick [0] (by kernel_rfl) (by kernel_rfl) (K1 true hM))
    · replace hM := cond_f hM c5
      refine WL.run 1 [] [0, 4, 5, 6, 15, 16] (fun _ => [(0, .int .u64 a0), (4, .pointer (some ⟨(b1 + 1), 0, none⟩)), (5, .int .i64 0), (6, .string r2), (15, .bool false), (16, .int .u64 a0)]) (fun _ => [((b1 + 1), .cells #[.int .u64 0, .int .u64 0, .bool false, .int .i64 0, .bool false, .int .i64 0, .int .i64 0, .string (⟨#[]⟩ : ByteArray)] 26 (0, 0))]) (fun _ => []) (fun _ => by kernel_rfl) (fun _ => ?_)
      obtain ⟨r6, h7, hM⟩ := bind_some hM
      refine WL.callP [] [] (addrs_Own_calls a0 _ h7) (fun _ h => h) (by kernel_rfl) (by kernel_rfl) rfl ?_
      refine WL.run 2 [] [0, 4, 5, 6, 19] (fun _ => [(0, .int .u64 a0), (4, .pointer (some ⟨(b1 + 1), 0, none⟩)), (5, .int .i64 0), (6, .string r2), (19, .bool (!r6))]) (fun _ => [((b1 + 1), .cells #[.int .u64 0, .int .u64 0, .bool false, .int .i64 0, .bool false, .int .i64 0, .int .i64 0, .string (⟨#[]⟩ : ByteArray)] 26 (0, 0))]) (fun _ => []) (fun _ => by kernel_rfl) (fun _ => ?_)
      exact WL.sub [0, 4, 5, 6, 19] (by kernel_rfl) (WL.pick [0] (by kernel_rfl) (by kernel_rfl) (K1 (!r6) hM))

end Go.Proofs.YtefbjefmclhhjaaDoor

namespace Go.Proofs.YtefbjefmclhhjaaDoor
open Go Eng
set_option linter.unusedVariables false
set_option linter.unusedSimpArgs false

/-! ### gangway/gangwayref02.Group: function 37 -/
def gangwayref02_Group.f (a0 : Int) : Option (Bool) :=
  some ((Int.tmod (u64 (Int.tdiv a0 1099511627776)) 2) == 1)

set_option maxRecDepth 100000 in
theorem gangwayref02_Group_calls (a0 : Int) (r : Bool) (h : gangwayref02_Group.f a0 = some r) : Pure Tryd.prog Glob 37 #[.int .u64 a0] (.bool r) := by
  intro w Z hS
  refine calls_of (args := [.int .u64 a0]) (L := [(0, .int .u64 a0)]) (N := 7) (S := Sat w Z [] [] Glob) Tryd.func37 rfl rfl (Nat.le_of_ble_eq_true rfl) rfl hS ?_
  have hM := h
  clear h hS
  unfold gangwayref02_Group.f at hM
  refine WP.seq ?_
  refine WP.run [] [0, 2] (fun _ => [(0, .int .u64 a0), (2, .bool false)]) (fun _ => []) (fun _ => []) (fun _ => by kernel_rfl) (fun _ => ?_)
  refine WP.seq ?_
  refine WP.run [] [2] (fun _ => [(2, .bool ((Int.tmod (u64 (Int.tdiv a0 1099511627776)) 2) == 1))]) (fun _ => []) (fun _ => []) (fun _ => by kernel_rfl) (fun _ => ?_)
  obtain rfl := Option.some.inj hM
  exact WP.ret [] [] (.bool ((Int.tmod (u64 (Int.tdiv a0 1099511627776)) 2) == 1)) (by kernel_rfl) (fun w' hw => ⟨rfl, hw.pick [] rfl⟩)

end Go.Proofs.YtefbjefmclhhjaaDoor

namespace Go.Proofs.YtefbjefmclhhjaaDoor
open Go Eng
set_option linter.unusedVariables false
set_option linter.unusedSimpArgs false

/-! ### gangway/gangwayref02.Own: function 20 -/
def gangwayref02_Own.k1 (x4 : Bool) : Option (Bool) :=
  some x4

def gangwayref02_Own.f (a0 : Int) : Option (Bool) :=
  bif ((decide (a0 > 0)) && (decide (a0 < 281474976710656))) then
    (gangwayref02_Group.f a0).bind fun r2 =>
    gangwayref02_Own.k1 (!r2)
  else
    gangwayref02_Own.k1 false

set_option maxRecDepth 100000 in
theorem gangwayref02_Own_calls (a0 : Int) (r : Bool) (h : gangwayref02_Own.f a0 = some r) : Pure Tryd.prog Glob 20 #[.int .u64 a0] (.bool r) := by
  intro w Z hS
  refine calls_of (args := [.int .u64 a0]) (L := [(0, .int .u64 a0)]) (N := 14) (S := Sat w Z [] [] Glob) Tryd.func20 rfl rfl (Nat.le_of_ble_eq_true rfl) rfl hS ?_
  have hM := h
  clear h hS
  unfold gangwayref02_Own.f at hM
  refine WP.seq ?_
  refine WP.run [] [0, 2] (fun _ => [(0, .int .u64 a0), (2, .bool false)]) (fun _ => []) (fun _ => []) (fun _ => by kernel_rfl) (fun _ => ?_)
  refine WP.seq ?_
  refine WP.region ?_
  refine WL.run 3 [] [0, 2, 5] (fun _ => [(0, .int .u64 a0), (2, .bool false), (5, .bool (decide (a0 > 0)))]) (fun _ => []) (fun _ => []) (fun _ => by kernel_rfl) (fun _ => ?_)
  refine WL.sub [0, 2, 5] (L' := [(0, .int .u64 a0), (2, .bool false), (5, .bool (decide (a0 > 0)))]) (by kernel_rfl) ?_
  refine WL.both (fun b' => [(0, .int .u64 a0), (2, .bool false), (5, .bool b')]) (decide (a0 > 0)) 3 [] [] [0, 2, 8] (fun b' => [(0, .int .u64 a0), (2, .bool false), (8, .bool (b' && (decide (a0 < 281474976710656))))]) [] [] (fun _ => by kernel_rfl) (fun _ => by kernel_rfl) ?_
  refine WL.run 1 [] [0, 2, 9] (fun _ => [(0, .int .u64 a0), (2, .bool false), (9, .bool ((decide (a0 > 0)) && (decide (a0 < 281474976710656))))]) (fun _ => []) (fun _ => []) (fun _ => by kernel_rfl) (fun _ => ?_)
  refine WL.sub [0, 2, 9] (L' := [(0, .int .u64 a0), (2, .bool false), (9, .bool ((decide (a0 > 0)) && (decide (a0 < 281474976710656))))]) (by kernel_rfl) ?_
  refine WL.join (σ := Bool) 4 (fun st => gangwayref02_Own.k1 st = some r) (fun st => [(2, .bool false), (13, .bool st)]) (fun st => Sat w Z [] [] Glob) (fun st hM => ?_) (fun K1 => ?_)
  ·
    obtain ⟨x4, rfl⟩ : ∃ y, y = st := ⟨st, rfl⟩
    replace hM : gangwayref02_Own.k1 x4 = some r := hM
    unfold gangwayref02_Own.k1 at hM
    show WL _ _ _ _ _ [(2, .bool false), (13, .bool x4)] (Sat w Z [] [] Glob)
    refine WL.run 1 [] [2] (fun _ => [(2, .bool x4)]) (fun _ => []) (fun _ => []) (fun _ => by kernel_rfl) (fun _ => ?_)
    refine WP.done ?_
    obtain rfl := Option.some.inj hM
    exact WP.ret [] [] (.bool x4) (by kernel_rfl) (fun w' hw => ⟨rfl, hw.pick [] rfl⟩)
  ·
    refine WL.split (fun b' => [(0, .int .u64 a0), (2, .bool false), (9, .bool b')]) ((decide (a0 > 0)) && (decide (a0 < 281474976710656))) (fun c1 => ?_) (fun c1 => ?_)
    · replace hM := cond_t hM c1
      refine WL.run 1 [] [2, 9, 10] (fun _ => [(2, .bool false), (9, .bool true), (10, .int .u64 a0)]) (fun _ => []) (fun _ => []) (fun _ => by kernel_rfl) (fun _ => ?_)
      obtain ⟨r2, h3, hM⟩ := bind_some hM
      refine WL.callP [] [] (gangwayref02_Group_calls a0 _ h3) (fun _ h => h) (by kernel_rfl) (by kernel_rfl) rfl ?_
      refine WL.run 2 [] [2, 13] (fun _ => [(2, .bool false), (13, .bool (!r2))]) (fun _ => []) (fun _ => []) (fun _ => by kernel_rfl) (fun _ => ?_)
      exact WL.sub [2, 13] (by kernel_rfl) (WL.pick [] (by kernel_rfl) (by kernel_rfl) (K1 (!r2) hM))
    · replace hM := cond_f hM c1
      refine WL.run 4 [] [2, 13] (fun _ => [(2, .bool false), (13, .bool false)]) (fun _ => []) (fun _ => []) (fun _ => by kernel_rfl) (fun _ => ?_)
      exact WL.sub [2, 13] (by kernel_rfl) (WL.pick [] (by kernel_rfl) (by kernel_rfl) (K1 false hM))

end Go.Proofs.YtefbjefmclhhjaaDoor

namespace Go.Proofs.YtefbjefmclhhjaaDoor
open Go Eng
set_option linter.unusedVariables false
set_option linter.unusedSimpArgs false

/-! ### gangway/gangwaylaw09.rapid: function 38 -/
def gangwaylaw09_rapid.f : Option (api_Bpdu) :=
  some (api_Bpdu.mk 2 false true false false false false 3 9223372036854775810 5 9223372036854775814 32769 0 5120 512 3840)

set_option maxRecDepth 100000 in
theorem gangwaylaw09_rapid_calls (r : api_Bpdu) (h : gangwaylaw09_rapid.f = some r) : Pure Tryd.prog Glob 38 #[] (.agg #[.int .i64 r.Kind, .bool r.Change, .bool r.Propose, .bool r.Learn, .bool r.Forward, .bool r.Agree, .bool r.Ack, .int .i64 r.Role, .int .u64 r.Root, .int .i64 r.Cost, .int .u64 r.Bridge, .int .i64 r.Port, .int .i64 r.Age, .int .i64 r.MaxAge, .int .i64 r.Hello, .int .i64 r.Delay]) := by
  intro w Z hS
  refine calls_of (args := []) (L := []) (N := 2) (S := Sat w Z [] [] Glob) Tryd.func38 rfl rfl (Nat.le_of_ble_eq_true rfl) rfl hS ?_
  have hM := h
  clear h hS
  unfold gangwaylaw09_rapid.f at hM
  refine WP.seq ?_
  refine WP.run [] [0] (fun b1 => [(0, .pointer (some ⟨b1, 0, none⟩))]) (fun b1 => [(b1, .cells #[.int .i64 0, .bool false, .bool false, .bool false, .bool false, .bool false, .bool false, .int .i64 0, .int .u64 0, .int .i64 0, .int .u64 0, .int .i64 0, .int .i64 0, .int .i64 0, .int .i64 0, .int .i64 0] 41 (0, 0))]) (fun b1 => []) (fun b1 => by kernel_rfl) (fun b1 => ?_)
  refine WP.seq ?_
  refine WP.run [0, 0, 0, 0, 0, 0, 0, 0, 0, 0, 0, 0, 0, 0, 0, 0] [0] (fun _ => [(0, .pointer (some ⟨b1, 0, none⟩))]) (fun _ => [(b1, .cells #[.int .i64 2, .bool false, .bool true, .bool false, .bool false, .bool false, .bool false, .int .i64 3, .int .u64 9223372036854775810, .int .i64 5, .int .u64 9223372036854775814, .int .i64 32769, .int .i64 0, .int .i64 5120, .int .i64 512, .int .i64 3840] 41 (0, 0))]) (fun _ => [b1, b1, b1, b1, b1, b1, b1, b1, b1, b1, b1, b1, b1, b1, b1, b1]) (fun _ => by kernel_rfl) (fun _ => ?_)
  obtain rfl := Option.some.inj hM
  exact WP.ret [0, 0, 0, 0, 0, 0, 0, 0, 0, 0, 0, 0, 0, 0, 0, 0] [b1, b1, b1, b1, b1, b1, b1, b1, b1, b1, b1, b1, b1, b1, b1, b1] (.agg #[.int .i64 2, .bool false, .bool true, .bool false, .bool false, .bool false, .bool false, .int .i64 3, .int .u64 9223372036854775810, .int .i64 5, .int .u64 9223372036854775814, .int .i64 32769, .int .i64 0, .int .i64 5120, .int .i64 512, .int .i64 3840]) (by kernel_rfl) (fun w' hw => ⟨rfl, hw.pick [] rfl⟩)

end Go.Proofs.YtefbjefmclhhjaaDoor

namespace Go.Proofs.YtefbjefmclhhjaaDoor
open Go Eng
set_option linter.unusedVariables false
set_option linter.unusedSimpArgs false

/-! ### internal/stringslite.HasPrefix: function 59 -/
def stringslite_HasPrefix.k1 (x4 : Bool) : Option (Bool) :=
  some x4

def stringslite_HasPrefix.f (a0 : ByteArray) (a1 : ByteArray) : Option (Bool) :=
  bif decide ((a0.size : Int) ≥ (a1.size : Int)) then
    (sliceS a0 0 (a1.size : Int)).bind fun t2 =>
    stringslite_HasPrefix.k1 (t2.toList == a1.toList)
  else
    stringslite_HasPrefix.k1 false

set_option maxRecDepth 100000 in
theorem stringslite_HasPrefix_calls (a0 : ByteArray) (a1 : ByteArray) (r : Bool) (h : stringslite_HasPrefix.f a0 a1 = some r) : Pure Tryd.prog Glob 59 #[.string a0, .string a1] (.bool r) := by
  intro w Z hS
  refine calls_of (args := [.string a0, .string a1]) (L := [(0, .string a0), (1, .string a1)]) (N := 18) (S := Sat w Z [] [] Glob) Tryd.func59 rfl rfl (Nat.le_of_ble_eq_true rfl) rfl hS ?_
  have hM := h
  clear h hS
  unfold stringslite_HasPrefix.f at hM
  refine WP.seq ?_
  refine WP.run [] [0, 1, 4] (fun _ => [(0, .string a0), (1, .string a1), (4, .bool false)]) (fun _ => []) (fun _ => []) (fun _ => by kernel_rfl) (fun _ => ?_)
  refine WP.seq ?_
  refine WP.region ?_
  refine WL.run 6 [] [0, 1, 4, 10] (fun _ => [(0, .string a0), (1, .string a1), (4, .bool false), (10, .bool (decide ((a0.size : Int) ≥ (a1.size : Int))))]) (fun _ => []) (fun _ => []) (fun _ => by kernel_rfl) (fun _ => ?_)
  refine WL.sub [0, 1, 4, 10] (L' := [(0, .string a0), (1, .string a1), (4, .bool false), (10, .bool (decide ((a0.size : Int) ≥ (a1.size : Int))))]) (by kernel_rfl) ?_
  refine WL.join (σ := Bool) 7 (fun st => stringslite_HasPrefix.k1 st = some r) (fun st => [(4, .bool false), (17, .bool st)]) (fun st => Sat w Z [] [] Glob) (fun st hM => ?_) (fun K1 => ?_)
  ·
    obtain ⟨x4, rfl⟩ : ∃ y, y = st := ⟨st, rfl⟩
    replace hM : stringslite_HasPrefix.k1 x4 = some r := hM
    unfold stringslite_HasPrefix.k1 at hM
    show WL _ _ _ _ _ [(4, .bool false), (17, .bool x4)] (Sat w Z [] [] Glob)
    refine WL.run 1 [] [4] (fun _ => [(4, .bool x4)]) (fun _ => []) (fun _ => []) (fun _ => by kernel_rfl) (fun _ => ?_)
    refine WP.done ?_
    obtain rfl := Option.some.inj hM
    exact WP.ret [] [] (.bool x4) (by kernel_rfl) (fun w' hw => ⟨rfl, hw.pick [] rfl⟩)
  ·
    refine WL.split (fun b' => [(0, .string a0), (1, .string a1), (4, .bool false), (10, .bool b')]) (decide ((a0.size : Int) ≥ (a1.size : Int))) (fun c1 => ?_) (fun c1 => ?_)
    · replace hM := cond_t hM c1
      refine WL.run 3 [] [1, 4, 10, 11, 13] (fun _ => [(1, .string a1), (4, .bool false), (10, .bool true), (11, .string a0), (13, .int .i64 (a1.size : Int))]) (fun _ => []) (fun _ => []) (fun _ => by kernel_rfl) (fun _ => ?_)
      obtain ⟨t2, h3, hM⟩ := bind_some hM
      refine WL.val (fun _ => run_sliceS_hi (s := a0) (kh := .i64) (h := (a1.size : Int)) (by kernel_rfl) (by kernel_rfl) (by kernel_rfl) h3) (by kernel_rfl) (by kernel_rfl) rfl ?_
      refine WL.run 3 [] [4, 17] (fun _ => [(4, .bool false), (17, .bool (t2.toList == a1.toList))]) (fun _ => []) (fun _ => []) (fun _ => by kernel_rfl) (fun _ => ?_)
      exact WL.sub [4, 17] (by kernel_rfl) (WL.pick [] (by kernel_rfl) (by kernel_rfl) (K1 (t2.toList == a1.toList) hM))
    · replace hM := cond_f hM c1
      refine WL.run 7 [] [4, 17] (fun _ => [(4, .bool false), (17, .bool false)]) (fun _ => []) (fun _ => []) (fun _ => by kernel_rfl) (fun _ => ?_)
      exact WL.sub [4, 17] (by kernel_rfl) (WL.pick [] (by kernel_rfl) (by kernel_rfl) (K1 false hM))

end Go.Proofs.YtefbjefmclhhjaaDoor

namespace Go.Proofs.YtefbjefmclhhjaaDoor
open Go Eng
set_option linter.unusedVariables false
set_option linter.unusedSimpArgs false

/-! ### strings.HasPrefix: function 50 -/
def strings_HasPrefix.f (a0 : ByteArray) (a1 : ByteArray) : Option (Bool) :=
  (stringslite_HasPrefix.f a0 a1).bind fun r1 =>
  some r1

set_option maxRecDepth 100000 in
theorem strings_HasPrefix_calls (a0 : ByteArray) (a1 : ByteArray) (r : Bool) (h : strings_HasPrefix.f a0 a1 = some r) : Pure Tryd.prog Glob 50 #[.string a0, .string a1] (.bool r) := by
  intro w Z hS
  refine calls_of (args := [.string a0, .string a1]) (L := [(0, .string a0), (1, .string a1)]) (N := 8) (S := Sat w Z [] [] Glob) Tryd.func50 rfl rfl (Nat.le_of_ble_eq_true rfl) rfl hS ?_
  have hM := h
  clear h hS
  unfold strings_HasPrefix.f at hM
  refine WP.seq ?_
  refine WP.run [] [0, 1, 4] (fun _ => [(0, .string a0), (1, .string a1), (4, .bool false)]) (fun _ => []) (fun _ => []) (fun _ => by kernel_rfl) (fun _ => ?_)
  refine WP.seq ?_
  refine WP.region ?_
  refine WL.run 2 [] [4, 5, 6] (fun _ => [(4, .bool false), (5, .string a0), (6, .string a1)]) (fun _ => []) (fun _ => []) (fun _ => by kernel_rfl) (fun _ => ?_)
  obtain ⟨r1, h2, hM⟩ := bind_some hM
  refine WL.callP [] [] (stringslite_HasPrefix_calls a0 a1 _ h2) (fun _ h => h) (by kernel_rfl) (by kernel_rfl) rfl ?_
  refine WL.run 1 [] [4] (fun _ => [(4, .bool r1)]) (fun _ => []) (fun _ => []) (fun _ => by kernel_rfl) (fun _ => ?_)
  refine WP.done ?_
  obtain rfl := Option.some.inj hM
  exact WP.ret [] [] (.bool r1) (by kernel_rfl) (fun w' hw => ⟨rfl, hw.pick [] rfl⟩)

end Go.Proofs.YtefbjefmclhhjaaDoor

namespace Go.Proofs.YtefbjefmclhhjaaDoor
open Go Eng
set_option linter.unusedVariables false
set_option linter.unusedSimpArgs false

/-! ### gangway/bpdu.told$1: function 60 -/
def bpdu_told_1.f (k : Nat) (a0 : Int) (a1 : ByteArray) (a2 : Int) : Option (Int × Int) :=
  (octets_Get.f k a1 a2 a0).bind fun (r1, r2) =>
  some (r1, i64 (a2 + a0))

set_option maxRecDepth 100000 in
theorem bpdu_told_1_calls (k : Nat) (b_0 : Nat) (b_1 : Nat) (a0 : Int) (a1 : ByteArray) (a2 : Int) (r : Int × Int) (h : bpdu_told_1.f k a0 a1 a2 = some r) : Does Tryd.prog 60 #[.int .i64 a0, .pointer (some ⟨b_0, 0, none⟩), .pointer (some ⟨b_1, 0, none⟩)] [(b_0, .cells #[.string a1] 9 (0, 0)), (b_1, .cells #[.int .i64 a2] 3 (0, 0))] Glob (fun _ : Unit => .int .u64 r.1) (fun _ => [(b_0, .cells #[.string a1] 9 (0, 0)), (b_1, .cells #[.int .i64 r.2] 3 (0, 0))]) (fun _ => []) (fun _ => Glob) := by
  intro w Z hS
  refine calls_of (args := [.int .i64 a0, .pointer (some ⟨b_0, 0, none⟩), .pointer (some ⟨b_1, 0, none⟩)]) (L := [(0, .int .i64 a0), (1, .pointer (some ⟨b_0, 0, none⟩)), (2, .pointer (some ⟨b_1, 0, none⟩))]) (N := 18) (S := Sat w Z [(b_0, .cells #[.string a1] 9 (0, 0)), (b_1, .cells #[.int .i64 a2] 3 (0, 0))] [] Glob) Tryd.func60 rfl rfl (Nat.le_of_ble_eq_true rfl) rfl hS ?_
  have hM := h
  clear h hS
  unfold bpdu_told_1.f at hM
  refine WP.seq ?_
  refine WP.run [] [0, 1, 2, 4] (fun _ => [(0, .int .i64 a0), (1, .pointer (some ⟨b_0, 0, none⟩)), (2, .pointer (some ⟨b_1, 0, none⟩)), (4, .int .u64 0)]) (fun _ => [(b_0, .cells #[.string a1] 9 (0, 0)), (b_1, .cells #[.int .i64 a2] 3 (0, 0))]) (fun _ => []) (fun _ => by kernel_rfl) (fun _ => ?_)
  refine WP.seq ?_
  refine WP.region ?_
  refine WL.run 3 [0, 1] [0, 2, 4, 8, 9, 10] (fun _ => [(0, .int .i64 a0), (2, .pointer (some ⟨b_1, 0, none⟩)), (4, .int .u64 0), (8, .string a1), (9, .int .i64 a2), (10, .int .i64 a0)]) (fun _ => [(b_0, .cells #[.string a1] 9 (0, 0)), (b_1, .cells #[.int .i64 a2] 3 (0, 0))]) (fun _ => [b_1, b_0]) (fun _ => by kernel_rfl) (fun _ => ?_)
  obtain ⟨⟨r1, r2⟩, h3, hM⟩ := bind_some hM
  dsimp only at hM
  refine WL.callP [] [] (octets_Get_calls k a1 a2 a0 _ h3) (fun _ h => h) (by kernel_rfl) (by kernel_rfl) rfl ?_
  refine WL.run 5 [] [0, 2, 4, 5] (fun _ => [(0, .int .i64 a0), (2, .pointer (some ⟨b_1, 0, none⟩)), (4, .int .u64 0), (5, .int .u64 r1)]) (fun _ => [(b_0, .cells #[.string a1] 9 (0, 0)), (b_1, .cells #[.int .i64 a2] 3 (0, 0))]) (fun _ => []) (fun _ => by kernel_rfl) (fun _ => ?_)
  refine WP.done ?_
  refine WP.seq ?_
  refine WP.run [1, 1] [4, 5] (fun _ => [(4, .int .u64 0), (5, .int .u64 r1)]) (fun _ => [(b_0, .cells #[.string a1] 9 (0, 0)), (b_1, .cells #[.int .i64 (i64 (a2 + a0))] 3 (0, 0))]) (fun _ => [b_1, b_1]) (fun _ => by kernel_rfl) (fun _ => ?_)
  refine WP.seq ?_
  refine WP.run [] [4] (fun _ => [(4, .int .u64 r1)]) (fun _ => [(b_0, .cells #[.string a1] 9 (0, 0)), (b_1, .cells #[.int .i64 (i64 (a2 + a0))] 3 (0, 0))]) (fun _ => []) (fun _ => by kernel_rfl) (fun _ => ?_)
  obtain rfl := Option.some.inj hM
  exact WP.ret [] [] (.int .u64 r1) (by kernel_rfl) (fun w' hw => ⟨(), rfl, hw.pick [0, 1] (by kernel_rfl)⟩)

end Go.Proofs.YtefbjefmclhhjaaDoor
