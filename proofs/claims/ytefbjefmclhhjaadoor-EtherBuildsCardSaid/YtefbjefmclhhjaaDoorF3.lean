/- The walks of the functions that the laws reach: each shows that a call returns what its plain model says, wherever the model gives an answer. -/
import Derived.Test.YtefbjefmclhhjaaDoorF2

namespace Go.Proofs.YtefbjefmclhhjaaDoor
open Go Eng
set_option linter.unusedVariables false
set_option linter.unusedSimpArgs false

/-! ### gangway/gangwayref01.Bytes: function 32 -/
def gangwayref01_Bytes.l1 (a1 : Int) : Nat → Int → ByteArray → Int → Option (ByteArray)
  | 0, _, _, _ => none
  | n + 1, x1, x2, x3 =>
    bif decide (x3 < a1) then
      (catS (ByteArray.push ByteArray.empty (UInt8.ofNat (u8 (Int.tmod x1 256)).toNat)) x2).bind fun t6 =>
      gangwayref01_Bytes.l1 a1 n (u64 (Int.tdiv x1 256)) t6 (i64 (x3 + 1))
    else
      some x2

def gangwayref01_Bytes.f (k : Nat) (a0 : Int) (a1 : Int) : Option (ByteArray) :=
  gangwayref01_Bytes.l1 a1 k a0 (⟨#[]⟩ : ByteArray) 0

set_option maxRecDepth 100000 in
theorem gangwayref01_Bytes_calls (k : Nat) (a0 : Int) (a1 : Int) (r : ByteArray) (h : gangwayref01_Bytes.f k a0 a1 = some r) : Pure Tryd.prog Glob 32 #[.int .u64 a0, .int .i64 a1] (.string r) := by
  intro w Z hS
  refine calls_of (args := [.int .u64 a0, .int .i64 a1]) (L := [(0, .int .u64 a0), (1, .int .i64 a1)]) (N := 22) (S := Sat w Z [] [] Glob) Tryd.func32 rfl rfl (Nat.le_of_ble_eq_true rfl) rfl hS ?_
  have hM := h
  clear h hS
  unfold gangwayref01_Bytes.f at hM
  refine WP.seq ?_
  refine WP.run [] [0, 1, 4] (fun _ => [(0, .int .u64 a0), (1, .int .i64 a1), (4, .string (⟨#[]⟩ : ByteArray))]) (fun _ => []) (fun _ => []) (fun _ => by kernel_rfl) (fun _ => ?_)
  refine WP.seq ?_
  refine WP.run [] [0, 1, 4, 5] (fun _ => [(0, .int .u64 a0), (1, .int .i64 a1), (4, .string (⟨#[]⟩ : ByteArray)), (5, .string (⟨#[]⟩ : ByteArray))]) (fun _ => []) (fun _ => []) (fun _ => by kernel_rfl) (fun _ => ?_)
  refine WP.seq ?_
  refine WP.seq ?_
  refine WP.run [] [0, 1, 4, 5, 6] (fun _ => [(0, .int .u64 a0), (1, .int .i64 a1), (4, .string (⟨#[]⟩ : ByteArray)), (5, .string (⟨#[]⟩ : ByteArray)), (6, .int .i64 0)]) (fun _ => []) (fun _ => []) (fun _ => by kernel_rfl) (fun _ => ?_)
  refine WP.block ?_
  refine WP.sub [0, 1, 4, 5, 6] (L' := [(0, .int .u64 a0), (1, .int .i64 a1), (4, .string (⟨#[]⟩ : ByteArray)), (5, .string (⟨#[]⟩ : ByteArray)), (6, .int .i64 0)]) (by kernel_rfl) ?_
  refine WP.loop (σ := Int × ByteArray × Int) (fun n st => gangwayref01_Bytes.l1 a1 n st.1 st.2.1 st.2.2) r (fun st => [(0, .int .u64 st.1), (1, .int .i64 a1), (4, .string (⟨#[]⟩ : ByteArray)), (5, .string st.2.1), (6, .int .i64 st.2.2)]) (fun st => Sat w Z [] [] Glob) (st := (a0, (⟨#[]⟩ : ByteArray), 0)) (fun n st hM => ?_) hM
  rcases n with _ | n
  · exact nomatch (show (none : Option _) = some r from hM)
  obtain ⟨x1, x2, x3⟩ := st
  replace hM : gangwayref01_Bytes.l1 a1 (n + 1) x1 x2 x3 = some r := hM
  rw [gangwayref01_Bytes.l1] at hM
  show WP _ _ _ _ _ [(0, .int .u64 x1), (1, .int .i64 a1), (4, .string (⟨#[]⟩ : ByteArray)), (5, .string x2), (6, .int .i64 x3)] (Sat w Z [] [] Glob)
  refine WP.seq ?_
  refine WP.seq ?_
  refine WP.run [] [0, 1, 4, 5, 6, 7, 8, 9] (fun _ => [(0, .int .u64 x1), (1, .int .i64 a1), (4, .string (⟨#[]⟩ : ByteArray)), (5, .string x2), (6, .int .i64 x3), (7, .int .i64 x3), (8, .int .i64 a1), (9, .bool (decide (x3 < a1)))]) (fun _ => []) (fun _ => []) (fun _ => by kernel_rfl) (fun _ => ?_)
  refine WP.cond (decide (x3 < a1)) rfl rfl (fun c4 => ?_) (fun c4 => ?_)
  · replace hM := cond_t hM c4
    refine WP.skip ?_
    refine WP.seq ?_
    refine WP.block ?_
    refine WP.seq ?_
    refine WP.region ?_
    refine WL.run 6 [0] [0, 1, 4, 5, 6, 7, 8, 9, 12, 13, 14, 15, 16, 17] (fun b5 => [(0, .int .u64 x1), (1, .int .i64 a1), (4, .string (⟨#[]⟩ : ByteArray)), (5, .string x2), (6, .int .i64 x3), (7, .int .i64 x3), (8, .int .i64 a1), (9, .bool (decide (x3 < a1))), (12, .int .u64 x1), (13, .int .u64 (Int.tmod x1 256)), (14, .int .u8 (u8 (Int.tmod x1 256))), (15, .slice (some ⟨b5, 0, none⟩) 1 1), (16, .string (ByteArray.push ByteArray.empty (UInt8.ofNat (u8 (Int.tmod x1 256)).toNat))), (17, .string x2)]) (fun b5 => [(b5, .cells #[.int .u8 (u8 (Int.tmod x1 256))] 5 (0, 0))]) (fun b5 => [b5]) (fun b5 => by kernel_rfl) (fun b5 => ?_)
    obtain ⟨t6, h7, hM⟩ := bind_some hM
    refine WL.val (fun _ => run_catS (a := (ByteArray.push ByteArray.empty (UInt8.ofNat (u8 (Int.tmod x1 256)).toNat))) (b := x2) (by kernel_rfl) (by kernel_rfl) h7) (by kernel_rfl) (by kernel_rfl) rfl ?_
    refine WL.run 1 [] [0, 1, 4, 5, 6, 7, 8, 9, 12, 13, 14, 15, 16, 17, 18] (fun _ => [(0, .int .u64 x1), (1, .int .i64 a1), (4, .string (⟨#[]⟩ : ByteArray)), (5, .string t6), (6, .int .i64 x3), (7, .int .i64 x3), (8, .int .i64 a1), (9, .bool (decide (x3 < a1))), (12, .int .u64 x1), (13, .int .u64 (Int.tmod x1 256)), (14, .int .u8 (u8 (Int.tmod x1 256))), (15, .slice (some ⟨b5, 0, none⟩) 1 1), (16, .string (ByteArray.push ByteArray.empty (UInt8.ofNat (u8 (Int.tmod x1 256)).toNat))), (17, .string x2), (18, .string t6)]) (fun _ => [(b5, .cells #[.int .u8 (u8 (Int.tmod x1 256))] 5 (0, 0))]) (fun _ => []) (fun _ => by kernel_rfl) (fun _ => ?_)
    refine WP.done ?_
    refine WP.run [] [0, 1, 4, 5, 6, 7, 8, 9, 12, 13, 14, 15, 16, 17, 18, 19, 20] (fun _ => [(0, .int .u64 (u64 (Int.tdiv x1 256))), (1, .int .i64 a1), (4, .string (⟨#[]⟩ : ByteArray)), (5, .string t6), (6, .int .i64 x3), (7, .int .i64 x3), (8, .int .i64 a1), (9, .bool (decide (x3 < a1))), (12, .int .u64 x1), (13, .int .u64 (Int.tmod x1 256)), (14, .int .u8 (u8 (Int.tmod x1 256))), (15, .slice (some ⟨b5, 0, none⟩) 1 1), (16, .string (ByteArray.push ByteArray.empty (UInt8.ofNat (u8 (Int.tmod x1 256)).toNat))), (17, .string x2), (18, .string t6), (19, .int .u64 x1), (20, .int .u64 (u64 (Int.tdiv x1 256)))]) (fun _ => [(b5, .cells #[.int .u8 (u8 (Int.tmod x1 256))] 5 (0, 0))]) (fun _ => []) (fun _ => by kernel_rfl) (fun _ => ?_)
    refine WP.leave ?_
    refine WP.run [] [0, 1, 4, 5, 6, 7, 8, 9, 10, 11, 12, 13, 14, 15, 16, 17, 18, 19, 20] (fun _ => [(0, .int .u64 (u64 (Int.tdiv x1 256))), (1, .int .i64 a1), (4, .string (⟨#[]⟩ : ByteArray)), (5, .string t6), (6, .int .i64 (i64 (x3 + 1))), (7, .int .i64 x3), (8, .int .i64 a1), (9, .bool (decide (x3 < a1))), (10, .int .i64 x3), (11, .int .i64 (i64 (x3 + 1))), (12, .int .u64 x1), (13, .int .u64 (Int.tmod x1 256)), (14, .int .u8 (u8 (Int.tmod x1 256))), (15, .slice (some ⟨b5, 0, none⟩) 1 1), (16, .string (ByteArray.push ByteArray.empty (UInt8.ofNat (u8 (Int.tmod x1 256)).toNat))), (17, .string x2), (18, .string t6), (19, .int .u64 x1), (20, .int .u64 (u64 (Int.tdiv x1 256)))]) (fun _ => [(b5, .cells #[.int .u8 (u8 (Int.tmod x1 256))] 5 (0, 0))]) (fun _ => []) (fun _ => by kernel_rfl) (fun _ => ?_)
    exact WP.again' [0, 1, 4, 5, 6] (u64 (Int.tdiv x1 256), t6, i64 (x3 + 1)) hM (by kernel_rfl) (fun _ h => h.pick [] (by kernel_rfl))
  · replace hM := cond_f hM c4
    refine WP.exit rfl ?_
    refine WP.seq ?_
    refine WP.run [] [4] (fun _ => [(4, .string x2)]) (fun _ => []) (fun _ => []) (fun _ => by kernel_rfl) (fun _ => ?_)
    obtain rfl := Option.some.inj hM
    exact WP.ret [] [] (.string x2) (by kernel_rfl) (fun w' hw => ⟨rfl, hw.pick [] rfl⟩)

end Go.Proofs.YtefbjefmclhhjaaDoor

namespace Go.Proofs.YtefbjefmclhhjaaDoor
open Go Eng
set_option linter.unusedVariables false
set_option linter.unusedSimpArgs false

/-! ### gangway/gangwayref04.Build: function 14 -/
def gangwayref04_Build.k2 (k : Nat) (x20 : ByteArray) (a0 : api_Frame) (x22 : Int) : Option (ByteArray × Int) :=
  (gangwayref01_Bytes.f k (u64 x22) 2).bind fun r23 =>
  (catS x20 r23).bind fun t25 =>
  (catS t25 a0.Body).bind fun t27 =>
  some (t27, 0)

def gangwayref04_Build.k3 (a0 : api_Frame) (k : Nat) (x20 : ByteArray) : Option (ByteArray × Int) :=
  bif (a0.Type_ == 0) then
    gangwayref04_Build.k2 k x20 a0 (a0.Body.size : Int)
  else
    gangwayref04_Build.k2 k x20 a0 a0.Type_

def gangwayref04_Build.k1 (k : Nat) (t9 : ByteArray) (a0 : api_Frame) (x13 : Int) : Option (ByteArray × Int) :=
  (gangwayref01_Bytes.f k (u64 x13) 2).bind fun r14 =>
  (catS (⟨#[129, 0]⟩ : ByteArray) r14).bind fun t16 =>
  (catS t9 t16).bind fun t18 =>
  gangwayref04_Build.k3 a0 k t18

def gangwayref04_Build.f (k : Nat) (a0 : api_Frame) : Option (ByteArray × Int) :=
  (gangwayref04_Check.f a0).bind fun r2 =>
  bif (r2 != 0) then
    some ((⟨#[]⟩ : ByteArray), r2)
  else
    (gangwayref01_Bytes.f k a0.Dst 6).bind fun r5 =>
    (gangwayref01_Bytes.f k a0.Src 6).bind fun r7 =>
    (catS r5 r7).bind fun t9 =>
    bif a0.Tag.Has then
      bif a0.Tag.Dei then
        gangwayref04_Build.k1 k t9 a0 (i64 ((i64 ((i64 (a0.Tag.Pri * 8192)) + a0.Tag.Vid)) + 4096))
      else
        gangwayref04_Build.k1 k t9 a0 (i64 ((i64 (a0.Tag.Pri * 8192)) + a0.Tag.Vid))
    else
      gangwayref04_Build.k3 a0 k t9

set_option maxRecDepth 100000 in
theorem gangwayref04_Build_calls (k : Nat) (a0 : api_Frame) (r : ByteArray × Int) (h : gangwayref04_Build.f k a0 = some r) : Pure Tryd.prog Glob 14 #[.agg #[.int .u64 a0.Dst, .int .u64 a0.Src, .bool a0.Tag.Has, .int .i64 a0.Tag.Pri, .bool a0.Tag.Dei, .int .i64 a0.Tag.Vid, .int .i64 a0.Type_, .string a0.Body]] (.tuple #[.string r.1, .int .i64 r.2]) := by
  intro w Z hS
  refine calls_of (args := [.agg #[.int .u64 a0.Dst, .int .u64 a0.Src, .bool a0.Tag.Has, .int .i64 a0.Tag.Pri, .bool a0.Tag.Dei, .int .i64 a0.Tag.Vid, .int .i64 a0.Type_, .string a0.Body]]) (L := [(0, .agg #[.int .u64 a0.Dst, .int .u64 a0.Src, .bool a0.Tag.Has, .int .i64 a0.Tag.Pri, .bool a0.Tag.Dei, .int .i64 a0.Tag.Vid, .int .i64 a0.Type_, .string a0.Body])]) (N := 57) (S := Sat w Z [] [] Glob) Tryd.func14 rfl rfl (Nat.le_of_ble_eq_true rfl) rfl hS ?_
  have hM := h
  clear h hS
  unfold gangwayref04_Build.f at hM
  refine WP.seq ?_
  refine WP.run [] [1, 2, 3] (fun b1 => [(1, .pointer (some ⟨b1, 0, none⟩)), (2, .string (⟨#[]⟩ : ByteArray)), (3, .int .i64 0)]) (fun b1 => [(b1, .cells #[.int .u64 a0.Dst, .int .u64 a0.Src, .bool a0.Tag.Has, .int .i64 a0.Tag.Pri, .bool a0.Tag.Dei, .int .i64 a0.Tag.Vid, .int .i64 a0.Type_, .string a0.Body] 26 (0, 0))]) (fun b1 => []) (fun b1 => by kernel_rfl) (fun b1 => ?_)
  refine WP.seq ?_
  refine WP.region ?_
  refine WL.run 1 [0, 0, 0, 0, 0, 0, 0, 0] [1, 2, 3, 8] (fun _ => [(1, .pointer (some ⟨b1, 0, none⟩)), (2, .string (⟨#[]⟩ : ByteArray)), (3, .int .i64 0), (8, .agg #[.int .u64 a0.Dst, .int .u64 a0.Src, .bool a0.Tag.Has, .int .i64 a0.Tag.Pri, .bool a0.Tag.Dei, .int .i64 a0.Tag.Vid, .int .i64 a0.Type_, .string a0.Body])]) (fun _ => [(b1, .cells #[.int .u64 a0.Dst, .int .u64 a0.Src, .bool a0.Tag.Has, .int .i64 a0.Tag.Pri, .bool a0.Tag.Dei, .int .i64 a0.Tag.Vid, .int .i64 a0.Type_, .string a0.Body] 26 (0, 0))]) (fun _ => [b1, b1, b1, b1, b1, b1, b1, b1]) (fun _ => by kernel_rfl) (fun _ => ?_)
  obtain ⟨r2, h3, hM⟩ := bind_some hM
  refine WL.callP [] [] (gangwayref04_Check_calls a0 _ h3) (fun _ h => h) (by kernel_rfl) (by kernel_rfl) rfl ?_
  refine WL.run 1 [] [1, 2, 3, 4] (fun _ => [(1, .pointer (some ⟨b1, 0, none⟩)), (2, .string (⟨#[]⟩ : ByteArray)), (3, .int .i64 0), (4, .int .i64 r2)]) (fun _ => [(b1, .cells #[.int .u64 a0.Dst, .int .u64 a0.Src, .bool a0.Tag.Has, .int .i64 a0.Tag.Pri, .bool a0.Tag.Dei, .int .i64 a0.Tag.Vid, .int .i64 a0.Type_, .string a0.Body] 26 (0, 0))]) (fun _ => []) (fun _ => by kernel_rfl) (fun _ => ?_)
  refine WP.done ?_
  refine WP.seq ?_
  refine WP.seq ?_
  refine WP.run [] [1, 2, 3, 4, 11] (fun _ => [(1, .pointer (some ⟨b1, 0, none⟩)), (2, .string (⟨#[]⟩ : ByteArray)), (3, .int .i64 0), (4, .int .i64 r2), (11, .bool (r2 != 0))]) (fun _ => [(b1, .cells #[.int .u64 a0.Dst, .int .u64 a0.Src, .bool a0.Tag.Has, .int .i64 a0.Tag.Pri, .bool a0.Tag.Dei, .int .i64 a0.Tag.Vid, .int .i64 a0.Type_, .string a0.Body] 26 (0, 0))]) (fun _ => []) (fun _ => by kernel_rfl) (fun _ => ?_)
  refine WP.cond (r2 != 0) rfl rfl (fun c4 => ?_) (fun c4 => ?_)
  · replace hM := cond_t hM c4
    refine WP.seq ?_
    refine WP.run [] [1, 2, 3] (fun _ => [(1, .pointer (some ⟨b1, 0, none⟩)), (2, .string (⟨#[]⟩ : ByteArray)), (3, .int .i64 r2)]) (fun _ => [(b1, .cells #[.int .u64 a0.Dst, .int .u64 a0.Src, .bool a0.Tag.Has, .int .i64 a0.Tag.Pri, .bool a0.Tag.Dei, .int .i64 a0.Tag.Vid, .int .i64 a0.Type_, .string a0.Body] 26 (0, 0))]) (fun _ => []) (fun _ => by kernel_rfl) (fun _ => ?_)
    obtain rfl := Option.some.inj hM
    exact WP.ret [] [] (.tuple #[.string (⟨#[]⟩ : ByteArray), .int .i64 r2]) (by kernel_rfl) (fun w' hw => ⟨rfl, hw.pick [] rfl⟩)
  · replace hM := cond_f hM c4
    refine WP.skip ?_
    refine WP.seq ?_
    refine WP.quiet (by kernel_rfl) (by kernel_rfl) ?_
    refine QL.run 2 [0] [1, 2, 3, 14] [b1] [(1, .pointer (some ⟨b1, 0, none⟩)), (2, .string (⟨#[]⟩ : ByteArray)), (3, .int .i64 0), (14, .int .u64 a0.Dst)] (by kernel_rfl) ?_
    obtain ⟨r5, h6, hM⟩ := bind_some hM
    refine QL.callP [] [] (gangwayref01_Bytes_calls k a0.Dst 6 _ h6) (fun _ h => h) (by kernel_rfl) (by kernel_rfl) rfl ?_
    refine QL.run 2 [0] [1, 2, 3, 15, 17] [b1] [(1, .pointer (some ⟨b1, 0, none⟩)), (2, .string (⟨#[]⟩ : ByteArray)), (3, .int .i64 0), (15, .string r5), (17, .int .u64 a0.Src)] (by kernel_rfl) ?_
    obtain ⟨r7, h8, hM⟩ := bind_some hM
    refine QL.callP [] [] (gangwayref01_Bytes_calls k a0.Src 6 _ h8) (fun _ h => h) (by kernel_rfl) (by kernel_rfl) rfl ?_
    obtain ⟨t9, h10, hM⟩ := bind_some hM
    refine QL.val (fun _ => run_catS (a := r5) (b := r7) (by kernel_rfl) (by kernel_rfl) h10) (by kernel_rfl) (by kernel_rfl) rfl ?_
    refine QL.run 1 [] [1, 2, 3, 5] [] [(1, .pointer (some ⟨b1, 0, none⟩)), (2, .string (⟨#[]⟩ : ByteArray)), (3, .int .i64 0), (5, .string t9)] (by kernel_rfl) ?_
    refine QL.done ?_
    refine WP.seqJoin (σ := ByteArray) (fun st => gangwayref04_Build.k3 a0 k st = some r) (fun st => [(1, .pointer (some ⟨b1, 0, none⟩)), (2, .string (⟨#[]⟩ : ByteArray)), (3, .int .i64 0), (5, .string st)]) (fun st => Sat w Z [(b1, .cells #[.int .u64 a0.Dst, .int .u64 a0.Src, .bool a0.Tag.Has, .int .i64 a0.Tag.Pri, .bool a0.Tag.Dei, .int .i64 a0.Tag.Vid, .int .i64 a0.Type_, .string a0.Body] 26 (0, 0))] [] Glob) (fun st hM => ?_) (fun K3 => ?_)
    ·
      obtain ⟨x20, rfl⟩ : ∃ y, y = st := ⟨st, rfl⟩
      replace hM : gangwayref04_Build.k3 a0 k x20 = some r := hM
      unfold gangwayref04_Build.k3 at hM
      show WP _ _ _ _ _ [(1, .pointer (some ⟨b1, 0, none⟩)), (2, .string (⟨#[]⟩ : ByteArray)), (3, .int .i64 0), (5, .string x20)] (Sat w Z [(b1, .cells #[.int .u64 a0.Dst, .int .u64 a0.Src, .bool a0.Tag.Has, .int .i64 a0.Tag.Pri, .bool a0.Tag.Dei, .int .i64 a0.Tag.Vid, .int .i64 a0.Type_, .string a0.Body] 26 (0, 0))] [] Glob)
      refine WP.seq ?_
      refine WP.run [0] [1, 2, 3, 5, 7] (fun _ => [(1, .pointer (some ⟨b1, 0, none⟩)), (2, .string (⟨#[]⟩ : ByteArray)), (3, .int .i64 0), (5, .string x20), (7, .int .i64 a0.Type_)]) (fun _ => [(b1, .cells #[.int .u64 a0.Dst, .int .u64 a0.Src, .bool a0.Tag.Has, .int .i64 a0.Tag.Pri, .bool a0.Tag.Dei, .int .i64 a0.Tag.Vid, .int .i64 a0.Type_, .string a0.Body] 26 (0, 0))]) (fun _ => [b1]) (fun _ => by kernel_rfl) (fun _ => ?_)
      refine WP.seqJoin (σ := Int) (fun st => gangwayref04_Build.k2 k x20 a0 st = some r) (fun st => [(1, .pointer (some ⟨b1, 0, none⟩)), (2, .string (⟨#[]⟩ : ByteArray)), (3, .int .i64 0), (5, .string x20), (7, .int .i64 st)]) (fun st => Sat w Z [(b1, .cells #[.int .u64 a0.Dst, .int .u64 a0.Src, .bool a0.Tag.Has, .int .i64 a0.Tag.Pri, .bool a0.Tag.Dei, .int .i64 a0.Tag.Vid, .int .i64 a0.Type_, .string a0.Body] 26 (0, 0))] [] Glob) (fun st hM => ?_) (fun K2 => ?_)
      ·
        obtain ⟨x22, rfl⟩ : ∃ y, y = st := ⟨st, rfl⟩
        replace hM : gangwayref04_Build.k2 k x20 a0 x22 = some r := hM
        unfold gangwayref04_Build.k2 at hM
        show WP _ _ _ _ _ [(1, .pointer (some ⟨b1, 0, none⟩)), (2, .string (⟨#[]⟩ : ByteArray)), (3, .int .i64 0), (5, .string x20), (7, .int .i64 x22)] (Sat w Z [(b1, .cells #[.int .u64 a0.Dst, .int .u64 a0.Src, .bool a0.Tag.Has, .int .i64 a0.Tag.Pri, .bool a0.Tag.Dei, .int .i64 a0.Tag.Vid, .int .i64 a0.Type_, .string a0.Body] 26 (0, 0))] [] Glob)
        refine WP.seq ?_
        refine WP.quiet (by kernel_rfl) (by kernel_rfl) ?_
        refine QL.run 3 [] [1, 2, 3, 49, 51] [] [(1, .pointer (some ⟨b1, 0, none⟩)), (2, .string (⟨#[]⟩ : ByteArray)), (3, .int .i64 0), (49, .string x20), (51, .int .u64 (u64 x22))] (by kernel_rfl) ?_
        obtain ⟨r23, h24, hM⟩ := bind_some hM
        refine QL.callP [] [] (gangwayref01_Bytes_calls k (u64 x22) 2 _ h24) (fun _ h => h) (by kernel_rfl) (by kernel_rfl) rfl ?_
        obtain ⟨t25, h26, hM⟩ := bind_some hM
        refine QL.val (fun _ => run_catS (a := x20) (b := r23) (by kernel_rfl) (by kernel_rfl) h26) (by kernel_rfl) (by kernel_rfl) rfl ?_
        refine QL.run 2 [0] [2, 3, 53, 55] [b1] [(2, .string (⟨#[]⟩ : ByteArray)), (3, .int .i64 0), (53, .string t25), (55, .string a0.Body)] (by kernel_rfl) ?_
        obtain ⟨t27, h28, hM⟩ := bind_some hM
        refine QL.val (fun _ => run_catS (a := t25) (b := a0.Body) (by kernel_rfl) (by kernel_rfl) h28) (by kernel_rfl) (by kernel_rfl) rfl ?_
        refine QL.run 2 [] [2, 3] [] [(2, .string t27), (3, .int .i64 0)] (by kernel_rfl) ?_
        refine QL.done ?_
        refine WP.keep [false] (by kernel_rfl : _ = []) ?_
        obtain rfl := Option.some.inj hM
        exact WP.ret [] [] (.tuple #[.string t27, .int .i64 0]) (by kernel_rfl) (fun w' hw => ⟨rfl, hw.pick [] rfl⟩)
      ·
        refine WP.seq ?_
        refine WP.run [] [1, 2, 3, 5, 7, 45] (fun _ => [(1, .pointer (some ⟨b1, 0, none⟩)), (2, .string (⟨#[]⟩ : ByteArray)), (3, .int .i64 0), (5, .string x20), (7, .int .i64 a0.Type_), (45, .bool (a0.Type_ == 0))]) (fun _ => [(b1, .cells #[.int .u64 a0.Dst, .int .u64 a0.Src, .bool a0.Tag.Has, .int .i64 a0.Tag.Pri, .bool a0.Tag.Dei, .int .i64 a0.Tag.Vid, .int .i64 a0.Type_, .string a0.Body] 26 (0, 0))]) (fun _ => []) (fun _ => by kernel_rfl) (fun _ => ?_)
        refine WP.cond (a0.Type_ == 0) rfl rfl (fun c21 => ?_) (fun c21 => ?_)
        · replace hM := cond_t hM c21
          refine WP.run [0] [1, 2, 3, 5, 7] (fun _ => [(1, .pointer (some ⟨b1, 0, none⟩)), (2, .string (⟨#[]⟩ : ByteArray)), (3, .int .i64 0), (5, .string x20), (7, .int .i64 (a0.Body.size : Int))]) (fun _ => [(b1, .cells #[.int .u64 a0.Dst, .int .u64 a0.Src, .bool a0.Tag.Has, .int .i64 a0.Tag.Pri, .bool a0.Tag.Dei, .int .i64 a0.Tag.Vid, .int .i64 a0.Type_, .string a0.Body] 26 (0, 0))]) (fun _ => [b1]) (fun _ => by kernel_rfl) (fun _ => ?_)
          exact WP.sub [1, 2, 3, 5, 7] (by kernel_rfl) (WP.pick [0] (by kernel_rfl) (by kernel_rfl) (K2 (a0.Body.size : Int) hM))
        · replace hM := cond_f hM c21
          refine WP.skip ?_
          exact WP.sub [1, 2, 3, 5, 7] (by kernel_rfl) (WP.pick [0] (by kernel_rfl) (by kernel_rfl) (K2 a0.Type_ hM))
    ·
      refine WP.seq ?_
      refine WP.run [0] [1, 2, 3, 5, 22] (fun _ => [(1, .pointer (some ⟨b1, 0, none⟩)), (2, .string (⟨#[]⟩ : ByteArray)), (3, .int .i64 0), (5, .string t9), (22, .bool a0.Tag.Has)]) (fun _ => [(b1, .cells #[.int .u64 a0.Dst, .int .u64 a0.Src, .bool a0.Tag.Has, .int .i64 a0.Tag.Pri, .bool a0.Tag.Dei, .int .i64 a0.Tag.Vid, .int .i64 a0.Type_, .string a0.Body] 26 (0, 0))]) (fun _ => [b1]) (fun _ => by kernel_rfl) (fun _ => ?_)
      refine WP.cond a0.Tag.Has rfl rfl (fun c11 => ?_) (fun c11 => ?_)
      · replace hM := cond_t hM c11
        refine WP.seq ?_
        refine WP.run [0, 0] [1, 2, 3, 5, 6] (fun _ => [(1, .pointer (some ⟨b1, 0, none⟩)), (2, .string (⟨#[]⟩ : ByteArray)), (3, .int .i64 0), (5, .string t9), (6, .int .i64 (i64 ((i64 (a0.Tag.Pri * 8192)) + a0.Tag.Vid)))]) (fun _ => [(b1, .cells #[.int .u64 a0.Dst, .int .u64 a0.Src, .bool a0.Tag.Has, .int .i64 a0.Tag.Pri, .bool a0.Tag.Dei, .int .i64 a0.Tag.Vid, .int .i64 a0.Type_, .string a0.Body] 26 (0, 0))]) (fun _ => [b1, b1]) (fun _ => by kernel_rfl) (fun _ => ?_)
        refine WP.seqJoin (σ := Int) (fun st => gangwayref04_Build.k1 k t9 a0 st = some r) (fun st => [(1, .pointer (some ⟨b1, 0, none⟩)), (2, .string (⟨#[]⟩ : ByteArray)), (3, .int .i64 0), (5, .string t9), (6, .int .i64 st)]) (fun st => Sat w Z [(b1, .cells #[.int .u64 a0.Dst, .int .u64 a0.Src, .bool a0.Tag.Has, .int .i64 a0.Tag.Pri, .bool a0.Tag.Dei, .int .i64 a0.Tag.Vid, .int .i64 a0.Type_, .string a0.Body] 26 (0, 0))] [] Glob) (fun st hM => ?_) (fun K1 => ?_)
        ·
          obtain ⟨x13, rfl⟩ : ∃ y, y = st := ⟨st, rfl⟩
          replace hM : gangwayref04_Build.k1 k t9 a0 x13 = some r := hM
          unfold gangwayref04_Build.k1 at hM
          show WP _ _ _ _ _ [(1, .pointer (some ⟨b1, 0, none⟩)), (2, .string (⟨#[]⟩ : ByteArray)), (3, .int .i64 0), (5, .string t9), (6, .int .i64 x13)] (Sat w Z [(b1, .cells #[.int .u64 a0.Dst, .int .u64 a0.Src, .bool a0.Tag.Has, .int .i64 a0.Tag.Pri, .bool a0.Tag.Dei, .int .i64 a0.Tag.Vid, .int .i64 a0.Type_, .string a0.Body] 26 (0, 0))] [] Glob)
          refine WP.region ?_
          refine WL.run 3 [] [1, 2, 3, 5, 36, 38] (fun _ => [(1, .pointer (some ⟨b1, 0, none⟩)), (2, .string (⟨#[]⟩ : ByteArray)), (3, .int .i64 0), (5, .string t9), (36, .string t9), (38, .int .u64 (u64 x13))]) (fun _ => [(b1, .cells #[.int .u64 a0.Dst, .int .u64 a0.Src, .bool a0.Tag.Has, .int .i64 a0.Tag.Pri, .bool a0.Tag.Dei, .int .i64 a0.Tag.Vid, .int .i64 a0.Type_, .string a0.Body] 26 (0, 0))]) (fun _ => []) (fun _ => by kernel_rfl) (fun _ => ?_)
          obtain ⟨r14, h15, hM⟩ := bind_some hM
          refine WL.callP [] [] (gangwayref01_Bytes_calls k (u64 x13) 2 _ h15) (fun _ h => h) (by kernel_rfl) (by kernel_rfl) rfl ?_
          obtain ⟨t16, h17, hM⟩ := bind_some hM
          refine WL.val (fun _ => run_catS (a := (⟨#[129, 0]⟩ : ByteArray)) (b := r14) (by kernel_rfl) (by kernel_rfl) h17) (by kernel_rfl) (by kernel_rfl) rfl ?_
          obtain ⟨t18, h19, hM⟩ := bind_some hM
          refine WL.val (fun _ => run_catS (a := t9) (b := t16) (by kernel_rfl) (by kernel_rfl) h19) (by kernel_rfl) (by kernel_rfl) rfl ?_
          refine WL.run 1 [] [1, 2, 3, 5] (fun _ => [(1, .pointer (some ⟨b1, 0, none⟩)), (2, .string (⟨#[]⟩ : ByteArray)), (3, .int .i64 0), (5, .string t18)]) (fun _ => [(b1, .cells #[.int .u64 a0.Dst, .int .u64 a0.Src, .bool a0.Tag.Has, .int .i64 a0.Tag.Pri, .bool a0.Tag.Dei, .int .i64 a0.Tag.Vid, .int .i64 a0.Type_, .string a0.Body] 26 (0, 0))]) (fun _ => []) (fun _ => by kernel_rfl) (fun _ => ?_)
          refine WP.done ?_
          exact WP.sub [1, 2, 3, 5] (by kernel_rfl) (WP.pick [0] (by kernel_rfl) (by kernel_rfl) (K3 t18 hM))
        ·
          refine WP.seq ?_
          refine WP.run [0] [1, 2, 3, 5, 6, 33] (fun _ => [(1, .pointer (some ⟨b1, 0, none⟩)), (2, .string (⟨#[]⟩ : ByteArray)), (3, .int .i64 0), (5, .string t9), (6, .int .i64 (i64 ((i64 (a0.Tag.Pri * 8192)) + a0.Tag.Vid))), (33, .bool a0.Tag.Dei)]) (fun _ => [(b1, .cells #[.int .u64 a0.Dst, .int .u64 a0.Src, .bool a0.Tag.Has, .int .i64 a0.Tag.Pri, .bool a0.Tag.Dei, .int .i64 a0.Tag.Vid, .int .i64 a0.Type_, .string a0.Body] 26 (0, 0))]) (fun _ => [b1]) (fun _ => by kernel_rfl) (fun _ => ?_)
          refine WP.cond a0.Tag.Dei rfl rfl (fun c12 => ?_) (fun c12 => ?_)
          · replace hM := cond_t hM c12
            refine WP.run [] [1, 2, 3, 5, 6] (fun _ => [(1, .pointer (some ⟨b1, 0, none⟩)), (2, .string (⟨#[]⟩ : ByteArray)), (3, .int .i64 0), (5, .string t9), (6, .int .i64 (i64 ((i64 ((i64 (a0.Tag.Pri * 8192)) + a0.Tag.Vid)) + 4096)))]) (fun _ => [(b1, .cells #[.int .u64 a0.Dst, .int .u64 a0.Src, .bool a0.Tag.Has, .int .i64 a0.Tag.Pri, .bool a0.Tag.Dei, .int .i64 a0.Tag.Vid, .int .i64 a0.Type_, .string a0.Body] 26 (0, 0))]) (fun _ => []) (fun _ => by kernel_rfl) (fun _ => ?_)
            exact WP.sub [1, 2, 3, 5, 6] (by kernel_rfl) (WP.pick [0] (by kernel_rfl) (by kernel_rfl) (K1 (i64 ((i64 ((i64 (a0.Tag.Pri * 8192)) + a0.Tag.Vid)) + 4096)) hM))
          · replace hM := cond_f hM c12
            refine WP.skip ?_
            exact WP.sub [1, 2, 3, 5, 6] (by kernel_rfl) (WP.pick [0] (by kernel_rfl) (by kernel_rfl) (K1 (i64 ((i64 (a0.Tag.Pri * 8192)) + a0.Tag.Vid)) hM))
      · replace hM := cond_f hM c11
        refine WP.skip ?_
        exact WP.sub [1, 2, 3, 5] (by kernel_rfl) (WP.pick [0] (by kernel_rfl) (by kernel_rfl) (K3 t9 hM))

end Go.Proofs.YtefbjefmclhhjaaDoor

namespace Go.Proofs.YtefbjefmclhhjaaDoor
open Go Eng
set_option linter.unusedVariables false
set_option linter.unusedSimpArgs false

/-! ### gangway/gangwaylaw04.EtherBuilds: function 6 -/
def gangwaylaw04_EtherBuilds.k1 (x29 : Bool) : Option (Bool) :=
  some x29

def gangwaylaw04_EtherBuilds.k2 (r11 : api_Frame) (a0 : api_Frame) (t2 : ByteArray) (x25 : Bool) : Option (Bool) :=
  bif x25 then
    (ether_Bare.f r11).bind fun r27 =>
    gangwaylaw04_EtherBuilds.k1 ((r27.Dst == a0.Dst) && ((r27.Src == a0.Src) && (((r27.Tag.Has == false) && ((r27.Tag.Pri == 0) && ((r27.Tag.Dei == false) && ((r27.Tag.Vid == 0) && true)))) && ((r27.Type_ == a0.Type_) && ((r27.Body == t2) && true)))))
  else
    gangwaylaw04_EtherBuilds.k1 false

def gangwaylaw04_EtherBuilds.k3 (r11 : api_Frame) (a0 : api_Frame) (t2 : ByteArray) (a1 : api_Tag) (x23 : Bool) : Option (Bool) :=
  bif x23 then
    gangwaylaw04_EtherBuilds.k2 r11 a0 t2 ((r11.Dst == a0.Dst) && ((r11.Src == a0.Src) && (((r11.Tag.Has == a1.Has) && ((r11.Tag.Pri == a1.Pri) && ((r11.Tag.Dei == a1.Dei) && ((r11.Tag.Vid == a1.Vid) && true)))) && ((r11.Type_ == a0.Type_) && ((r11.Body == t2) && true)))))
  else
    gangwaylaw04_EtherBuilds.k2 r11 a0 t2 false

def gangwaylaw04_EtherBuilds.f (k : Nat) (a0 : api_Frame) (a1 : api_Tag) : Option (Bool) :=
  (sliceS a0.Body 0 (imin (a0.Body.size : Int) 1700)).bind fun t2 =>
  (ether_Build.f k (api_Frame.mk a0.Dst a0.Src a0.Tag a0.Type_ t2)).bind fun (r4, r5) =>
  (gangwayref04_Build.f k (api_Frame.mk a0.Dst a0.Src a0.Tag a0.Type_ t2)).bind fun (r7, r8) =>
  (ether_Tagged.f (api_Frame.mk a0.Dst a0.Src a0.Tag a0.Type_ t2) a1).bind fun r11 =>
  (gangwaylaw04_fixed.f k).bind fun r16 =>
  bif ((r16 && (r4.toList == r7.toList)) && (r5 == r8)) then
    (ether_Check.f (api_Frame.mk a0.Dst a0.Src a0.Tag a0.Type_ t2)).bind fun r19 =>
    (gangwayref04_Check.f (api_Frame.mk a0.Dst a0.Src a0.Tag a0.Type_ t2)).bind fun r21 =>
    gangwaylaw04_EtherBuilds.k3 r11 a0 t2 a1 (r19 == r21)
  else
    gangwaylaw04_EtherBuilds.k3 r11 a0 t2 a1 false

set_option maxRecDepth 100000 in
theorem gangwaylaw04_EtherBuilds_calls (k : Nat) (a0 : api_Frame) (a1 : api_Tag) (r : Bool) (h : gangwaylaw04_EtherBuilds.f k a0 a1 = some r) : Pure Tryd.prog Glob 6 #[.agg #[.int .u64 a0.Dst, .int .u64 a0.Src, .bool a0.Tag.Has, .int .i64 a0.Tag.Pri, .bool a0.Tag.Dei, .int .i64 a0.Tag.Vid, .int .i64 a0.Type_, .string a0.Body], .agg #[.bool a1.Has, .int .i64 a1.Pri, .bool a1.Dei, .int .i64 a1.Vid]] (.bool r) := by
  intro w Z hS
  refine calls_of (args := [.agg #[.int .u64 a0.Dst, .int .u64 a0.Src, .bool a0.Tag.Has, .int .i64 a0.Tag.Pri, .bool a0.Tag.Dei, .int .i64 a0.Tag.Vid, .int .i64 a0.Type_, .string a0.Body], .agg #[.bool a1.Has, .int .i64 a1.Pri, .bool a1.Dei, .int .i64 a1.Vid]]) (L := [(0, .agg #[.int .u64 a0.Dst, .int .u64 a0.Src, .bool a0.Tag.Has, .int .i64 a0.Tag.Pri, .bool a0.Tag.Dei, .int .i64 a0.Tag.Vid, .int .i64 a0.Type_, .string a0.Body]), (1, .agg #[.bool a1.Has, .int .i64 a1.Pri, .bool a1.Dei, .int .i64 a1.Vid])]) (N := 68) (S := Sat w Z [] [] Glob) Tryd.func6 rfl rfl (Nat.le_of_ble_eq_true rfl) rfl hS ?_
  have hM := h
  clear h hS
  unfold gangwaylaw04_EtherBuilds.f at hM
  refine WP.seq ?_
  refine WP.run [] [2, 3, 4] (fun b1 => [(2, .pointer (some ⟨b1, 0, none⟩)), (3, .pointer (some ⟨(b1 + 1), 0, none⟩)), (4, .bool false)]) (fun b1 => [(b1, .cells #[.int .u64 a0.Dst, .int .u64 a0.Src, .bool a0.Tag.Has, .int .i64 a0.Tag.Pri, .bool a0.Tag.Dei, .int .i64 a0.Tag.Vid, .int .i64 a0.Type_, .string a0.Body] 26 (0, 0)), ((b1 + 1), .cells #[.bool a1.Has, .int .i64 a1.Pri, .bool a1.Dei, .int .i64 a1.Vid] 24 (0, 0))]) (fun b1 => []) (fun b1 => by kernel_rfl) (fun b1 => ?_)
  refine WP.seq ?_
  refine WP.region ?_
  refine WL.run 6 [0, 0] [2, 3, 4, 13, 17] (fun _ => [(2, .pointer (some ⟨b1, 0, none⟩)), (3, .pointer (some ⟨(b1 + 1), 0, none⟩)), (4, .bool false), (13, .string a0.Body), (17, .int .i64 (imin (a0.Body.size : Int) 1700))]) (fun _ => [(b1, .cells #[.int .u64 a0.Dst, .int .u64 a0.Src, .bool a0.Tag.Has, .int .i64 a0.Tag.Pri, .bool a0.Tag.Dei, .int .i64 a0.Tag.Vid, .int .i64 a0.Type_, .string a0.Body] 26 (0, 0)), ((b1 + 1), .cells #[.bool a1.Has, .int .i64 a1.Pri, .bool a1.Dei, .int .i64 a1.Vid] 24 (0, 0))]) (fun _ => [b1, b1]) (fun _ => by kernel_rfl) (fun _ => ?_)
  obtain ⟨t2, h3, hM⟩ := bind_some hM
  refine WL.val (fun _ => run_sliceS_hi (s := a0.Body) (kh := .i64) (h := imin (a0.Body.size : Int) 1700) (by kernel_rfl) (by kernel_rfl) (by kernel_rfl) h3) (by kernel_rfl) (by kernel_rfl) rfl ?_
  refine WL.run 2 [0] [2, 3, 4] (fun _ => [(2, .pointer (some ⟨b1, 0, none⟩)), (3, .pointer (some ⟨(b1 + 1), 0, none⟩)), (4, .bool false)]) (fun _ => [(b1, .cells #[.int .u64 a0.Dst, .int .u64 a0.Src, .bool a0.Tag.Has, .int .i64 a0.Tag.Pri, .bool a0.Tag.Dei, .int .i64 a0.Tag.Vid, .int .i64 a0.Type_, .string t2] 26 (0, 0)), ((b1 + 1), .cells #[.bool a1.Has, .int .i64 a1.Pri, .bool a1.Dei, .int .i64 a1.Vid] 24 (0, 0))]) (fun _ => [b1]) (fun _ => by kernel_rfl) (fun _ => ?_)
  refine WP.done ?_
  refine WP.seq ?_
  refine WP.region ?_
  refine WL.run 1 [0, 0, 0, 0, 0, 0, 0, 0] [2, 3, 4, 21] (fun _ => [(2, .pointer (some ⟨b1, 0, none⟩)), (3, .pointer (some ⟨(b1 + 1), 0, none⟩)), (4, .bool false), (21, .agg #[.int .u64 a0.Dst, .int .u64 a0.Src, .bool a0.Tag.Has, .int .i64 a0.Tag.Pri, .bool a0.Tag.Dei, .int .i64 a0.Tag.Vid, .int .i64 a0.Type_, .string t2])]) (fun _ => [(b1, .cells #[.int .u64 a0.Dst, .int .u64 a0.Src, .bool a0.Tag.Has, .int .i64 a0.Tag.Pri, .bool a0.Tag.Dei, .int .i64 a0.Tag.Vid, .int .i64 a0.Type_, .string t2] 26 (0, 0)), ((b1 + 1), .cells #[.bool a1.Has, .int .i64 a1.Pri, .bool a1.Dei, .int .i64 a1.Vid] 24 (0, 0))]) (fun _ => [b1, b1, b1, b1, b1, b1, b1, b1]) (fun _ => by kernel_rfl) (fun _ => ?_)
  obtain ⟨⟨r4, r5⟩, h6, hM⟩ := bind_some hM
  dsimp only at hM
  refine WL.callP [] [] (ether_Build_calls k (api_Frame.mk a0.Dst a0.Src a0.Tag a0.Type_ t2) _ h6) (fun _ h => h) (by kernel_rfl) (by kernel_rfl) rfl ?_
  refine WL.run 5 [] [2, 3, 4, 5, 6] (fun _ => [(2, .pointer (some ⟨b1, 0, none⟩)), (3, .pointer (some ⟨(b1 + 1), 0, none⟩)), (4, .bool false), (5, .string r4), (6, .int .i64 r5)]) (fun _ => [(b1, .cells #[.int .u64 a0.Dst, .int .u64 a0.Src, .bool a0.Tag.Has, .int .i64 a0.Tag.Pri, .bool a0.Tag.Dei, .int .i64 a0.Tag.Vid, .int .i64 a0.Type_, .string t2] 26 (0, 0)), ((b1 + 1), .cells #[.bool a1.Has, .int .i64 a1.Pri, .bool a1.Dei, .int .i64 a1.Vid] 24 (0, 0))]) (fun _ => []) (fun _ => by kernel_rfl) (fun _ => ?_)
  refine WP.done ?_
  refine WP.seq ?_
  refine WP.region ?_
  refine WL.run 1 [0, 0, 0, 0, 0, 0, 0, 0] [2, 3, 4, 5, 6, 26] (fun _ => [(2, .pointer (some ⟨b1, 0, none⟩)), (3, .pointer (some ⟨(b1 + 1), 0, none⟩)), (4, .bool false), (5, .string r4), (6, .int .i64 r5), (26, .agg #[.int .u64 a0.Dst, .int .u64 a0.Src, .bool a0.Tag.Has, .int .i64 a0.Tag.Pri, .bool a0.Tag.Dei, .int .i64 a0.Tag.Vid, .int .i64 a0.Type_, .string t2])]) (fun _ => [(b1, .cells #[.int .u64 a0.Dst, .int .u64 a0.Src, .bool a0.Tag.Has, .int .i64 a0.Tag.Pri, .bool a0.Tag.Dei, .int .i64 a0.Tag.Vid, .int .i64 a0.Type_, .string t2] 26 (0, 0)), ((b1 + 1), .cells #[.bool a1.Has, .int .i64 a1.Pri, .bool a1.Dei, .int .i64 a1.Vid] 24 (0, 0))]) (fun _ => [b1, b1, b1, b1, b1, b1, b1, b1]) (fun _ => by kernel_rfl) (fun _ => ?_)
  obtain ⟨⟨r7, r8⟩, h9, hM⟩ := bind_some hM
  dsimp only at hM
  refine WL.callP [] [] (gangwayref04_Build_calls k (api_Frame.mk a0.Dst a0.Src a0.Tag a0.Type_ t2) _ h9) (fun _ h => h) (by kernel_rfl) (by kernel_rfl) rfl ?_
  refine WL.run 5 [] [2, 3, 4, 5, 6, 7, 8] (fun _ => [(2, .pointer (some ⟨b1, 0, none⟩)), (3, .pointer (some ⟨(b1 + 1), 0, none⟩)), (4, .bool false), (5, .string r4), (6, .int .i64 r5), (7, .string r7), (8, .int .i64 r8)]) (fun _ => [(b1, .cells #[.int .u64 a0.Dst, .int .u64 a0.Src, .bool a0.Tag.Has, .int .i64 a0.Tag.Pri, .bool a0.Tag.Dei, .int .i64 a0.Tag.Vid, .int .i64 a0.Type_, .string t2] 26 (0, 0)), ((b1 + 1), .cells #[.bool a1.Has, .int .i64 a1.Pri, .bool a1.Dei, .int .i64 a1.Vid] 24 (0, 0))]) (fun _ => []) (fun _ => by kernel_rfl) (fun _ => ?_)
  refine WP.done ?_
  refine WP.seq ?_
  obtain ⟨r11, h12, hM⟩ := bind_some hM
  refine WP.sub [2, 3, 4, 5, 6, 7, 8] (L' := [(2, .pointer (some ⟨b1, 0, none⟩)), (3, .pointer (some ⟨(b1 + 1), 0, none⟩)), (4, .bool false), (5, .string r4), (6, .int .i64 r5), (7, .string r7), (8, .int .i64 r8)]) (by kernel_rfl) ?_
  refine WP.mixed 7 [.val (.agg #[.int .u64 a0.Dst, .int .u64 a0.Src, .bool a0.Tag.Has, .int .i64 a0.Tag.Pri, .bool a0.Tag.Dei, .int .i64 a0.Tag.Vid, .int .i64 a0.Type_, .string t2]), .val (.agg #[.bool a1.Has, .int .i64 a1.Pri, .bool a1.Dei, .int .i64 a1.Vid]), .val (.agg #[.int .u64 r11.Dst, .int .u64 r11.Src, .bool r11.Tag.Has, .int .i64 r11.Tag.Pri, .bool r11.Tag.Dei, .int .i64 r11.Tag.Vid, .int .i64 r11.Type_, .string r11.Body]), .val (.agg #[.int .u64 a0.Dst, .int .u64 a0.Src, .bool a0.Tag.Has, .int .i64 a0.Tag.Pri, .bool a0.Tag.Dei, .int .i64 a0.Tag.Vid, .int .i64 a0.Type_, .string t2]), .alloc (.cells #[.int .u64 0, .int .u64 0, .bool false, .int .i64 0, .bool false, .int .i64 0, .int .i64 0, .string (⟨#[]⟩ : ByteArray)] 26 (0, 0)) (fun b => .pointer (some ⟨b, 0, none⟩)), .alloc (.cells #[.int .u64 0, .int .u64 0, .bool false, .int .i64 0, .bool false, .int .i64 0, .int .i64 0, .string (⟨#[]⟩ : ByteArray)] 26 (0, 0)) (fun b => .pointer (some ⟨b, 0, none⟩)), .fill 4 (.cells #[.int .u64 r11.Dst, .int .u64 r11.Src, .bool r11.Tag.Has, .int .i64 r11.Tag.Pri, .bool r11.Tag.Dei, .int .i64 r11.Tag.Vid, .int .i64 r11.Type_, .string r11.Body] 26 (0, 0))] (by kernel_rfl) (by kernel_rfl) (by kernel_rfl) (Heads.val (OpV.run [0, 0, 0, 0, 0, 0, 0, 0] [b1, b1, b1, b1, b1, b1, b1, b1] (by kernel_rfl) (fun _ => by kernel_rfl)) (Heads.val (OpV.run [1, 1, 1, 1] [(b1 + 1), (b1 + 1), (b1 + 1), (b1 + 1)] (by kernel_rfl) (fun _ => by kernel_rfl)) (Heads.val (OpV.callP [] [] (ether_Tagged_calls (api_Frame.mk a0.Dst a0.Src a0.Tag a0.Type_ t2) a1 _ h12) (fun _ h => h) (fun _ => by kernel_rfl)) (Heads.val (OpV.run [0, 0, 0, 0, 0, 0, 0, 0] [b1, b1, b1, b1, b1, b1, b1, b1] (by kernel_rfl) (fun _ => by kernel_rfl)) (Heads.alloc (by kernel_rfl) (fun _ => by kernel_rfl) (Heads.alloc (by kernel_rfl) (fun _ => by kernel_rfl) (Heads.fill 9 (fun b => .pointer (some ⟨b, 0, none⟩)) (.cells #[.int .u64 0, .int .u64 0, .bool false, .int .i64 0, .bool false, .int .i64 0, .int .i64 0, .string (⟨#[]⟩ : ByteArray)] 26 (0, 0)) rfl rfl (OpF.run [2, 2, 2, 2, 2, 2, 2, 2] (fun b => [b, b, b, b, b, b, b, b]) (fun _ => by kernel_rfl) (fun _ _ _ => by kernel_rfl) (fun _ _ _ => by kernel_rfl)) Heads.nil))))))) (fun s10 => [(30, .agg #[.int .u64 a0.Dst, .int .u64 a0.Src, .bool a0.Tag.Has, .int .i64 a0.Tag.Pri, .bool a0.Tag.Dei, .int .i64 a0.Tag.Vid, .int .i64 a0.Type_, .string t2]), (31, .agg #[.bool a1.Has, .int .i64 a1.Pri, .bool a1.Dei, .int .i64 a1.Vid]), (32, .agg #[.int .u64 r11.Dst, .int .u64 r11.Src, .bool r11.Tag.Has, .int .i64 r11.Tag.Pri, .bool r11.Tag.Dei, .int .i64 r11.Tag.Vid, .int .i64 r11.Type_, .string r11.Body]), (33, .agg #[.int .u64 a0.Dst, .int .u64 a0.Src, .bool a0.Tag.Has, .int .i64 a0.Tag.Pri, .bool a0.Tag.Dei, .int .i64 a0.Tag.Vid, .int .i64 a0.Type_, .string t2]), (9, .pointer (some ⟨(s10 4), 0, none⟩)), (10, .pointer (some ⟨(s10 5), 0, none⟩)), (2, .pointer (some ⟨b1, 0, none⟩)), (3, .pointer (some ⟨(b1 + 1), 0, none⟩)), (4, .bool false), (5, .string r4), (6, .int .i64 r5), (7, .string r7), (8, .int .i64 r8)]) (fun s10 => [(b1, .cells #[.int .u64 a0.Dst, .int .u64 a0.Src, .bool a0.Tag.Has, .int .i64 a0.Tag.Pri, .bool a0.Tag.Dei, .int .i64 a0.Tag.Vid, .int .i64 a0.Type_, .string t2] 26 (0, 0)), ((b1 + 1), .cells #[.bool a1.Has, .int .i64 a1.Pri, .bool a1.Dei, .int .i64 a1.Vid] 24 (0, 0)), ((s10 4), .cells #[.int .u64 r11.Dst, .int .u64 r11.Src, .bool r11.Tag.Has, .int .i64 r11.Tag.Pri, .bool r11.Tag.Dei, .int .i64 r11.Tag.Vid, .int .i64 r11.Type_, .string r11.Body] 26 (0, 0)), ((s10 5), .cells #[.int .u64 0, .int .u64 0, .bool false, .int .i64 0, .bool false, .int .i64 0, .int .i64 0, .string (⟨#[]⟩ : ByteArray)] 26 (0, 0))]) (fun _ => by kernel_rfl) (fun _ => by kernel_rfl) (fun s10 => ?_)
  generalize s10 4 = b13
  generalize s10 5 = b14
  refine WL.run 1 [3, 3, 3, 3, 3, 3, 3, 3] [2, 3, 4, 5, 6, 7, 8, 9, 10] (fun _ => [(2, .pointer (some ⟨b1, 0, none⟩)), (3, .pointer (some ⟨(b1 + 1), 0, none⟩)), (4, .bool false), (5, .string r4), (6, .int .i64 r5), (7, .string r7), (8, .int .i64 r8), (9, .pointer (some ⟨b13, 0, none⟩)), (10, .pointer (some ⟨b14, 0, none⟩))]) (fun _ => [(b1, .cells #[.int .u64 a0.Dst, .int .u64 a0.Src, .bool a0.Tag.Has, .int .i64 a0.Tag.Pri, .bool a0.Tag.Dei, .int .i64 a0.Tag.Vid, .int .i64 a0.Type_, .string t2] 26 (0, 0)), ((b1 + 1), .cells #[.bool a1.Has, .int .i64 a1.Pri, .bool a1.Dei, .int .i64 a1.Vid] 24 (0, 0)), (b13, .cells #[.int .u64 r11.Dst, .int .u64 r11.Src, .bool r11.Tag.Has, .int .i64 r11.Tag.Pri, .bool r11.Tag.Dei, .int .i64 r11.Tag.Vid, .int .i64 r11.Type_, .string r11.Body] 26 (0, 0)), (b14, .cells #[.int .u64 a0.Dst, .int .u64 a0.Src, .bool a0.Tag.Has, .int .i64 a0.Tag.Pri, .bool a0.Tag.Dei, .int .i64 a0.Tag.Vid, .int .i64 a0.Type_, .string t2] 26 (0, 0))]) (fun _ => [b14, b14, b14, b14, b14, b14, b14, b14]) (fun _ => by kernel_rfl) (fun _ => ?_)
  refine WP.done ?_
  refine WP.seq ?_
  refine WP.run [1, 1, 1, 1, 3, 3, 3, 3] [2, 4, 5, 6, 7, 8, 9, 10] (fun _ => [(2, .pointer (some ⟨b1, 0, none⟩)), (4, .bool false), (5, .string r4), (6, .int .i64 r5), (7, .string r7), (8, .int .i64 r8), (9, .pointer (some ⟨b13, 0, none⟩)), (10, .pointer (some ⟨b14, 0, none⟩))]) (fun _ => [(b1, .cells #[.int .u64 a0.Dst, .int .u64 a0.Src, .bool a0.Tag.Has, .int .i64 a0.Tag.Pri, .bool a0.Tag.Dei, .int .i64 a0.Tag.Vid, .int .i64 a0.Type_, .string t2] 26 (0, 0)), ((b1 + 1), .cells #[.bool a1.Has, .int .i64 a1.Pri, .bool a1.Dei, .int .i64 a1.Vid] 24 (0, 0)), (b13, .cells #[.int .u64 r11.Dst, .int .u64 r11.Src, .bool r11.Tag.Has, .int .i64 r11.Tag.Pri, .bool r11.Tag.Dei, .int .i64 r11.Tag.Vid, .int .i64 r11.Type_, .string r11.Body] 26 (0, 0)), (b14, .cells #[.int .u64 a0.Dst, .int .u64 a0.Src, .bool a1.Has, .int .i64 a1.Pri, .bool a1.Dei, .int .i64 a1.Vid, .int .i64 a0.Type_, .string t2] 26 (0, 0))]) (fun _ => [b14, b14, b14, b14, (b1 + 1), (b1 + 1), (b1 + 1), (b1 + 1)]) (fun _ => by kernel_rfl) (fun _ => ?_)
  refine WP.keep [true, false, true, true] (by kernel_rfl : _ = [(b1, .cells #[.int .u64 a0.Dst, .int .u64 a0.Src, .bool a0.Tag.Has, .int .i64 a0.Tag.Pri, .bool a0.Tag.Dei, .int .i64 a0.Tag.Vid, .int .i64 a0.Type_, .string t2] 26 (0, 0)), (b13, .cells #[.int .u64 r11.Dst, .int .u64 r11.Src, .bool r11.Tag.Has, .int .i64 r11.Tag.Pri, .bool r11.Tag.Dei, .int .i64 r11.Tag.Vid, .int .i64 r11.Type_, .string r11.Body] 26 (0, 0)), (b14, .cells #[.int .u64 a0.Dst, .int .u64 a0.Src, .bool a1.Has, .int .i64 a1.Pri, .bool a1.Dei, .int .i64 a1.Vid, .int .i64 a0.Type_, .string t2] 26 (0, 0))]) ?_
  refine WP.seq ?_
  refine WP.run [2, 2, 2, 2, 2, 2, 2, 2, 3, 3, 3, 3, 3, 3, 3, 3] [2, 4, 5, 6, 7, 8, 9, 10, 11] (fun b15 => [(2, .pointer (some ⟨b1, 0, none⟩)), (4, .bool false), (5, .string r4), (6, .int .i64 r5), (7, .string r7), (8, .int .i64 r8), (9, .pointer (some ⟨b13, 0, none⟩)), (10, .pointer (some ⟨b14, 0, none⟩)), (11, .pointer (some ⟨b15, 0, none⟩))]) (fun b15 => [(b1, .cells #[.int .u64 a0.Dst, .int .u64 a0.Src, .bool a0.Tag.Has, .int .i64 a0.Tag.Pri, .bool a0.Tag.Dei, .int .i64 a0.Tag.Vid, .int .i64 a0.Type_, .string t2] 26 (0, 0)), (b13, .cells #[.int .u64 r11.Dst, .int .u64 r11.Src, .bool r11.Tag.Has, .int .i64 r11.Tag.Pri, .bool r11.Tag.Dei, .int .i64 r11.Tag.Vid, .int .i64 r11.Type_, .string r11.Body] 26 (0, 0)), (b14, .cells #[.int .u64 a0.Dst, .int .u64 a0.Src, .bool a1.Has, .int .i64 a1.Pri, .bool a1.Dei, .int .i64 a1.Vid, .int .i64 a0.Type_, .string t2] 26 (0, 0)), (b15, .cells #[.int .u64 a0.Dst, .int .u64 a0.Src, .bool a1.Has, .int .i64 a1.Pri, .bool a1.Dei, .int .i64 a1.Vid, .int .i64 a0.Type_, .string t2] 26 (0, 0))]) (fun b15 => [b15, b15, b15, b15, b15, b15, b15, b15, b14, b14, b14, b14, b14, b14, b14, b14]) (fun b15 => by kernel_rfl) (fun b15 => ?_)
  refine WP.seq ?_
  refine WP.run [3, 3, 3, 3] [2, 4, 5, 6, 7, 8, 9, 10, 11] (fun _ => [(2, .pointer (some ⟨b1, 0, none⟩)), (4, .bool false), (5, .string r4), (6, .int .i64 r5), (7, .string r7), (8, .int .i64 r8), (9, .pointer (some ⟨b13, 0, none⟩)), (10, .pointer (some ⟨b14, 0, none⟩)), (11, .pointer (some ⟨b15, 0, none⟩))]) (fun _ => [(b1, .cells #[.int .u64 a0.Dst, .int .u64 a0.Src, .bool a0.Tag.Has, .int .i64 a0.Tag.Pri, .bool a0.Tag.Dei, .int .i64 a0.Tag.Vid, .int .i64 a0.Type_, .string t2] 26 (0, 0)), (b13, .cells #[.int .u64 r11.Dst, .int .u64 r11.Src, .bool r11.Tag.Has, .int .i64 r11.Tag.Pri, .bool r11.Tag.Dei, .int .i64 r11.Tag.Vid, .int .i64 r11.Type_, .string r11.Body] 26 (0, 0)), (b14, .cells #[.int .u64 a0.Dst, .int .u64 a0.Src, .bool a1.Has, .int .i64 a1.Pri, .bool a1.Dei, .int .i64 a1.Vid, .int .i64 a0.Type_, .string t2] 26 (0, 0)), (b15, .cells #[.int .u64 a0.Dst, .int .u64 a0.Src, .bool false, .int .i64 0, .bool false, .int .i64 0, .int .i64 a0.Type_, .string t2] 26 (0, 0))]) (fun _ => [b15, b15, b15, b15]) (fun _ => by kernel_rfl) (fun _ => ?_)
  refine WP.seq ?_
  refine WP.quiet (by kernel_rfl) (by kernel_rfl) ?_
  obtain ⟨r16, h17, hM⟩ := bind_some hM
  refine QL.callP [] [] (gangwaylaw04_fixed_calls k _ h17) (fun _ h => h) (by kernel_rfl) (by kernel_rfl) rfl ?_
  refine QL.run 1 [] [2, 4, 5, 6, 7, 8, 9, 10, 11, 40] [] [(2, .pointer (some ⟨b1, 0, none⟩)), (4, .bool false), (5, .string r4), (6, .int .i64 r5), (7, .string r7), (8, .int .i64 r8), (9, .pointer (some ⟨b13, 0, none⟩)), (10, .pointer (some ⟨b14, 0, none⟩)), (11, .pointer (some ⟨b15, 0, none⟩)), (40, .bool r16)] (by kernel_rfl) ?_
  refine QL.sub [2, 4, 5, 6, 7, 8, 9, 10, 11, 40] (L' := [(2, .pointer (some ⟨b1, 0, none⟩)), (4, .bool false), (5, .string r4), (6, .int .i64 r5), (7, .string r7), (8, .int .i64 r8), (9, .pointer (some ⟨b13, 0, none⟩)), (10, .pointer (some ⟨b14, 0, none⟩)), (11, .pointer (some ⟨b15, 0, none⟩)), (40, .bool r16)]) (by kernel_rfl) ?_
  refine QL.both (fun b' => [(2, .pointer (some ⟨b1, 0, none⟩)), (4, .bool false), (5, .string r4), (6, .int .i64 r5), (7, .string r7), (8, .int .i64 r8), (9, .pointer (some ⟨b13, 0, none⟩)), (10, .pointer (some ⟨b14, 0, none⟩)), (11, .pointer (some ⟨b15, 0, none⟩)), (40, .bool b')]) r16 4 [] [] [2, 4, 6, 8, 9, 10, 11, 44] [] [] (fun b' => [(2, .pointer (some ⟨b1, 0, none⟩)), (4, .bool false), (6, .int .i64 r5), (8, .int .i64 r8), (9, .pointer (some ⟨b13, 0, none⟩)), (10, .pointer (some ⟨b14, 0, none⟩)), (11, .pointer (some ⟨b15, 0, none⟩)), (44, .bool (b' && (r4.toList == r7.toList)))]) (by kernel_rfl) (by kernel_rfl) ?_
  refine QL.run 1 [] [2, 4, 6, 8, 9, 10, 11, 45] [] [(2, .pointer (some ⟨b1, 0, none⟩)), (4, .bool false), (6, .int .i64 r5), (8, .int .i64 r8), (9, .pointer (some ⟨b13, 0, none⟩)), (10, .pointer (some ⟨b14, 0, none⟩)), (11, .pointer (some ⟨b15, 0, none⟩)), (45, .bool (r16 && (r4.toList == r7.toList)))] (by kernel_rfl) ?_
  refine QL.sub [2, 4, 6, 8, 9, 10, 11, 45] (L' := [(2, .pointer (some ⟨b1, 0, none⟩)), (4, .bool false), (6, .int .i64 r5), (8, .int .i64 r8), (9, .pointer (some ⟨b13, 0, none⟩)), (10, .pointer (some ⟨b14, 0, none⟩)), (11, .pointer (some ⟨b15, 0, none⟩)), (45, .bool (r16 && (r4.toList == r7.toList)))]) (by kernel_rfl) ?_
  refine QL.both (fun b' => [(2, .pointer (some ⟨b1, 0, none⟩)), (4, .bool false), (6, .int .i64 r5), (8, .int .i64 r8), (9, .pointer (some ⟨b13, 0, none⟩)), (10, .pointer (some ⟨b14, 0, none⟩)), (11, .pointer (some ⟨b15, 0, none⟩)), (45, .bool b')]) (r16 && (r4.toList == r7.toList)) 4 [] [] [2, 4, 9, 10, 11, 49] [] [] (fun b' => [(2, .pointer (some ⟨b1, 0, none⟩)), (4, .bool false), (9, .pointer (some ⟨b13, 0, none⟩)), (10, .pointer (some ⟨b14, 0, none⟩)), (11, .pointer (some ⟨b15, 0, none⟩)), (49, .bool (b' && (r5 == r8)))]) (by kernel_rfl) (by kernel_rfl) ?_
  refine QL.run 1 [] [2, 4, 9, 10, 11, 50] [] [(2, .pointer (some ⟨b1, 0, none⟩)), (4, .bool false), (9, .pointer (some ⟨b13, 0, none⟩)), (10, .pointer (some ⟨b14, 0, none⟩)), (11, .pointer (some ⟨b15, 0, none⟩)), (50, .bool ((r16 && (r4.toList == r7.toList)) && (r5 == r8)))] (by kernel_rfl) ?_
  refine QL.sub [2, 4, 9, 10, 11, 50] (L' := [(2, .pointer (some ⟨b1, 0, none⟩)), (4, .bool false), (9, .pointer (some ⟨b13, 0, none⟩)), (10, .pointer (some ⟨b14, 0, none⟩)), (11, .pointer (some ⟨b15, 0, none⟩)), (50, .bool ((r16 && (r4.toList == r7.toList)) && (r5 == r8)))]) (by kernel_rfl) ?_
  refine QL.join (σ := Bool) 6 (fun st => gangwaylaw04_EtherBuilds.k3 r11 a0 t2 a1 st = some r) (fun st => [(4, .bool false), (9, .pointer (some ⟨b13, 0, none⟩)), (10, .pointer (some ⟨b14, 0, none⟩)), (11, .pointer (some ⟨b15, 0, none⟩)), (56, .bool st)]) (fun st hM => ?_) (fun K3 => ?_)
  ·
    obtain ⟨x23, rfl⟩ : ∃ y, y = st := ⟨st, rfl⟩
    replace hM : gangwaylaw04_EtherBuilds.k3 r11 a0 t2 a1 x23 = some r := hM
    unfold gangwaylaw04_EtherBuilds.k3 at hM
    show QL _ _ _ _ _ _ [(4, .bool false), (9, .pointer (some ⟨b13, 0, none⟩)), (10, .pointer (some ⟨b14, 0, none⟩)), (11, .pointer (some ⟨b15, 0, none⟩)), (56, .bool x23)]
    refine QL.run 1 [] [4, 9, 10, 11, 57] [] [(4, .bool false), (9, .pointer (some ⟨b13, 0, none⟩)), (10, .pointer (some ⟨b14, 0, none⟩)), (11, .pointer (some ⟨b15, 0, none⟩)), (57, .bool x23)] (by kernel_rfl) ?_
    refine QL.sub [4, 9, 10, 11, 57] (L' := [(4, .bool false), (9, .pointer (some ⟨b13, 0, none⟩)), (10, .pointer (some ⟨b14, 0, none⟩)), (11, .pointer (some ⟨b15, 0, none⟩)), (57, .bool x23)]) (by kernel_rfl) ?_
    refine QL.join (σ := Bool) 4 (fun st => gangwaylaw04_EtherBuilds.k2 r11 a0 t2 st = some r) (fun st => [(4, .bool false), (9, .pointer (some ⟨b13, 0, none⟩)), (11, .pointer (some ⟨b15, 0, none⟩)), (61, .bool st)]) (fun st hM => ?_) (fun K2 => ?_)
    ·
      obtain ⟨x25, rfl⟩ : ∃ y, y = st := ⟨st, rfl⟩
      replace hM : gangwaylaw04_EtherBuilds.k2 r11 a0 t2 x25 = some r := hM
      unfold gangwaylaw04_EtherBuilds.k2 at hM
      show QL _ _ _ _ _ _ [(4, .bool false), (9, .pointer (some ⟨b13, 0, none⟩)), (11, .pointer (some ⟨b15, 0, none⟩)), (61, .bool x25)]
      refine QL.run 1 [] [4, 9, 11, 62] [] [(4, .bool false), (9, .pointer (some ⟨b13, 0, none⟩)), (11, .pointer (some ⟨b15, 0, none⟩)), (62, .bool x25)] (by kernel_rfl) ?_
      refine QL.sub [4, 9, 11, 62] (L' := [(4, .bool false), (9, .pointer (some ⟨b13, 0, none⟩)), (11, .pointer (some ⟨b15, 0, none⟩)), (62, .bool x25)]) (by kernel_rfl) ?_
      refine QL.join (σ := Bool) 5 (fun st => gangwaylaw04_EtherBuilds.k1 st = some r) (fun st => [(4, .bool false), (67, .bool st)]) (fun st hM => ?_) (fun K1 => ?_)
      ·
        obtain ⟨x29, rfl⟩ : ∃ y, y = st := ⟨st, rfl⟩
        replace hM : gangwaylaw04_EtherBuilds.k1 x29 = some r := hM
        unfold gangwaylaw04_EtherBuilds.k1 at hM
        show QL _ _ _ _ _ _ [(4, .bool false), (67, .bool x29)]
        refine QL.run 1 [] [4] [] [(4, .bool x29)] (by kernel_rfl) ?_
        refine QL.done ?_
        refine WP.keep [false, false, false, false] (by kernel_rfl : _ = []) ?_
        obtain rfl := Option.some.inj hM
        exact WP.ret [] [] (.bool x29) (by kernel_rfl) (fun w' hw => ⟨rfl, hw.pick [] rfl⟩)
      ·
        refine QL.split (fun b' => [(4, .bool false), (9, .pointer (some ⟨b13, 0, none⟩)), (11, .pointer (some ⟨b15, 0, none⟩)), (62, .bool b')]) x25 (fun c26 => ?_) (fun c26 => ?_)
        · replace hM := cond_t hM c26
          refine QL.run 1 [1, 1, 1, 1, 1, 1, 1, 1] [4, 11, 62, 63] [b13, b13, b13, b13, b13, b13, b13, b13] [(4, .bool false), (11, .pointer (some ⟨b15, 0, none⟩)), (62, .bool true), (63, .agg #[.int .u64 r11.Dst, .int .u64 r11.Src, .bool r11.Tag.Has, .int .i64 r11.Tag.Pri, .bool r11.Tag.Dei, .int .i64 r11.Tag.Vid, .int .i64 r11.Type_, .string r11.Body])] (by kernel_rfl) ?_
          obtain ⟨r27, h28, hM⟩ := bind_some hM
          refine QL.callP [] [] (ether_Bare_calls r11 _ h28) (fun _ h => h) (by kernel_rfl) (by kernel_rfl) rfl ?_
          refine QL.run 1 [3, 3, 3, 3, 3, 3, 3, 3] [4, 62, 64, 65] [b15, b15, b15, b15, b15, b15, b15, b15] [(4, .bool false), (62, .bool true), (64, .agg #[.int .u64 r27.Dst, .int .u64 r27.Src, .bool r27.Tag.Has, .int .i64 r27.Tag.Pri, .bool r27.Tag.Dei, .int .i64 r27.Tag.Vid, .int .i64 r27.Type_, .string r27.Body]), (65, .agg #[.int .u64 a0.Dst, .int .u64 a0.Src, .bool false, .int .i64 0, .bool false, .int .i64 0, .int .i64 a0.Type_, .string t2])] (by kernel_rfl) ?_
          refine QL.val (fun _ => run_structEq (xs := #[.int .u64 r27.Dst, .int .u64 r27.Src, .bool r27.Tag.Has, .int .i64 r27.Tag.Pri, .bool r27.Tag.Dei, .int .i64 r27.Tag.Vid, .int .i64 r27.Type_, .string r27.Body]) (ys := #[.int .u64 a0.Dst, .int .u64 a0.Src, .bool false, .int .i64 0, .bool false, .int .i64 0, .int .i64 a0.Type_, .string t2]) (b := ((r27.Dst == a0.Dst) && ((r27.Src == a0.Src) && (((r27.Tag.Has == false) && ((r27.Tag.Pri == 0) && ((r27.Tag.Dei == false) && ((r27.Tag.Vid == 0) && true)))) && ((r27.Type_ == a0.Type_) && ((r27.Body == t2) && true)))))) (by kernel_rfl) (by kernel_rfl) (by kernel_rfl) (by kernel_rfl)) (by kernel_rfl) (by kernel_rfl) rfl ?_
          refine QL.run 1 [] [4, 67] [] [(4, .bool false), (67, .bool ((r27.Dst == a0.Dst) && ((r27.Src == a0.Src) && (((r27.Tag.Has == false) && ((r27.Tag.Pri == 0) && ((r27.Tag.Dei == false) && ((r27.Tag.Vid == 0) && true)))) && ((r27.Type_ == a0.Type_) && ((r27.Body == t2) && true))))))] (by kernel_rfl) ?_
          exact QL.sub [4, 67] (by kernel_rfl) (K1 ((r27.Dst == a0.Dst) && ((r27.Src == a0.Src) && (((r27.Tag.Has == false) && ((r27.Tag.Pri == 0) && ((r27.Tag.Dei == false) && ((r27.Tag.Vid == 0) && true)))) && ((r27.Type_ == a0.Type_) && ((r27.Body == t2) && true))))) hM)
        · replace hM := cond_f hM c26
          refine QL.run 5 [] [4, 67] [] [(4, .bool false), (67, .bool false)] (by kernel_rfl) ?_
          exact QL.sub [4, 67] (by kernel_rfl) (K1 false hM)
    ·
      refine QL.split (fun b' => [(4, .bool false), (9, .pointer (some ⟨b13, 0, none⟩)), (10, .pointer (some ⟨b14, 0, none⟩)), (11, .pointer (some ⟨b15, 0, none⟩)), (57, .bool b')]) x23 (fun c24 => ?_) (fun c24 => ?_)
      · replace hM := cond_t hM c24
        refine QL.run 2 [1, 1, 1, 1, 1, 1, 1, 1, 2, 2, 2, 2, 2, 2, 2, 2] [4, 9, 11, 57, 58, 59] [b13, b13, b13, b13, b13, b13, b13, b13, b14, b14, b14, b14, b14, b14, b14, b14] [(4, .bool false), (9, .pointer (some ⟨b13, 0, none⟩)), (11, .pointer (some ⟨b15, 0, none⟩)), (57, .bool true), (58, .agg #[.int .u64 r11.Dst, .int .u64 r11.Src, .bool r11.Tag.Has, .int .i64 r11.Tag.Pri, .bool r11.Tag.Dei, .int .i64 r11.Tag.Vid, .int .i64 r11.Type_, .string r11.Body]), (59, .agg #[.int .u64 a0.Dst, .int .u64 a0.Src, .bool a1.Has, .int .i64 a1.Pri, .bool a1.Dei, .int .i64 a1.Vid, .int .i64 a0.Type_, .string t2])] (by kernel_rfl) ?_
        refine QL.val (fun _ => run_structEq (xs := #[.int .u64 r11.Dst, .int .u64 r11.Src, .bool r11.Tag.Has, .int .i64 r11.Tag.Pri, .bool r11.Tag.Dei, .int .i64 r11.Tag.Vid, .int .i64 r11.Type_, .string r11.Body]) (ys := #[.int .u64 a0.Dst, .int .u64 a0.Src, .bool a1.Has, .int .i64 a1.Pri, .bool a1.Dei, .int .i64 a1.Vid, .int .i64 a0.Type_, .string t2]) (b := ((r11.Dst == a0.Dst) && ((r11.Src == a0.Src) && (((r11.Tag.Has == a1.Has) && ((r11.Tag.Pri == a1.Pri) && ((r11.Tag.Dei == a1.Dei) && ((r11.Tag.Vid == a1.Vid) && true)))) && ((r11.Type_ == a0.Type_) && ((r11.Body == t2) && true)))))) (by kernel_rfl) (by kernel_rfl) (by kernel_rfl) (by kernel_rfl)) (by kernel_rfl) (by kernel_rfl) rfl ?_
        refine QL.run 1 [] [4, 9, 11, 61] [] [(4, .bool false), (9, .pointer (some ⟨b13, 0, none⟩)), (11, .pointer (some ⟨b15, 0, none⟩)), (61, .bool ((r11.Dst == a0.Dst) && ((r11.Src == a0.Src) && (((r11.Tag.Has == a1.Has) && ((r11.Tag.Pri == a1.Pri) && ((r11.Tag.Dei == a1.Dei) && ((r11.Tag.Vid == a1.Vid) && true)))) && ((r11.Type_ == a0.Type_) && ((r11.Body == t2) && true))))))] (by kernel_rfl) ?_
        exact QL.sub [4, 9, 11, 61] (by kernel_rfl) (K2 ((r11.Dst == a0.Dst) && ((r11.Src == a0.Src) && (((r11.Tag.Has == a1.Has) && ((r11.Tag.Pri == a1.Pri) && ((r11.Tag.Dei == a1.Dei) && ((r11.Tag.Vid == a1.Vid) && true)))) && ((r11.Type_ == a0.Type_) && ((r11.Body == t2) && true))))) hM)
      · replace hM := cond_f hM c24
        refine QL.run 4 [] [4, 9, 11, 61] [] [(4, .bool false), (9, .pointer (some ⟨b13, 0, none⟩)), (11, .pointer (some ⟨b15, 0, none⟩)), (61, .bool false)] (by kernel_rfl) ?_
        exact QL.sub [4, 9, 11, 61] (by kernel_rfl) (K2 false hM)
  ·
    refine QL.split (fun b' => [(2, .pointer (some ⟨b1, 0, none⟩)), (4, .bool false), (9, .pointer (some ⟨b13, 0, none⟩)), (10, .pointer (some ⟨b14, 0, none⟩)), (11, .pointer (some ⟨b15, 0, none⟩)), (50, .bool b')]) ((r16 && (r4.toList == r7.toList)) && (r5 == r8)) (fun c18 => ?_) (fun c18 => ?_)
    · replace hM := cond_t hM c18
      refine QL.run 1 [0, 0, 0, 0, 0, 0, 0, 0] [2, 4, 9, 10, 11, 50, 51] [b1, b1, b1, b1, b1, b1, b1, b1] [(2, .pointer (some ⟨b1, 0, none⟩)), (4, .bool false), (9, .pointer (some ⟨b13, 0, none⟩)), (10, .pointer (some ⟨b14, 0, none⟩)), (11, .pointer (some ⟨b15, 0, none⟩)), (50, .bool true), (51, .agg #[.int .u64 a0.Dst, .int .u64 a0.Src, .bool a0.Tag.Has, .int .i64 a0.Tag.Pri, .bool a0.Tag.Dei, .int .i64 a0.Tag.Vid, .int .i64 a0.Type_, .string t2])] (by kernel_rfl) ?_
      obtain ⟨r19, h20, hM⟩ := bind_some hM
      refine QL.callP [] [] (ether_Check_calls (api_Frame.mk a0.Dst a0.Src a0.Tag a0.Type_ t2) _ h20) (fun _ h => h) (by kernel_rfl) (by kernel_rfl) rfl ?_
      refine QL.run 1 [0, 0, 0, 0, 0, 0, 0, 0] [4, 9, 10, 11, 50, 52, 53] [b1, b1, b1, b1, b1, b1, b1, b1] [(4, .bool false), (9, .pointer (some ⟨b13, 0, none⟩)), (10, .pointer (some ⟨b14, 0, none⟩)), (11, .pointer (some ⟨b15, 0, none⟩)), (50, .bool true), (52, .int .i64 r19), (53, .agg #[.int .u64 a0.Dst, .int .u64 a0.Src, .bool a0.Tag.Has, .int .i64 a0.Tag.Pri, .bool a0.Tag.Dei, .int .i64 a0.Tag.Vid, .int .i64 a0.Type_, .string t2])] (by kernel_rfl) ?_
      obtain ⟨r21, h22, hM⟩ := bind_some hM
      refine QL.callP [] [] (gangwayref04_Check_calls (api_Frame.mk a0.Dst a0.Src a0.Tag a0.Type_ t2) _ h22) (fun _ h => h) (by kernel_rfl) (by kernel_rfl) rfl ?_
      refine QL.run 2 [] [4, 9, 10, 11, 56] [] [(4, .bool false), (9, .pointer (some ⟨b13, 0, none⟩)), (10, .pointer (some ⟨b14, 0, none⟩)), (11, .pointer (some ⟨b15, 0, none⟩)), (56, .bool (r19 == r21))] (by kernel_rfl) ?_
      exact QL.sub [4, 9, 10, 11, 56] (by kernel_rfl) (K3 (r19 == r21) hM)
    · replace hM := cond_f hM c18
      refine QL.run 6 [] [4, 9, 10, 11, 56] [] [(4, .bool false), (9, .pointer (some ⟨b13, 0, none⟩)), (10, .pointer (some ⟨b14, 0, none⟩)), (11, .pointer (some ⟨b15, 0, none⟩)), (56, .bool false)] (by kernel_rfl) ?_
      exact QL.sub [4, 9, 10, 11, 56] (by kernel_rfl) (K3 false hM)

end Go.Proofs.YtefbjefmclhhjaaDoor
