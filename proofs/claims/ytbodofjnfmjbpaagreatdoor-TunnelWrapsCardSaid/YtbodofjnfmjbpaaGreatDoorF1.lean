/- The walks of the functions that the laws reach: each shows that a call returns what its plain model says, wherever the model gives an answer. -/
import Derived.Test.YtbodofjnfmjbpaaGreatDoorProg
import Derived.Shelf.Strings.OnBuilder
import Derived.Test.YtbodofjnfmjbpaaGreatDoorE2

namespace Go.Proofs.YtbodofjnfmjbpaaGreatDoor
open Go Eng
set_option linter.unusedVariables false

/-- What is known of the package-level variables. -/
def Glob : List Pr := [fun w => w.cell? ⟨0, 0, none⟩ = some (.iface 148 (.agg #[.pointer (some ⟨2, 73, none⟩)]))]

structure api_Udp where
  Src : Int
  Dst : Int
  NoSum : Bool
  Body : ByteArray

structure api_Seg where
  Vid : Int
  Vni : Int
  Peers : (List Int)

def api_Seg.encS (x : api_Seg) (s : (SkL Unit)) : List Value := [.int .i64 x.Vid, .int .i64 x.Vni, slcV s x.Peers.length]
def api_Seg.inK (x : api_Seg) (s : (SkL Unit)) : Pr := Row 1 (pl (encI .u32)) noK s x.Peers

abbrev Un0 : Type := (Option (Int × Int))
def Un0.v : Un0 → Value
  | none => .nilIface
  | some (q1, q2) => .iface 181 (.agg #[.int .i64 q1, .iface 30 (.int .i64 q2)])

structure ether_reader where
  s : ByteArray
  at_ : Int

abbrev Un1 : Type := (Option (ByteArray × Int))
def Un1.v : Un1 → Value
  | none => .nilIface
  | some (q1, q2) => .iface 183 (.agg #[.string q1, .iface 30 (.int .i64 q2)])

structure api_Tag where
  Has : Bool
  Pri : Int
  Dei : Bool
  Vid : Int

structure api_Frame where
  Dst : Int
  Src : Int
  Tag : api_Tag
  Type_ : Int
  Body : ByteArray

structure api_Ip where
  Tos : Int
  Id : Int
  Whole : Bool
  More : Bool
  Off : Int
  Ttl : Int
  Proto : Int
  Src : Int
  Dst : Int
  Body : ByteArray

structure station_why where
  n : Int

abbrev Un2 : Type := (Option (ByteArray × station_why))
def Un2.v : Un2 → Value
  | none => .nilIface
  | some (q1, q2) => .iface 138 (.agg #[.string q1, .iface 80 (.agg #[.int .i64 q2.n])])

structure api_Arp where
  Op : Int
  SMac : Int
  SIp : Int
  TMac : Int
  TIp : Int

structure inet_odd where
  err : Int

abbrev Un3 : Type := (Option inet_odd)
def Un3.v : Un3 → Value
  | none => .nilIface
  | some q1 => .iface 188 (.agg #[.int .i64 q1.err])

structure api_Got where
  Why : Int
  Src : Int
  U : api_Udp

structure gangwaylaw22_Way where
  Src : Int
  Dst : Int
  Id : Int
  Most : Int

end Go.Proofs.YtbodofjnfmjbpaaGreatDoor

namespace Go.Proofs.YtbodofjnfmjbpaaGreatDoor
open Go Eng
set_option linter.unusedVariables false
set_option linter.unusedSimpArgs false

/-! ### gangway/gangwayref01.Bytes: function 43 -/
def gangwayref01_Bytes.l1 (a1 : Int) : Nat → Int → ByteArray → Int → Option (ByteArray)
  | 0, _, _, _ => none
  | n + 1, x1, x2, x3 =>
    bif decide (x3 < a1) then
      (catS (ByteArray.push ByteArray.empty (UInt8.ofNat (Int.toNat (u8 (Int.tmod x1 256))))) x2).bind fun t6 =>
      gangwayref01_Bytes.l1 a1 n (u64 (Int.tdiv x1 256)) t6 (i64 (x3 + 1))
    else
      some x2

def gangwayref01_Bytes.f (k : Nat) (a0 : Int) (a1 : Int) : Option (ByteArray) :=
  gangwayref01_Bytes.l1 a1 k a0 (⟨#[]⟩ : ByteArray) 0

set_option maxRecDepth 100000 in
theorem gangwayref01_Bytes_calls (k : Nat) (a0 : Int) (a1 : Int) (r : ByteArray) (h : gangwayref01_Bytes.f k a0 a1 = some r) : Pure Tryz.prog Glob 43 #[.int .u64 a0, .int .i64 a1] (.string r) := by
  intro w Z hS
  refine calls_of (args := [.int .u64 a0, .int .i64 a1]) (L := [(0, .int .u64 a0), (1, .int .i64 a1)]) (N := 22) (S := Sat w Z [] [] Glob) Tryz.func43 rfl rfl (Nat.le_of_ble_eq_true rfl) rfl hS ?_
  have hM := h
  clear h hS
  unfold gangwayref01_Bytes.f at hM
  refine WP.seq ?_
  refine WP.run [] [0, 1, 4] (fun _ => [(0, .int .u64 a0), (1, .int .i64 a1), (4, .string (⟨#[]⟩ : ByteArray))]) (fun _ => []) (fun _ => []) (fun _ => by kernel_rfl) (fun _ => ?_)
  refine WP.seq ?_
  refine WP.run [] [0, 1, 4, 5] (fun _ => [(0, .int .u64 a0), (1, .int .i64 a1), (4, .string (⟨#[]⟩ : ByteArray)), (5, .string (⟨#[]⟩ : ByteArray))]) (fun _ => []) (fun _ => []) (fun _ => by kernel_rfl) (fun _ => ?_)
  refine WP.seq ?_
  refine WP.seq ?_
  refine WP.run [] [0, 1, 4, 5, 6] (fun _ => [(0, .int .u64 a0), (1, .int .i64 a1), (4, .string (⟨#[]⟩ : ByteArray)), (5, .string (⟨#[]⟩ : ByteArray)), (6, .int .i64 0)]) (fun _ => []) (fun _ => []) (fun _ => by kernel_rfl) (fun _ => ?_)
  refine WP.block ?_
  refine WP.sub [0, 1, 4, 5, 6] (L' := [(0, .int .u64 a0), (1, .int .i64 a1), (4, .string (⟨#[]⟩ : ByteArray)), (5, .string (⟨#[]⟩ : ByteArray)), (6, .int .i64 0)]) (by kernel_rfl) ?_
  refine WP.loop (σ := Int × ByteArray × Int) (fun n st => gangwayref01_Bytes.l1 a1 n st.1 st.2.1 st.2.2) r (fun st => [(0, .int .u64 st.1), (1, .int .i64 a1), (4, .string (⟨#[]⟩ : ByteArray)), (5, .string st.2.1), (6, .int .i64 st.2.2)]) (fun st => Sat w Z [] [] Glob) (st := (a0, (⟨#[]⟩ : ByteArray), 0)) (fun n st hM => ?_) hM
  rcases n with _ | n
  · exact nomatch (show (none : Option _) = some r from hM)
  obtain ⟨x1, x2, x3⟩ := st
  replace hM : gangwayref01_Bytes.l1 a1 (n + 1) x1 x2 x3 = some r := hM
  rw [gangwayref01_Bytes.l1] at hM
  show WP _ _ _ _ _ [(0, .int .u64 x1), (1, .int .i64 a1), (4, .string (⟨#[]⟩ : ByteArray)), (5, .string x2), (6, .int .i64 x3)] (Sat w Z [] [] Glob)
  refine WP.seq ?_
  refine WP.seq ?_
  refine WP.run [] [0, 1, 4, 5, 6, 7, 8, 9] (fun _ => [(0, .int .u64 x1), (1, .int .i64 a1), (4, .string (⟨#[]⟩ : ByteArray)), (5, .string x2), (6, .int .i64 x3), (7, .int .i64 x3), (8, .int .i64 a1), (9, .bool (decide (x3 < a1)))]) (fun _ => []) (fun _ => []) (fun _ => by kernel_rfl) (fun _ => ?_)
  refine WP.cond (decide (x3 < a1)) rfl rfl (fun c4 => ?_) (fun c4 => ?_)
  · replace hM := cond_t hM c4
    refine WP.skip ?_
    refine WP.seq ?_
    refine WP.block ?_
    refine WP.seq ?_
    refine WP.region ?_
    refine WL.run 6 [0] [0, 1, 4, 5, 6, 7, 8, 9, 12, 13, 14, 15, 16, 17] (fun b5 => [(0, .int .u64 x1), (1, .int .i64 a1), (4, .string (⟨#[]⟩ : ByteArray)), (5, .string x2), (6, .int .i64 x3), (7, .int .i64 x3), (8, .int .i64 a1), (9, .bool (decide (x3 < a1))), (12, .int .u64 x1), (13, .int .u64 (Int.tmod x1 256)), (14, .int .u8 (u8 (Int.tmod x1 256))), (15, .slice (some ⟨b5, 0, none⟩) 1 1), (16, .string (ByteArray.push ByteArray.empty (UInt8.ofNat (Int.toNat (u8 (Int.tmod x1 256)))))), (17, .string x2)]) (fun b5 => [(b5, .cells #[.int .u8 (u8 (Int.tmod x1 256))] 5 (0, 0))]) (fun b5 => [b5]) (fun b5 => by kernel_rfl) (fun b5 => ?_)
    obtain ⟨t6, h7, hM⟩ := bind_some hM
    refine WL.val (fun _ => run_catS (a := (ByteArray.push ByteArray.empty (UInt8.ofNat (Int.toNat (u8 (Int.tmod x1 256)))))) (b := x2) (by kernel_rfl) (by kernel_rfl) h7) (by kernel_rfl) (by kernel_rfl) rfl ?_
    refine WL.run 1 [] [0, 1, 4, 5, 6, 7, 8, 9, 12, 13, 14, 15, 16, 17, 18] (fun _ => [(0, .int .u64 x1), (1, .int .i64 a1), (4, .string (⟨#[]⟩ : ByteArray)), (5, .string t6), (6, .int .i64 x3), (7, .int .i64 x3), (8, .int .i64 a1), (9, .bool (decide (x3 < a1))), (12, .int .u64 x1), (13, .int .u64 (Int.tmod x1 256)), (14, .int .u8 (u8 (Int.tmod x1 256))), (15, .slice (some ⟨b5, 0, none⟩) 1 1), (16, .string (ByteArray.push ByteArray.empty (UInt8.ofNat (Int.toNat (u8 (Int.tmod x1 256)))))), (17, .string x2), (18, .string t6)]) (fun _ => [(b5, .cells #[.int .u8 (u8 (Int.tmod x1 256))] 5 (0, 0))]) (fun _ => []) (fun _ => by kernel_rfl) (fun _ => ?_)
    refine WP.done ?_
    refine WP.run [] [0, 1, 4, 5, 6, 7, 8, 9, 12, 13, 14, 15, 16, 17, 18, 19, 20] (fun _ => [(0, .int .u64 (u64 (Int.tdiv x1 256))), (1, .int .i64 a1), (4, .string (⟨#[]⟩ : ByteArray)), (5, .string t6), (6, .int .i64 x3), (7, .int .i64 x3), (8, .int .i64 a1), (9, .bool (decide (x3 < a1))), (12, .int .u64 x1), (13, .int .u64 (Int.tmod x1 256)), (14, .int .u8 (u8 (Int.tmod x1 256))), (15, .slice (some ⟨b5, 0, none⟩) 1 1), (16, .string (ByteArray.push ByteArray.empty (UInt8.ofNat (Int.toNat (u8 (Int.tmod x1 256)))))), (17, .string x2), (18, .string t6), (19, .int .u64 x1), (20, .int .u64 (u64 (Int.tdiv x1 256)))]) (fun _ => [(b5, .cells #[.int .u8 (u8 (Int.tmod x1 256))] 5 (0, 0))]) (fun _ => []) (fun _ => by kernel_rfl) (fun _ => ?_)
    refine WP.leave ?_
    refine WP.run [] [0, 1, 4, 5, 6, 7, 8, 9, 10, 11, 12, 13, 14, 15, 16, 17, 18, 19, 20] (fun _ => [(0, .int .u64 (u64 (Int.tdiv x1 256))), (1, .int .i64 a1), (4, .string (⟨#[]⟩ : ByteArray)), (5, .string t6), (6, .int .i64 (i64 (x3 + 1))), (7, .int .i64 x3), (8, .int .i64 a1), (9, .bool (decide (x3 < a1))), (10, .int .i64 x3), (11, .int .i64 (i64 (x3 + 1))), (12, .int .u64 x1), (13, .int .u64 (Int.tmod x1 256)), (14, .int .u8 (u8 (Int.tmod x1 256))), (15, .slice (some ⟨b5, 0, none⟩) 1 1), (16, .string (ByteArray.push ByteArray.empty (UInt8.ofNat (Int.toNat (u8 (Int.tmod x1 256)))))), (17, .string x2), (18, .string t6), (19, .int .u64 x1), (20, .int .u64 (u64 (Int.tdiv x1 256)))]) (fun _ => [(b5, .cells #[.int .u8 (u8 (Int.tmod x1 256))] 5 (0, 0))]) (fun _ => []) (fun _ => by kernel_rfl) (fun _ => ?_)
    exact WP.again' [0, 1, 4, 5, 6] (u64 (Int.tdiv x1 256), t6, i64 (x3 + 1)) hM (by kernel_rfl) (fun _ h => h.pick [] (by kernel_rfl))
  · replace hM := cond_f hM c4
    refine WP.exit rfl ?_
    refine WP.seq ?_
    refine WP.run [] [4] (fun _ => [(4, .string x2)]) (fun _ => []) (fun _ => []) (fun _ => by kernel_rfl) (fun _ => ?_)
    obtain rfl := Option.some.inj hM
    exact WP.ret [] [] (.string x2) (by kernel_rfl) (fun w' hw => ⟨rfl, hw.pick [] rfl⟩)

end Go.Proofs.YtbodofjnfmjbpaaGreatDoor

namespace Go.Proofs.YtbodofjnfmjbpaaGreatDoor
open Go Eng
set_option linter.unusedVariables false
set_option linter.unusedSimpArgs false

/-! ### gangway/gangwayref08.Build: function 22 -/
def gangwayref08_Build.f (k : Nat) (a0 : Int) (a1 : ByteArray) : Option (ByteArray × Int) :=
  bif ((decide (a0 < 0)) || (decide (a0 > 16777215))) then
    some ((⟨#[]⟩ : ByteArray), 1)
  else
    (gangwayref01_Bytes.f k (u64 ((u64 a0) * 256)) 4).bind fun r2 =>
    (catS (⟨#[8, 0, 0, 0]⟩ : ByteArray) r2).bind fun t4 =>
    (catS t4 a1).bind fun t6 =>
    some (t6, 0)

set_option maxRecDepth 100000 in
theorem gangwayref08_Build_calls (k : Nat) (a0 : Int) (a1 : ByteArray) (r : ByteArray × Int) (h : gangwayref08_Build.f k a0 a1 = some r) : Pure Tryz.prog Glob 22 #[.int .i64 a0, .string a1] (.tuple #[.string r.1, .int .i64 r.2]) := by
  intro w Z hS
  refine calls_of (args := [.int .i64 a0, .string a1]) (L := [(0, .int .i64 a0), (1, .string a1)]) (N := 19) (S := Sat w Z [] [] Glob) Tryz.func22 rfl rfl (Nat.le_of_ble_eq_true rfl) rfl hS ?_
  have hM := h
  clear h hS
  unfold gangwayref08_Build.f at hM
  refine WP.seq ?_
  refine WP.run [] [0, 1, 4, 5] (fun _ => [(0, .int .i64 a0), (1, .string a1), (4, .string (⟨#[]⟩ : ByteArray)), (5, .int .i64 0)]) (fun _ => []) (fun _ => []) (fun _ => by kernel_rfl) (fun _ => ?_)
  refine WP.seq ?_
  refine WP.seq ?_
  refine WP.region ?_
  refine WL.run 3 [] [0, 1, 4, 5, 8] (fun _ => [(0, .int .i64 a0), (1, .string a1), (4, .string (⟨#[]⟩ : ByteArray)), (5, .int .i64 0), (8, .bool (decide (a0 < 0)))]) (fun _ => []) (fun _ => []) (fun _ => by kernel_rfl) (fun _ => ?_)
  refine WL.sub [0, 1, 4, 5, 8] (L' := [(0, .int .i64 a0), (1, .string a1), (4, .string (⟨#[]⟩ : ByteArray)), (5, .int .i64 0), (8, .bool (decide (a0 < 0)))]) (by kernel_rfl) ?_
  refine WL.both (fun b' => [(0, .int .i64 a0), (1, .string a1), (4, .string (⟨#[]⟩ : ByteArray)), (5, .int .i64 0), (8, .bool b')]) (decide (a0 < 0)) 3 [] [] [0, 1, 4, 5, 11] (fun b' => [(0, .int .i64 a0), (1, .string a1), (4, .string (⟨#[]⟩ : ByteArray)), (5, .int .i64 0), (11, .bool (b' || (decide (a0 > 16777215))))]) [] [] (fun _ => by kernel_rfl) (fun _ => by kernel_rfl) ?_
  refine WP.done ?_
  refine WP.cond ((decide (a0 < 0)) || (decide (a0 > 16777215))) rfl rfl (fun c1 => ?_) (fun c1 => ?_)
  · replace hM := cond_t hM c1
    refine WP.seq ?_
    refine WP.run [] [0, 1, 4, 5] (fun _ => [(0, .int .i64 a0), (1, .string a1), (4, .string (⟨#[]⟩ : ByteArray)), (5, .int .i64 1)]) (fun _ => []) (fun _ => []) (fun _ => by kernel_rfl) (fun _ => ?_)
    obtain rfl := Option.some.inj hM
    exact WP.ret [] [] (.tuple #[.string (⟨#[]⟩ : ByteArray), .int .i64 1]) (by kernel_rfl) (fun w' hw => ⟨rfl, hw.pick [] rfl⟩)
  · replace hM := cond_f hM c1
    refine WP.skip ?_
    refine WP.seq ?_
    refine WP.region ?_
    refine WL.run 3 [] [1, 4, 5, 14] (fun _ => [(1, .string a1), (4, .string (⟨#[]⟩ : ByteArray)), (5, .int .i64 0), (14, .int .u64 (u64 ((u64 a0) * 256)))]) (fun _ => []) (fun _ => []) (fun _ => by kernel_rfl) (fun _ => ?_)
    obtain ⟨r2, h3, hM⟩ := bind_some hM
    refine WL.callP [] [] (gangwayref01_Bytes_calls k (u64 ((u64 a0) * 256)) 4 _ h3) (fun _ h => h) (by kernel_rfl) (by kernel_rfl) rfl ?_
    obtain ⟨t4, h5, hM⟩ := bind_some hM
    refine WL.val (fun _ => run_catS (a := (⟨#[8, 0, 0, 0]⟩ : ByteArray)) (b := r2) (by kernel_rfl) (by kernel_rfl) h5) (by kernel_rfl) (by kernel_rfl) rfl ?_
    refine WL.run 1 [] [4, 5, 16, 17] (fun _ => [(4, .string (⟨#[]⟩ : ByteArray)), (5, .int .i64 0), (16, .string t4), (17, .string a1)]) (fun _ => []) (fun _ => []) (fun _ => by kernel_rfl) (fun _ => ?_)
    obtain ⟨t6, h7, hM⟩ := bind_some hM
    refine WL.val (fun _ => run_catS (a := t4) (b := a1) (by kernel_rfl) (by kernel_rfl) h7) (by kernel_rfl) (by kernel_rfl) rfl ?_
    refine WL.run 2 [] [4, 5] (fun _ => [(4, .string t6), (5, .int .i64 0)]) (fun _ => []) (fun _ => []) (fun _ => by kernel_rfl) (fun _ => ?_)
    refine WP.done ?_
    obtain rfl := Option.some.inj hM
    exact WP.ret [] [] (.tuple #[.string t6, .int .i64 0]) (by kernel_rfl) (fun w' hw => ⟨rfl, hw.pick [] rfl⟩)

end Go.Proofs.YtbodofjnfmjbpaaGreatDoor

namespace Go.Proofs.YtbodofjnfmjbpaaGreatDoor
open Go Eng
set_option linter.unusedVariables false
set_option linter.unusedSimpArgs false

/-! ### gangway/gangwayref08.Hash: function 46 -/
def gangwayref08_Hash.l1 (a0 : ByteArray) : Nat → Int → Int → Option (Int)
  | 0, _, _ => none
  | n + 1, x1, x2 =>
    bif decide (x2 < (a0.size : Int)) then
      (idxS a0 x2).bind fun t4 =>
      gangwayref08_Hash.l1 a0 n (Int.tmod (u64 ((bXor .u64 x1 (u64 t4)) * 16777619)) 4294967296) (i64 (x2 + 1))
    else
      some (u32 x1)

def gangwayref08_Hash.f (k : Nat) (a0 : ByteArray) : Option (Int) :=
  gangwayref08_Hash.l1 a0 k 2166136261 0

set_option maxRecDepth 100000 in
theorem gangwayref08_Hash_calls (k : Nat) (a0 : ByteArray) (r : Int) (h : gangwayref08_Hash.f k a0 = some r) : Pure Tryz.prog Glob 46 #[.string a0] (.int .u32 r) := by
  intro w Z hS
  refine calls_of (args := [.string a0]) (L := [(0, .string a0)]) (N := 21) (S := Sat w Z [] [] Glob) Tryz.func46 rfl rfl (Nat.le_of_ble_eq_true rfl) rfl hS ?_
  have hM := h
  clear h hS
  unfold gangwayref08_Hash.f at hM
  refine WP.seq ?_
  refine WP.run [] [0, 2] (fun _ => [(0, .string a0), (2, .int .u32 0)]) (fun _ => []) (fun _ => []) (fun _ => by kernel_rfl) (fun _ => ?_)
  refine WP.seq ?_
  refine WP.run [] [0, 2, 3] (fun _ => [(0, .string a0), (2, .int .u32 0), (3, .int .u64 2166136261)]) (fun _ => []) (fun _ => []) (fun _ => by kernel_rfl) (fun _ => ?_)
  refine WP.seq ?_
  refine WP.seq ?_
  refine WP.run [] [0, 2, 3, 4] (fun _ => [(0, .string a0), (2, .int .u32 0), (3, .int .u64 2166136261), (4, .int .i64 0)]) (fun _ => []) (fun _ => []) (fun _ => by kernel_rfl) (fun _ => ?_)
  refine WP.block ?_
  refine WP.sub [0, 2, 3, 4] (L' := [(0, .string a0), (2, .int .u32 0), (3, .int .u64 2166136261), (4, .int .i64 0)]) (by kernel_rfl) ?_
  refine WP.loop (σ := Int × Int) (fun n st => gangwayref08_Hash.l1 a0 n st.1 st.2) r (fun st => [(0, .string a0), (2, .int .u32 0), (3, .int .u64 st.1), (4, .int .i64 st.2)]) (fun st => Sat w Z [] [] Glob) (st := (2166136261, 0)) (fun n st hM => ?_) hM
  rcases n with _ | n
  · exact nomatch (show (none : Option _) = some r from hM)
  obtain ⟨x1, x2⟩ := st
  replace hM : gangwayref08_Hash.l1 a0 (n + 1) x1 x2 = some r := hM
  rw [gangwayref08_Hash.l1] at hM
  show WP _ _ _ _ _ [(0, .string a0), (2, .int .u32 0), (3, .int .u64 x1), (4, .int .i64 x2)] (Sat w Z [] [] Glob)
  refine WP.seq ?_
  refine WP.seq ?_
  refine WP.run [] [0, 2, 3, 4, 5, 6, 7, 8] (fun _ => [(0, .string a0), (2, .int .u32 0), (3, .int .u64 x1), (4, .int .i64 x2), (5, .int .i64 x2), (6, .string a0), (7, .int .i64 (a0.size : Int)), (8, .bool (decide (x2 < (a0.size : Int))))]) (fun _ => []) (fun _ => []) (fun _ => by kernel_rfl) (fun _ => ?_)
  refine WP.cond (decide (x2 < (a0.size : Int))) rfl rfl (fun c3 => ?_) (fun c3 => ?_)
  · replace hM := cond_t hM c3
    refine WP.skip ?_
    refine WP.seq ?_
    refine WP.block ?_
    refine WP.region ?_
    refine WL.run 3 [] [0, 2, 3, 4, 5, 6, 7, 8, 11, 12, 13] (fun _ => [(0, .string a0), (2, .int .u32 0), (3, .int .u64 x1), (4, .int .i64 x2), (5, .int .i64 x2), (6, .string a0), (7, .int .i64 (a0.size : Int)), (8, .bool (decide (x2 < (a0.size : Int)))), (11, .int .u64 x1), (12, .string a0), (13, .int .i64 x2)]) (fun _ => []) (fun _ => []) (fun _ => by kernel_rfl) (fun _ => ?_)
    obtain ⟨t4, h5, hM⟩ := bind_some hM
    refine WL.val (fun _ => run_idxS (s := a0) (k := .i64) (i := x2) (by kernel_rfl) (by kernel_rfl) (by kernel_rfl) h5) (by kernel_rfl) (by kernel_rfl) rfl ?_
    refine WL.run 5 [] [0, 2, 3, 4, 5, 6, 7, 8, 11, 12, 13, 14, 15, 16, 17, 18] (fun _ => [(0, .string a0), (2, .int .u32 0), (3, .int .u64 (Int.tmod (u64 ((bXor .u64 x1 (u64 t4)) * 16777619)) 4294967296)), (4, .int .i64 x2), (5, .int .i64 x2), (6, .string a0), (7, .int .i64 (a0.size : Int)), (8, .bool (decide (x2 < (a0.size : Int)))), (11, .int .u64 x1), (12, .string a0), (13, .int .i64 x2), (14, .int .u8 t4), (15, .int .u64 (u64 t4)), (16, .int .u64 (bXor .u64 x1 (u64 t4))), (17, .int .u64 (u64 ((bXor .u64 x1 (u64 t4)) * 16777619))), (18, .int .u64 (Int.tmod (u64 ((bXor .u64 x1 (u64 t4)) * 16777619)) 4294967296))]) (fun _ => []) (fun _ => []) (fun _ => by kernel_rfl) (fun _ => ?_)
    refine WP.done ?_
    refine WP.leave ?_
    refine WP.run [] [0, 2, 3, 4, 5, 6, 7, 8, 9, 10, 11, 12, 13, 14, 15, 16, 17, 18] (fun _ => [(0, .string a0), (2, .int .u32 0), (3, .int .u64 (Int.tmod (u64 ((bXor .u64 x1 (u64 t4)) * 16777619)) 4294967296)), (4, .int .i64 (i64 (x2 + 1))), (5, .int .i64 x2), (6, .string a0), (7, .int .i64 (a0.size : Int)), (8, .bool (decide (x2 < (a0.size : Int)))), (9, .int .i64 x2), (10, .int .i64 (i64 (x2 + 1))), (11, .int .u64 x1), (12, .string a0), (13, .int .i64 x2), (14, .int .u8 t4), (15, .int .u64 (u64 t4)), (16, .int .u64 (bXor .u64 x1 (u64 t4))), (17, .int .u64 (u64 ((bXor .u64 x1 (u64 t4)) * 16777619))), (18, .int .u64 (Int.tmod (u64 ((bXor .u64 x1 (u64 t4)) * 16777619)) 4294967296))]) (fun _ => []) (fun _ => []) (fun _ => by kernel_rfl) (fun _ => ?_)
    exact WP.again' [0, 2, 3, 4] (Int.tmod (u64 ((bXor .u64 x1 (u64 t4)) * 16777619)) 4294967296, i64 (x2 + 1)) hM (by kernel_rfl) (fun _ h => h.pick [] (by kernel_rfl))
  · replace hM := cond_f hM c3
    refine WP.exit rfl ?_
    refine WP.seq ?_
    refine WP.run [] [2] (fun _ => [(2, .int .u32 (u32 x1))]) (fun _ => []) (fun _ => []) (fun _ => by kernel_rfl) (fun _ => ?_)
    obtain rfl := Option.some.inj hM
    exact WP.ret [] [] (.int .u32 (u32 x1)) (by kernel_rfl) (fun w' hw => ⟨rfl, hw.pick [] rfl⟩)

end Go.Proofs.YtbodofjnfmjbpaaGreatDoor

namespace Go.Proofs.YtbodofjnfmjbpaaGreatDoor
open Go Eng
set_option linter.unusedVariables false
set_option linter.unusedSimpArgs false

/-! ### gangway/gangwayref08.Port: function 24 -/
def gangwayref08_Port.k1 (k : Nat) (x4 : ByteArray) : Option (Int) :=
  (gangwayref08_Hash.f k x4).bind fun r5 =>
  some (i64 (49152 + (i64 (Int.tmod r5 16384))))

def gangwayref08_Port.f (k : Nat) (a0 : ByteArray) : Option (Int) :=
  bif decide ((a0.size : Int) > 14) then
    (sliceS a0 0 14).bind fun t2 =>
    gangwayref08_Port.k1 k t2
  else
    gangwayref08_Port.k1 k a0

set_option maxRecDepth 100000 in
theorem gangwayref08_Port_calls (k : Nat) (a0 : ByteArray) (r : Int) (h : gangwayref08_Port.f k a0 = some r) : Pure Tryz.prog Glob 24 #[.string a0] (.int .i64 r) := by
  intro w Z hS
  refine calls_of (args := [.string a0]) (L := [(0, .string a0)]) (N := 13) (S := Sat w Z [] [] Glob) Tryz.func24 rfl rfl (Nat.le_of_ble_eq_true rfl) rfl hS ?_
  have hM := h
  clear h hS
  unfold gangwayref08_Port.f at hM
  refine WP.seq ?_
  refine WP.run [] [0, 2] (fun _ => [(0, .string a0), (2, .int .i64 0)]) (fun _ => []) (fun _ => []) (fun _ => by kernel_rfl) (fun _ => ?_)
  refine WP.seqJoin (σ := ByteArray) (fun st => gangwayref08_Port.k1 k st = some r) (fun st => [(0, .string st), (2, .int .i64 0)]) (fun st => Sat w Z [] [] Glob) (fun st hM => ?_) (fun K1 => ?_)
  ·
    obtain ⟨x4, rfl⟩ : ∃ y, y = st := ⟨st, rfl⟩
    replace hM : gangwayref08_Port.k1 k x4 = some r := hM
    unfold gangwayref08_Port.k1 at hM
    show WP _ _ _ _ _ [(0, .string x4), (2, .int .i64 0)] (Sat w Z [] [] Glob)
    refine WP.seq ?_
    refine WP.region ?_
    refine WL.run 1 [] [2, 8] (fun _ => [(2, .int .i64 0), (8, .string x4)]) (fun _ => []) (fun _ => []) (fun _ => by kernel_rfl) (fun _ => ?_)
    obtain ⟨r5, h6, hM⟩ := bind_some hM
    refine WL.callP [] [] (gangwayref08_Hash_calls k x4 _ h6) (fun _ h => h) (by kernel_rfl) (by kernel_rfl) rfl ?_
    refine WL.run 4 [] [2] (fun _ => [(2, .int .i64 (i64 (49152 + (i64 (Int.tmod r5 16384)))))]) (fun _ => []) (fun _ => []) (fun _ => by kernel_rfl) (fun _ => ?_)
    refine WP.done ?_
    obtain rfl := Option.some.inj hM
    exact WP.ret [] [] (.int .i64 (i64 (49152 + (i64 (Int.tmod r5 16384))))) (by kernel_rfl) (fun w' hw => ⟨rfl, hw.pick [] rfl⟩)
  ·
    refine WP.seq ?_
    refine WP.run [] [0, 2, 5] (fun _ => [(0, .string a0), (2, .int .i64 0), (5, .bool (decide ((a0.size : Int) > 14)))]) (fun _ => []) (fun _ => []) (fun _ => by kernel_rfl) (fun _ => ?_)
    refine WP.cond (decide ((a0.size : Int) > 14)) rfl rfl (fun c1 => ?_) (fun c1 => ?_)
    · replace hM := cond_t hM c1
      refine WP.region ?_
      refine WL.run 1 [] [0, 2, 6] (fun _ => [(0, .string a0), (2, .int .i64 0), (6, .string a0)]) (fun _ => []) (fun _ => []) (fun _ => by kernel_rfl) (fun _ => ?_)
      obtain ⟨t2, h3, hM⟩ := bind_some hM
      refine WL.val (fun _ => run_sliceS_hi (s := a0) (kh := .i64) (h := 14) (by kernel_rfl) (by kernel_rfl) (by kernel_rfl) h3) (by kernel_rfl) (by kernel_rfl) rfl ?_
      refine WL.run 1 [] [0, 2] (fun _ => [(0, .string t2), (2, .int .i64 0)]) (fun _ => []) (fun _ => []) (fun _ => by kernel_rfl) (fun _ => ?_)
      refine WP.done ?_
      exact WP.sub [0, 2] (by kernel_rfl) (WP.pick [] (by kernel_rfl) (by kernel_rfl) (K1 t2 hM))
    · replace hM := cond_f hM c1
      refine WP.skip ?_
      exact WP.sub [0, 2] (by kernel_rfl) (WP.pick [] (by kernel_rfl) (by kernel_rfl) (K1 a0 hM))

end Go.Proofs.YtbodofjnfmjbpaaGreatDoor

namespace Go.Proofs.YtbodofjnfmjbpaaGreatDoor
open Go Eng
set_option linter.unusedVariables false
set_option linter.unusedSimpArgs false

/-! ### gangway/gangwayref07.Check: function 73 -/
def gangwayref07_Check.f (a0 : api_Udp) : Option (Int) :=
  bif ((((Int.fdiv a0.Src 65536) != 0) || ((Int.fdiv a0.Dst 65536) != 0)) || (decide ((a0.Body.size : Int) > 65507))) then
    some 71
  else
    some 0

set_option maxRecDepth 100000 in
theorem gangwayref07_Check_calls (a0 : api_Udp) (r : Int) (h : gangwayref07_Check.f a0 = some r) : Pure Tryz.prog Glob 73 #[.agg #[.int .i64 a0.Src, .int .i64 a0.Dst, .bool a0.NoSum, .string a0.Body]] (.int .i64 r) := by
  intro w Z hS
  refine calls_of (args := [.agg #[.int .i64 a0.Src, .int .i64 a0.Dst, .bool a0.NoSum, .string a0.Body]]) (L := [(0, .agg #[.int .i64 a0.Src, .int .i64 a0.Dst, .bool a0.NoSum, .string a0.Body])]) (N := 19) (S := Sat w Z [] [] Glob) Tryz.func73 rfl rfl (Nat.le_of_ble_eq_true rfl) rfl hS ?_
  have hM := h
  clear h hS
  unfold gangwayref07_Check.f at hM
  refine WP.seq ?_
  refine WP.run [] [1, 2] (fun b1 => [(1, .pointer (some ⟨b1, 0, none⟩)), (2, .int .i64 0)]) (fun b1 => [(b1, .cells #[.int .i64 a0.Src, .int .i64 a0.Dst, .bool a0.NoSum, .string a0.Body] 40 (0, 0))]) (fun b1 => []) (fun b1 => by kernel_rfl) (fun b1 => ?_)
  refine WP.seq ?_
  refine WP.seq ?_
  refine WP.region ?_
  refine WL.run 5 [0] [1, 2, 7] (fun _ => [(1, .pointer (some ⟨b1, 0, none⟩)), (2, .int .i64 0), (7, .bool ((Int.fdiv a0.Src 65536) != 0))]) (fun _ => [(b1, .cells #[.int .i64 a0.Src, .int .i64 a0.Dst, .bool a0.NoSum, .string a0.Body] 40 (0, 0))]) (fun _ => [b1]) (fun _ => by kernel_rfl) (fun _ => ?_)
  refine WL.sub [1, 2, 7] (L' := [(1, .pointer (some ⟨b1, 0, none⟩)), (2, .int .i64 0), (7, .bool ((Int.fdiv a0.Src 65536) != 0))]) (by kernel_rfl) ?_
  refine WL.both (fun b' => [(1, .pointer (some ⟨b1, 0, none⟩)), (2, .int .i64 0), (7, .bool b')]) ((Int.fdiv a0.Src 65536) != 0) 5 [] [0] [1, 2, 12] (fun b' => [(1, .pointer (some ⟨b1, 0, none⟩)), (2, .int .i64 0), (12, .bool (b' || ((Int.fdiv a0.Dst 65536) != 0)))]) [] [b1] (fun _ => by kernel_rfl) (fun _ => by kernel_rfl) ?_
  refine WL.run 1 [] [1, 2, 13] (fun _ => [(1, .pointer (some ⟨b1, 0, none⟩)), (2, .int .i64 0), (13, .bool (((Int.fdiv a0.Src 65536) != 0) || ((Int.fdiv a0.Dst 65536) != 0)))]) (fun _ => [(b1, .cells #[.int .i64 a0.Src, .int .i64 a0.Dst, .bool a0.NoSum, .string a0.Body] 40 (0, 0))]) (fun _ => []) (fun _ => by kernel_rfl) (fun _ => ?_)
  refine WL.sub [1, 2, 13] (L' := [(1, .pointer (some ⟨b1, 0, none⟩)), (2, .int .i64 0), (13, .bool (((Int.fdiv a0.Src 65536) != 0) || ((Int.fdiv a0.Dst 65536) != 0)))]) (by kernel_rfl) ?_
  refine WL.both (fun b' => [(1, .pointer (some ⟨b1, 0, none⟩)), (2, .int .i64 0), (13, .bool b')]) (((Int.fdiv a0.Src 65536) != 0) || ((Int.fdiv a0.Dst 65536) != 0)) 5 [] [0] [2, 18] (fun b' => [(2, .int .i64 0), (18, .bool (b' || (decide ((a0.Body.size : Int) > 65507))))]) [] [b1] (fun _ => by kernel_rfl) (fun _ => by kernel_rfl) ?_
  refine WP.done ?_
  refine WP.keep [false] (by kernel_rfl : _ = []) ?_
  refine WP.cond ((((Int.fdiv a0.Src 65536) != 0) || ((Int.fdiv a0.Dst 65536) != 0)) || (decide ((a0.Body.size : Int) > 65507))) rfl rfl (fun c2 => ?_) (fun c2 => ?_)
  · replace hM := cond_t hM c2
    refine WP.seq ?_
    refine WP.run [] [2] (fun _ => [(2, .int .i64 71)]) (fun _ => []) (fun _ => []) (fun _ => by kernel_rfl) (fun _ => ?_)
    obtain rfl := Option.some.inj hM
    exact WP.ret [] [] (.int .i64 71) (by kernel_rfl) (fun w' hw => ⟨rfl, hw.pick [] rfl⟩)
  · replace hM := cond_f hM c2
    refine WP.skip ?_
    refine WP.seq ?_
    refine WP.run [] [2] (fun _ => [(2, .int .i64 0)]) (fun _ => []) (fun _ => []) (fun _ => by kernel_rfl) (fun _ => ?_)
    obtain rfl := Option.some.inj hM
    exact WP.ret [] [] (.int .i64 0) (by kernel_rfl) (fun w' hw => ⟨rfl, hw.pick [] rfl⟩)

end Go.Proofs.YtbodofjnfmjbpaaGreatDoor

namespace Go.Proofs.YtbodofjnfmjbpaaGreatDoor
open Go Eng
set_option linter.unusedVariables false
set_option linter.unusedSimpArgs false

/-! ### gangway/gangwayref03.low: function 100 -/
def gangwayref03_low.f (a0 : Int) : Option (Int) :=
  some (Int.tmod (i64 ((Int.tmod a0 65536) + 65536)) 65536)

set_option maxRecDepth 100000 in
theorem gangwayref03_low_calls (a0 : Int) (r : Int) (h : gangwayref03_low.f a0 = some r) : Pure Tryz.prog Glob 100 #[.int .i64 a0] (.int .i64 r) := by
  intro w Z hS
  refine calls_of (args := [.int .i64 a0]) (L := [(0, .int .i64 a0)]) (N := 7) (S := Sat w Z [] [] Glob) Tryz.func100 rfl rfl (Nat.le_of_ble_eq_true rfl) rfl hS ?_
  have hM := h
  clear h hS
  unfold gangwayref03_low.f at hM
  refine WP.seq ?_
  refine WP.run [] [0, 2] (fun _ => [(0, .int .i64 a0), (2, .int .i64 0)]) (fun _ => []) (fun _ => []) (fun _ => by kernel_rfl) (fun _ => ?_)
  refine WP.seq ?_
  refine WP.run [] [2] (fun _ => [(2, .int .i64 (Int.tmod (i64 ((Int.tmod a0 65536) + 65536)) 65536))]) (fun _ => []) (fun _ => []) (fun _ => by kernel_rfl) (fun _ => ?_)
  obtain rfl := Option.some.inj hM
  exact WP.ret [] [] (.int .i64 (Int.tmod (i64 ((Int.tmod a0 65536) + 65536)) 65536)) (by kernel_rfl) (fun w' hw => ⟨rfl, hw.pick [] rfl⟩)

end Go.Proofs.YtbodofjnfmjbpaaGreatDoor

namespace Go.Proofs.YtbodofjnfmjbpaaGreatDoor
open Go Eng
set_option linter.unusedVariables false
set_option linter.unusedSimpArgs false

/-! ### gangway/gangwayref03.Head: function 75 -/
def gangwayref03_Head.f (k : Nat) (a0 : Int) (a1 : Int) (a2 : Int) (a3 : Int) : Option (ByteArray) :=
  (gangwayref01_Bytes.f k (u64 a0) 4).bind fun r1 =>
  (gangwayref01_Bytes.f k (u64 a1) 4).bind fun r3 =>
  (catS r1 r3).bind fun t5 =>
  (gangwayref01_Bytes.f k (u64 (u8 a2)) 2).bind fun r7 =>
  (catS t5 r7).bind fun t9 =>
  (gangwayref03_low.f a3).bind fun r11 =>
  (gangwayref01_Bytes.f k (u64 r11) 2).bind fun r13 =>
  (catS t9 r13).bind fun t15 =>
  some t15

set_option maxRecDepth 100000 in
theorem gangwayref03_Head_calls (k : Nat) (a0 : Int) (a1 : Int) (a2 : Int) (a3 : Int) (r : ByteArray) (h : gangwayref03_Head.f k a0 a1 a2 a3 = some r) : Pure Tryz.prog Glob 75 #[.int .u32 a0, .int .u32 a1, .int .i64 a2, .int .i64 a3] (.string r) := by
  intro w Z hS
  refine calls_of (args := [.int .u32 a0, .int .u32 a1, .int .i64 a2, .int .i64 a3]) (L := [(0, .int .u32 a0), (1, .int .u32 a1), (2, .int .i64 a2), (3, .int .i64 a3)]) (N := 26) (S := Sat w Z [] [] Glob) Tryz.func75 rfl rfl (Nat.le_of_ble_eq_true rfl) rfl hS ?_
  have hM := h
  clear h hS
  unfold gangwayref03_Head.f at hM
  refine WP.seq ?_
  refine WP.run [] [0, 1, 2, 3, 8] (fun _ => [(0, .int .u32 a0), (1, .int .u32 a1), (2, .int .i64 a2), (3, .int .i64 a3), (8, .string (⟨#[]⟩ : ByteArray))]) (fun _ => []) (fun _ => []) (fun _ => by kernel_rfl) (fun _ => ?_)
  refine WP.seq ?_
  refine WP.region ?_
  refine WL.run 2 [] [1, 2, 3, 8, 10] (fun _ => [(1, .int .u32 a1), (2, .int .i64 a2), (3, .int .i64 a3), (8, .string (⟨#[]⟩ : ByteArray)), (10, .int .u64 (u64 a0))]) (fun _ => []) (fun _ => []) (fun _ => by kernel_rfl) (fun _ => ?_)
  obtain ⟨r1, h2, hM⟩ := bind_some hM
  refine WL.callP [] [] (gangwayref01_Bytes_calls k (u64 a0) 4 _ h2) (fun _ h => h) (by kernel_rfl) (by kernel_rfl) rfl ?_
  refine WL.run 2 [] [2, 3, 8, 11, 13] (fun _ => [(2, .int .i64 a2), (3, .int .i64 a3), (8, .string (⟨#[]⟩ : ByteArray)), (11, .string r1), (13, .int .u64 (u64 a1))]) (fun _ => []) (fun _ => []) (fun _ => by kernel_rfl) (fun _ => ?_)
  obtain ⟨r3, h4, hM⟩ := bind_some hM
  refine WL.callP [] [] (gangwayref01_Bytes_calls k (u64 a1) 4 _ h4) (fun _ h => h) (by kernel_rfl) (by kernel_rfl) rfl ?_
  obtain ⟨t5, h6, hM⟩ := bind_some hM
  refine WL.val (fun _ => run_catS (a := r1) (b := r3) (by kernel_rfl) (by kernel_rfl) h6) (by kernel_rfl) (by kernel_rfl) rfl ?_
  refine WL.run 3 [] [3, 8, 15, 18] (fun _ => [(3, .int .i64 a3), (8, .string (⟨#[]⟩ : ByteArray)), (15, .string t5), (18, .int .u64 (u64 (u8 a2)))]) (fun _ => []) (fun _ => []) (fun _ => by kernel_rfl) (fun _ => ?_)
  obtain ⟨r7, h8, hM⟩ := bind_some hM
  refine WL.callP [] [] (gangwayref01_Bytes_calls k (u64 (u8 a2)) 2 _ h8) (fun _ h => h) (by kernel_rfl) (by kernel_rfl) rfl ?_
  obtain ⟨t9, h10, hM⟩ := bind_some hM
  refine WL.val (fun _ => run_catS (a := t5) (b := r7) (by kernel_rfl) (by kernel_rfl) h10) (by kernel_rfl) (by kernel_rfl) rfl ?_
  refine WL.run 1 [] [8, 20, 21] (fun _ => [(8, .string (⟨#[]⟩ : ByteArray)), (20, .string t9), (21, .int .i64 a3)]) (fun _ => []) (fun _ => []) (fun _ => by kernel_rfl) (fun _ => ?_)
  obtain ⟨r11, h12, hM⟩ := bind_some hM
  refine WL.callP [] [] (gangwayref03_low_calls a3 _ h12) (fun _ h => h) (by kernel_rfl) (by kernel_rfl) rfl ?_
  refine WL.run 1 [] [8, 20, 23] (fun _ => [(8, .string (⟨#[]⟩ : ByteArray)), (20, .string t9), (23, .int .u64 (u64 r11))]) (fun _ => []) (fun _ => []) (fun _ => by kernel_rfl) (fun _ => ?_)
  obtain ⟨r13, h14, hM⟩ := bind_some hM
  refine WL.callP [] [] (gangwayref01_Bytes_calls k (u64 r11) 2 _ h14) (fun _ h => h) (by kernel_rfl) (by kernel_rfl) rfl ?_
  obtain ⟨t15, h16, hM⟩ := bind_some hM
  refine WL.val (fun _ => run_catS (a := t9) (b := r13) (by kernel_rfl) (by kernel_rfl) h16) (by kernel_rfl) (by kernel_rfl) rfl ?_
  refine WL.run 1 [] [8] (fun _ => [(8, .string t15)]) (fun _ => []) (fun _ => []) (fun _ => by kernel_rfl) (fun _ => ?_)
  refine WP.done ?_
  obtain rfl := Option.some.inj hM
  exact WP.ret [] [] (.string t15) (by kernel_rfl) (fun w' hw => ⟨rfl, hw.pick [] rfl⟩)

end Go.Proofs.YtbodofjnfmjbpaaGreatDoor

namespace Go.Proofs.YtbodofjnfmjbpaaGreatDoor
open Go Eng
set_option linter.unusedVariables false
set_option linter.unusedSimpArgs false

/-! ### gangway/gangwayref03.Total: function 99 -/
def gangwayref03_Total.k1 (x2 : Int) (rec_l2 : Int → Int → Option (Int)) (x9 : Int) : Option (Int) :=
  rec_l2 x9 (i64 (x2 + 1))

def gangwayref03_Total.l2 (a0 : ByteArray) : Nat → Int → Int → Option (Int)
  | 0, _, _ => none
  | n + 1, x1, x2 =>
    bif decide (x2 < (a0.size : Int)) then
      bif ((Int.tmod x2 2) == 0) then
        (idxS a0 x2).bind fun t5 =>
        gangwayref03_Total.k1 x2 (gangwayref03_Total.l2 a0 n) (i64 (x1 + (i64 (256 * (i64 t5)))))
      else
        (idxS a0 x2).bind fun t7 =>
        gangwayref03_Total.k1 x2 (gangwayref03_Total.l2 a0 n) (i64 (x1 + (i64 t7)))
    else
      some x1

def gangwayref03_Total.f (k : Nat) (a0 : ByteArray) : Option (Int) :=
  gangwayref03_Total.l2 a0 k 0 0

set_option maxRecDepth 100000 in
theorem gangwayref03_Total_calls (k : Nat) (a0 : ByteArray) (r : Int) (h : gangwayref03_Total.f k a0 = some r) : Pure Tryz.prog Glob 99 #[.string a0] (.int .i64 r) := by
  intro w Z hS
  refine calls_of (args := [.string a0]) (L := [(0, .string a0)]) (N := 28) (S := Sat w Z [] [] Glob) Tryz.func99 rfl rfl (Nat.le_of_ble_eq_true rfl) rfl hS ?_
  have hM := h
  clear h hS
  unfold gangwayref03_Total.f at hM
  refine WP.seq ?_
  refine WP.run [] [0, 2] (fun _ => [(0, .string a0), (2, .int .i64 0)]) (fun _ => []) (fun _ => []) (fun _ => by kernel_rfl) (fun _ => ?_)
  refine WP.seq ?_
  refine WP.run [] [0, 2, 3] (fun _ => [(0, .string a0), (2, .int .i64 0), (3, .int .i64 0)]) (fun _ => []) (fun _ => []) (fun _ => by kernel_rfl) (fun _ => ?_)
  refine WP.seq ?_
  refine WP.seq ?_
  refine WP.run [] [0, 2, 3, 4] (fun _ => [(0, .string a0), (2, .int .i64 0), (3, .int .i64 0), (4, .int .i64 0)]) (fun _ => []) (fun _ => []) (fun _ => by kernel_rfl) (fun _ => ?_)
  refine WP.block ?_
  refine WP.sub [0, 2, 3, 4] (L' := [(0, .string a0), (2, .int .i64 0), (3, .int .i64 0), (4, .int .i64 0)]) (by kernel_rfl) ?_
  refine WP.loop (σ := Int × Int) (fun n st => gangwayref03_Total.l2 a0 n st.1 st.2) r (fun st => [(0, .string a0), (2, .int .i64 0), (3, .int .i64 st.1), (4, .int .i64 st.2)]) (fun st => Sat w Z [] [] Glob) (st := (0, 0)) (fun n st hM => ?_) hM
  rcases n with _ | n
  · exact nomatch (show (none : Option _) = some r from hM)
  obtain ⟨x1, x2⟩ := st
  replace hM : gangwayref03_Total.l2 a0 (n + 1) x1 x2 = some r := hM
  rw [gangwayref03_Total.l2] at hM
  show WP _ _ _ _ _ [(0, .string a0), (2, .int .i64 0), (3, .int .i64 x1), (4, .int .i64 x2)] (Sat w Z [] [] Glob)
  refine WP.seq ?_
  refine WP.seq ?_
  refine WP.run [] [0, 2, 3, 4, 5, 6, 7, 8] (fun _ => [(0, .string a0), (2, .int .i64 0), (3, .int .i64 x1), (4, .int .i64 x2), (5, .int .i64 x2), (6, .string a0), (7, .int .i64 (a0.size : Int)), (8, .bool (decide (x2 < (a0.size : Int))))]) (fun _ => []) (fun _ => []) (fun _ => by kernel_rfl) (fun _ => ?_)
  refine WP.cond (decide (x2 < (a0.size : Int))) rfl rfl (fun c3 => ?_) (fun c3 => ?_)
  · replace hM := cond_t hM c3
    refine WP.skip ?_
    refine WP.seq ?_
    refine WP.blockJoin (σ := Int) (fun st => gangwayref03_Total.k1 x2 (gangwayref03_Total.l2 a0 n) st = some r) (fun st => [(0, .string a0), (2, .int .i64 0), (3, .int .i64 st), (4, .int .i64 x2), (5, .int .i64 x2), (6, .string a0), (7, .int .i64 (a0.size : Int)), (8, .bool (decide (x2 < (a0.size : Int)))), (11, .int .i64 x2), (12, .int .i64 (Int.tmod x2 2)), (13, .bool ((Int.tmod x2 2) == 0))]) (fun st => Sat w Z [] [] Glob) (fun st hM => ?_) (fun K1 => ?_)
    ·
      obtain ⟨x9, rfl⟩ : ∃ y, y = st := ⟨st, rfl⟩
      replace hM : gangwayref03_Total.k1 x2 (gangwayref03_Total.l2 a0 n) x9 = some r := hM
      unfold gangwayref03_Total.k1 at hM
      show WP _ _ _ _ _ [(0, .string a0), (2, .int .i64 0), (3, .int .i64 x9), (4, .int .i64 x2), (5, .int .i64 x2), (6, .string a0), (7, .int .i64 (a0.size : Int)), (8, .bool (decide (x2 < (a0.size : Int)))), (11, .int .i64 x2), (12, .int .i64 (Int.tmod x2 2)), (13, .bool ((Int.tmod x2 2) == 0))] (Sat w Z [] [] Glob)
      refine WP.run [] [0, 2, 3, 4, 5, 6, 7, 8, 9, 10, 11, 12, 13] (fun _ => [(0, .string a0), (2, .int .i64 0), (3, .int .i64 x9), (4, .int .i64 (i64 (x2 + 1))), (5, .int .i64 x2), (6, .string a0), (7, .int .i64 (a0.size : Int)), (8, .bool (decide (x2 < (a0.size : Int)))), (9, .int .i64 x2), (10, .int .i64 (i64 (x2 + 1))), (11, .int .i64 x2), (12, .int .i64 (Int.tmod x2 2)), (13, .bool ((Int.tmod x2 2) == 0))]) (fun _ => []) (fun _ => []) (fun _ => by kernel_rfl) (fun _ => ?_)
      exact WP.again' [0, 2, 3, 4] (x9, i64 (x2 + 1)) hM (by kernel_rfl) (fun _ h => h.pick [] (by kernel_rfl))
    ·
      refine WP.seq ?_
      refine WP.run [] [0, 2, 3, 4, 5, 6, 7, 8, 11, 12, 13] (fun _ => [(0, .string a0), (2, .int .i64 0), (3, .int .i64 x1), (4, .int .i64 x2), (5, .int .i64 x2), (6, .string a0), (7, .int .i64 (a0.size : Int)), (8, .bool (decide (x2 < (a0.size : Int)))), (11, .int .i64 x2), (12, .int .i64 (Int.tmod x2 2)), (13, .bool ((Int.tmod x2 2) == 0))]) (fun _ => []) (fun _ => []) (fun _ => by kernel_rfl) (fun _ => ?_)
      refine WP.cond ((Int.tmod x2 2) == 0) rfl rfl (fun c4 => ?_) (fun c4 => ?_)
      · replace hM := cond_t hM c4
        refine WP.region ?_
        refine WL.run 3 [] [0, 2, 3, 4, 5, 6, 7, 8, 11, 12, 13, 14, 15, 16] (fun _ => [(0, .string a0), (2, .int .i64 0), (3, .int .i64 x1), (4, .int .i64 x2), (5, .int .i64 x2), (6, .string a0), (7, .int .i64 (a0.size : Int)), (8, .bool (decide (x2 < (a0.size : Int)))), (11, .int .i64 x2), (12, .int .i64 (Int.tmod x2 2)), (13, .bool ((Int.tmod x2 2) == 0)), (14, .int .i64 x1), (15, .string a0), (16, .int .i64 x2)]) (fun _ => []) (fun _ => []) (fun _ => by kernel_rfl) (fun _ => ?_)
        obtain ⟨t5, h6, hM⟩ := bind_some hM
        refine WL.val (fun _ => run_idxS (s := a0) (k := .i64) (i := x2) (by kernel_rfl) (by kernel_rfl) (by kernel_rfl) h6) (by kernel_rfl) (by kernel_rfl) rfl ?_
        refine WL.run 4 [] [0, 2, 3, 4, 5, 6, 7, 8, 11, 12, 13, 14, 15, 16, 17, 18, 19, 20] (fun _ => [(0, .string a0), (2, .int .i64 0), (3, .int .i64 (i64 (x1 + (i64 (256 * (i64 t5)))))), (4, .int .i64 x2), (5, .int .i64 x2), (6, .string a0), (7, .int .i64 (a0.size : Int)), (8, .bool (decide (x2 < (a0.size : Int)))), (11, .int .i64 x2), (12, .int .i64 (Int.tmod x2 2)), (13, .bool ((Int.tmod x2 2) == 0)), (14, .int .i64 x1), (15, .string a0), (16, .int .i64 x2), (17, .int .u8 t5), (18, .int .i64 (i64 t5)), (19, .int .i64 (i64 (256 * (i64 t5)))), (20, .int .i64 (i64 (x1 + (i64 (256 * (i64 t5))))))]) (fun _ => []) (fun _ => []) (fun _ => by kernel_rfl) (fun _ => ?_)
        refine WP.done ?_
        refine WP.leave ?_
        exact WP.sub [0, 2, 3, 4, 5, 6, 7, 8, 11, 12, 13] (by kernel_rfl) (WP.pick [] (by kernel_rfl) (by kernel_rfl) (K1 (i64 (x1 + (i64 (256 * (i64 t5))))) hM))
      · replace hM := cond_f hM c4
        refine WP.region ?_
        refine WL.run 3 [] [0, 2, 3, 4, 5, 6, 7, 8, 11, 12, 13, 21, 22, 23] (fun _ => [(0, .string a0), (2, .int .i64 0), (3, .int .i64 x1), (4, .int .i64 x2), (5, .int .i64 x2), (6, .string a0), (7, .int .i64 (a0.size : Int)), (8, .bool (decide (x2 < (a0.size : Int)))), (11, .int .i64 x2), (12, .int .i64 (Int.tmod x2 2)), (13, .bool ((Int.tmod x2 2) == 0)), (21, .int .i64 x1), (22, .string a0), (23, .int .i64 x2)]) (fun _ => []) (fun _ => []) (fun _ => by kernel_rfl) (fun _ => ?_)
        obtain ⟨t7, h8, hM⟩ := bind_some hM
        refine WL.val (fun _ => run_idxS (s := a0) (k := .i64) (i := x2) (by kernel_rfl) (by kernel_rfl) (by kernel_rfl) h8) (by kernel_rfl) (by kernel_rfl) rfl ?_
        refine WL.run 3 [] [0, 2, 3, 4, 5, 6, 7, 8, 11, 12, 13, 21, 22, 23, 24, 25, 26] (fun _ => [(0, .string a0), (2, .int .i64 0), (3, .int .i64 (i64 (x1 + (i64 t7)))), (4, .int .i64 x2), (5, .int .i64 x2), (6, .string a0), (7, .int .i64 (a0.size : Int)), (8, .bool (decide (x2 < (a0.size : Int)))), (11, .int .i64 x2), (12, .int .i64 (Int.tmod x2 2)), (13, .bool ((Int.tmod x2 2) == 0)), (21, .int .i64 x1), (22, .string a0), (23, .int .i64 x2), (24, .int .u8 t7), (25, .int .i64 (i64 t7)), (26, .int .i64 (i64 (x1 + (i64 t7))))]) (fun _ => []) (fun _ => []) (fun _ => by kernel_rfl) (fun _ => ?_)
        refine WP.done ?_
        refine WP.leave ?_
        exact WP.sub [0, 2, 3, 4, 5, 6, 7, 8, 11, 12, 13] (by kernel_rfl) (WP.pick [] (by kernel_rfl) (by kernel_rfl) (K1 (i64 (x1 + (i64 t7))) hM))
  · replace hM := cond_f hM c3
    refine WP.exit rfl ?_
    refine WP.seq ?_
    refine WP.run [] [2] (fun _ => [(2, .int .i64 x1)]) (fun _ => []) (fun _ => []) (fun _ => by kernel_rfl) (fun _ => ?_)
    obtain rfl := Option.some.inj hM
    exact WP.ret [] [] (.int .i64 x1) (by kernel_rfl) (fun w' hw => ⟨rfl, hw.pick [] rfl⟩)

end Go.Proofs.YtbodofjnfmjbpaaGreatDoor

namespace Go.Proofs.YtbodofjnfmjbpaaGreatDoor
open Go Eng
set_option linter.unusedVariables false
set_option linter.unusedSimpArgs false

/-! ### gangway/gangwayref03.Fold: function 98 -/
def gangwayref03_Fold.f (a0 : Int) : Option (Int) :=
  bif (a0 == 0) then
    some 0
  else
    some (i64 ((Int.tmod (i64 (a0 - 1)) 65535) + 1))

set_option maxRecDepth 100000 in
theorem gangwayref03_Fold_calls (a0 : Int) (r : Int) (h : gangwayref03_Fold.f a0 = some r) : Pure Tryz.prog Glob 98 #[.int .i64 a0] (.int .i64 r) := by
  intro w Z hS
  refine calls_of (args := [.int .i64 a0]) (L := [(0, .int .i64 a0)]) (N := 9) (S := Sat w Z [] [] Glob) Tryz.func98 rfl rfl (Nat.le_of_ble_eq_true rfl) rfl hS ?_
  have hM := h
  clear h hS
  unfold gangwayref03_Fold.f at hM
  refine WP.seq ?_
  refine WP.run [] [0, 2] (fun _ => [(0, .int .i64 a0), (2, .int .i64 0)]) (fun _ => []) (fun _ => []) (fun _ => by kernel_rfl) (fun _ => ?_)
  refine WP.seq ?_
  refine WP.seq ?_
  refine WP.run [] [0, 2, 4] (fun _ => [(0, .int .i64 a0), (2, .int .i64 0), (4, .bool (a0 == 0))]) (fun _ => []) (fun _ => []) (fun _ => by kernel_rfl) (fun _ => ?_)
  refine WP.cond (a0 == 0) rfl rfl (fun c1 => ?_) (fun c1 => ?_)
  · replace hM := cond_t hM c1
    refine WP.seq ?_
    refine WP.run [] [0, 2] (fun _ => [(0, .int .i64 a0), (2, .int .i64 0)]) (fun _ => []) (fun _ => []) (fun _ => by kernel_rfl) (fun _ => ?_)
    obtain rfl := Option.some.inj hM
    exact WP.ret [] [] (.int .i64 0) (by kernel_rfl) (fun w' hw => ⟨rfl, hw.pick [] rfl⟩)
  · replace hM := cond_f hM c1
    refine WP.skip ?_
    refine WP.seq ?_
    refine WP.run [] [2] (fun _ => [(2, .int .i64 (i64 ((Int.tmod (i64 (a0 - 1)) 65535) + 1)))]) (fun _ => []) (fun _ => []) (fun _ => by kernel_rfl) (fun _ => ?_)
    obtain rfl := Option.some.inj hM
    exact WP.ret [] [] (.int .i64 (i64 ((Int.tmod (i64 (a0 - 1)) 65535) + 1))) (by kernel_rfl) (fun w' hw => ⟨rfl, hw.pick [] rfl⟩)

end Go.Proofs.YtbodofjnfmjbpaaGreatDoor

namespace Go.Proofs.YtbodofjnfmjbpaaGreatDoor
open Go Eng
set_option linter.unusedVariables false
set_option linter.unusedSimpArgs false

/-! ### gangway/gangwayref03.Of: function 74 -/
def gangwayref03_Of.f (k : Nat) (a0 : ByteArray) : Option (Int) :=
  (gangwayref03_Total.f k a0).bind fun r1 =>
  (gangwayref03_Fold.f r1).bind fun r3 =>
  some (i64 (65535 - r3))

set_option maxRecDepth 100000 in
theorem gangwayref03_Of_calls (k : Nat) (a0 : ByteArray) (r : Int) (h : gangwayref03_Of.f k a0 = some r) : Pure Tryz.prog Glob 74 #[.string a0] (.int .i64 r) := by
  intro w Z hS
  refine calls_of (args := [.string a0]) (L := [(0, .string a0)]) (N := 7) (S := Sat w Z [] [] Glob) Tryz.func74 rfl rfl (Nat.le_of_ble_eq_true rfl) rfl hS ?_
  have hM := h
  clear h hS
  unfold gangwayref03_Of.f at hM
  refine WP.seq ?_
  refine WP.run [] [0, 2] (fun _ => [(0, .string a0), (2, .int .i64 0)]) (fun _ => []) (fun _ => []) (fun _ => by kernel_rfl) (fun _ => ?_)
  refine WP.seq ?_
  refine WP.region ?_
  refine WL.run 1 [] [2, 3] (fun _ => [(2, .int .i64 0), (3, .string a0)]) (fun _ => []) (fun _ => []) (fun _ => by kernel_rfl) (fun _ => ?_)
  obtain ⟨r1, h2, hM⟩ := bind_some hM
  refine WL.callP [] [] (gangwayref03_Total_calls k a0 _ h2) (fun _ h => h) (by kernel_rfl) (by kernel_rfl) rfl ?_
  obtain ⟨r3, h4, hM⟩ := bind_some hM
  refine WL.callP [] [] (gangwayref03_Fold_calls r1 _ h4) (fun _ h => h) (by kernel_rfl) (by kernel_rfl) rfl ?_
  refine WL.run 2 [] [2] (fun _ => [(2, .int .i64 (i64 (65535 - r3)))]) (fun _ => []) (fun _ => []) (fun _ => by kernel_rfl) (fun _ => ?_)
  refine WP.done ?_
  obtain rfl := Option.some.inj hM
  exact WP.ret [] [] (.int .i64 (i64 (65535 - r3))) (by kernel_rfl) (fun w' hw => ⟨rfl, hw.pick [] rfl⟩)

end Go.Proofs.YtbodofjnfmjbpaaGreatDoor

namespace Go.Proofs.YtbodofjnfmjbpaaGreatDoor
open Go Eng
set_option linter.unusedVariables false
set_option linter.unusedSimpArgs false

/-! ### gangway/gangwayref07.Build: function 44 -/
def gangwayref07_Build.k1 (k : Nat) (t13 : ByteArray) (a2 : api_Udp) (x28 : Int) : Option (ByteArray × Int) :=
  (gangwayref01_Bytes.f k (u64 x28) 2).bind fun r29 =>
  (catS t13 r29).bind fun t31 =>
  (catS t31 a2.Body).bind fun t33 =>
  some (t33, 0)

def gangwayref07_Build.k2 (a2 : api_Udp) (k : Nat) (t13 : ByteArray) (x26 : Int) : Option (ByteArray × Int) :=
  bif a2.NoSum then
    gangwayref07_Build.k1 k t13 a2 0
  else
    gangwayref07_Build.k1 k t13 a2 x26

def gangwayref07_Build.f (k : Nat) (a0 : Int) (a1 : Int) (a2 : api_Udp) : Option (ByteArray × Int) :=
  (gangwayref07_Check.f a2).bind fun r2 =>
  bif (r2 != 0) then
    some ((⟨#[]⟩ : ByteArray), r2)
  else
    (gangwayref01_Bytes.f k (u64 a2.Src) 2).bind fun r5 =>
    (gangwayref01_Bytes.f k (u64 a2.Dst) 2).bind fun r7 =>
    (catS r5 r7).bind fun t9 =>
    (gangwayref01_Bytes.f k (u64 (i64 ((a2.Body.size : Int) + 8))) 2).bind fun r11 =>
    (catS t9 r11).bind fun t13 =>
    (gangwayref03_Head.f k a0 a1 17 (i64 ((a2.Body.size : Int) + 8))).bind fun r15 =>
    (catS r15 t13).bind fun t17 =>
    (catS t17 (⟨#[0, 0]⟩ : ByteArray)).bind fun t19 =>
    (catS t19 a2.Body).bind fun t21 =>
    (gangwayref03_Of.f k t21).bind fun r23 =>
    bif (r23 == 0) then
      gangwayref07_Build.k2 a2 k t13 65535
    else
      gangwayref07_Build.k2 a2 k t13 r23

set_option maxRecDepth 100000 in
theorem gangwayref07_Build_calls (k : Nat) (a0 : Int) (a1 : Int) (a2 : api_Udp) (r : ByteArray × Int) (h : gangwayref07_Build.f k a0 a1 a2 = some r) : Pure Tryz.prog Glob 44 #[.int .u32 a0, .int .u32 a1, .agg #[.int .i64 a2.Src, .int .i64 a2.Dst, .bool a2.NoSum, .string a2.Body]] (.tuple #[.string r.1, .int .i64 r.2]) := by
  intro w Z hS
  refine calls_of (args := [.int .u32 a0, .int .u32 a1, .agg #[.int .i64 a2.Src, .int .i64 a2.Dst, .bool a2.NoSum, .string a2.Body]]) (L := [(0, .int .u32 a0), (1, .int .u32 a1), (2, .agg #[.int .i64 a2.Src, .int .i64 a2.Dst, .bool a2.NoSum, .string a2.Body])]) (N := 57) (S := Sat w Z [] [] Glob) Tryz.func44 rfl rfl (Nat.le_of_ble_eq_true rfl) rfl hS ?_
  have hM := h
  clear h hS
  unfold gangwayref07_Build.f at hM
  refine WP.seq ?_
  refine WP.run [] [0, 1, 5, 6, 7] (fun b1 => [(0, .int .u32 a0), (1, .int .u32 a1), (5, .pointer (some ⟨b1, 0, none⟩)), (6, .string (⟨#[]⟩ : ByteArray)), (7, .int .i64 0)]) (fun b1 => [(b1, .cells #[.int .i64 a2.Src, .int .i64 a2.Dst, .bool a2.NoSum, .string a2.Body] 40 (0, 0))]) (fun b1 => []) (fun b1 => by kernel_rfl) (fun b1 => ?_)
  refine WP.seq ?_
  refine WP.region ?_
  refine WL.run 1 [0, 0, 0, 0] [0, 1, 5, 6, 7, 12] (fun _ => [(0, .int .u32 a0), (1, .int .u32 a1), (5, .pointer (some ⟨b1, 0, none⟩)), (6, .string (⟨#[]⟩ : ByteArray)), (7, .int .i64 0), (12, .agg #[.int .i64 a2.Src, .int .i64 a2.Dst, .bool a2.NoSum, .string a2.Body])]) (fun _ => [(b1, .cells #[.int .i64 a2.Src, .int .i64 a2.Dst, .bool a2.NoSum, .string a2.Body] 40 (0, 0))]) (fun _ => [b1, b1, b1, b1]) (fun _ => by kernel_rfl) (fun _ => ?_)
  obtain ⟨r2, h3, hM⟩ := bind_some hM
  refine WL.callP [] [] (gangwayref07_Check_calls a2 _ h3) (fun _ h => h) (by kernel_rfl) (by kernel_rfl) rfl ?_
  refine WL.run 1 [] [0, 1, 5, 6, 7, 8] (fun _ => [(0, .int .u32 a0), (1, .int .u32 a1), (5, .pointer (some ⟨b1, 0, none⟩)), (6, .string (⟨#[]⟩ : ByteArray)), (7, .int .i64 0), (8, .int .i64 r2)]) (fun _ => [(b1, .cells #[.int .i64 a2.Src, .int .i64 a2.Dst, .bool a2.NoSum, .string a2.Body] 40 (0, 0))]) (fun _ => []) (fun _ => by kernel_rfl) (fun _ => ?_)
  refine WP.done ?_
  refine WP.seq ?_
  refine WP.seq ?_
  refine WP.run [] [0, 1, 5, 6, 7, 8, 15] (fun _ => [(0, .int .u32 a0), (1, .int .u32 a1), (5, .pointer (some ⟨b1, 0, none⟩)), (6, .string (⟨#[]⟩ : ByteArray)), (7, .int .i64 0), (8, .int .i64 r2), (15, .bool (r2 != 0))]) (fun _ => [(b1, .cells #[.int .i64 a2.Src, .int .i64 a2.Dst, .bool a2.NoSum, .string a2.Body] 40 (0, 0))]) (fun _ => []) (fun _ => by kernel_rfl) (fun _ => ?_)
  refine WP.cond (r2 != 0) rfl rfl (fun c4 => ?_) (fun c4 => ?_)
  · replace hM := cond_t hM c4
    refine WP.seq ?_
    refine WP.run [] [0, 1, 5, 6, 7] (fun _ => [(0, .int .u32 a0), (1, .int .u32 a1), (5, .pointer (some ⟨b1, 0, none⟩)), (6, .string (⟨#[]⟩ : ByteArray)), (7, .int .i64 r2)]) (fun _ => [(b1, .cells #[.int .i64 a2.Src, .int .i64 a2.Dst, .bool a2.NoSum, .string a2.Body] 40 (0, 0))]) (fun _ => []) (fun _ => by kernel_rfl) (fun _ => ?_)
    obtain rfl := Option.some.inj hM
    exact WP.ret [] [] (.tuple #[.string (⟨#[]⟩ : ByteArray), .int .i64 r2]) (by kernel_rfl) (fun w' hw => ⟨rfl, hw.pick [] rfl⟩)
  · replace hM := cond_f hM c4
    refine WP.skip ?_
    refine WP.seq ?_
    refine WP.run [0] [0, 1, 5, 6, 7, 9] (fun _ => [(0, .int .u32 a0), (1, .int .u32 a1), (5, .pointer (some ⟨b1, 0, none⟩)), (6, .string (⟨#[]⟩ : ByteArray)), (7, .int .i64 0), (9, .int .i64 (i64 ((a2.Body.size : Int) + 8)))]) (fun _ => [(b1, .cells #[.int .i64 a2.Src, .int .i64 a2.Dst, .bool a2.NoSum, .string a2.Body] 40 (0, 0))]) (fun _ => [b1]) (fun _ => by kernel_rfl) (fun _ => ?_)
    refine WP.seq ?_
    refine WP.quiet (by kernel_rfl) (by kernel_rfl) ?_
    refine QL.run 3 [0] [0, 1, 5, 6, 7, 9, 23] [b1] [(0, .int .u32 a0), (1, .int .u32 a1), (5, .pointer (some ⟨b1, 0, none⟩)), (6, .string (⟨#[]⟩ : ByteArray)), (7, .int .i64 0), (9, .int .i64 (i64 ((a2.Body.size : Int) + 8))), (23, .int .u64 (u64 a2.Src))] (by kernel_rfl) ?_
    obtain ⟨r5, h6, hM⟩ := bind_some hM
    refine QL.callP [] [] (gangwayref01_Bytes_calls k (u64 a2.Src) 2 _ h6) (fun _ h => h) (by kernel_rfl) (by kernel_rfl) rfl ?_
    refine QL.run 3 [0] [0, 1, 5, 6, 7, 9, 24, 27] [b1] [(0, .int .u32 a0), (1, .int .u32 a1), (5, .pointer (some ⟨b1, 0, none⟩)), (6, .string (⟨#[]⟩ : ByteArray)), (7, .int .i64 0), (9, .int .i64 (i64 ((a2.Body.size : Int) + 8))), (24, .string r5), (27, .int .u64 (u64 a2.Dst))] (by kernel_rfl) ?_
    obtain ⟨r7, h8, hM⟩ := bind_some hM
    refine QL.callP [] [] (gangwayref01_Bytes_calls k (u64 a2.Dst) 2 _ h8) (fun _ h => h) (by kernel_rfl) (by kernel_rfl) rfl ?_
    obtain ⟨t9, h10, hM⟩ := bind_some hM
    refine QL.val (fun _ => run_catS (a := r5) (b := r7) (by kernel_rfl) (by kernel_rfl) h10) (by kernel_rfl) (by kernel_rfl) rfl ?_
    refine QL.run 2 [] [0, 1, 5, 6, 7, 9, 29, 31] [] [(0, .int .u32 a0), (1, .int .u32 a1), (5, .pointer (some ⟨b1, 0, none⟩)), (6, .string (⟨#[]⟩ : ByteArray)), (7, .int .i64 0), (9, .int .i64 (i64 ((a2.Body.size : Int) + 8))), (29, .string t9), (31, .int .u64 (u64 (i64 ((a2.Body.size : Int) + 8))))] (by kernel_rfl) ?_
    obtain ⟨r11, h12, hM⟩ := bind_some hM
    refine QL.callP [] [] (gangwayref01_Bytes_calls k (u64 (i64 ((a2.Body.size : Int) + 8))) 2 _ h12) (fun _ h => h) (by kernel_rfl) (by kernel_rfl) rfl ?_
    obtain ⟨t13, h14, hM⟩ := bind_some hM
    refine QL.val (fun _ => run_catS (a := t9) (b := r11) (by kernel_rfl) (by kernel_rfl) h14) (by kernel_rfl) (by kernel_rfl) rfl ?_
    refine QL.run 1 [] [0, 1, 5, 6, 7, 9, 10] [] [(0, .int .u32 a0), (1, .int .u32 a1), (5, .pointer (some ⟨b1, 0, none⟩)), (6, .string (⟨#[]⟩ : ByteArray)), (7, .int .i64 0), (9, .int .i64 (i64 ((a2.Body.size : Int) + 8))), (10, .string t13)] (by kernel_rfl) ?_
    refine QL.done ?_
    refine WP.seq ?_
    refine WP.quiet (by kernel_rfl) (by kernel_rfl) ?_
    refine QL.run 3 [] [5, 6, 7, 10, 34, 35, 36] [] [(5, .pointer (some ⟨b1, 0, none⟩)), (6, .string (⟨#[]⟩ : ByteArray)), (7, .int .i64 0), (10, .string t13), (34, .int .u32 a0), (35, .int .u32 a1), (36, .int .i64 (i64 ((a2.Body.size : Int) + 8)))] (by kernel_rfl) ?_
    obtain ⟨r15, h16, hM⟩ := bind_some hM
    refine QL.callP [] [] (gangwayref03_Head_calls k a0 a1 17 (i64 ((a2.Body.size : Int) + 8)) _ h16) (fun _ h => h) (by kernel_rfl) (by kernel_rfl) rfl ?_
    refine QL.run 1 [] [5, 6, 7, 10, 37, 38] [] [(5, .pointer (some ⟨b1, 0, none⟩)), (6, .string (⟨#[]⟩ : ByteArray)), (7, .int .i64 0), (10, .string t13), (37, .string r15), (38, .string t13)] (by kernel_rfl) ?_
    obtain ⟨t17, h18, hM⟩ := bind_some hM
    refine QL.val (fun _ => run_catS (a := r15) (b := t13) (by kernel_rfl) (by kernel_rfl) h18) (by kernel_rfl) (by kernel_rfl) rfl ?_
    obtain ⟨t19, h20, hM⟩ := bind_some hM
    refine QL.val (fun _ => run_catS (a := t17) (b := (⟨#[0, 0]⟩ : ByteArray)) (by kernel_rfl) (by kernel_rfl) h20) (by kernel_rfl) (by kernel_rfl) rfl ?_
    refine QL.run 2 [0] [5, 6, 7, 10, 40, 42] [b1] [(5, .pointer (some ⟨b1, 0, none⟩)), (6, .string (⟨#[]⟩ : ByteArray)), (7, .int .i64 0), (10, .string t13), (40, .string t19), (42, .string a2.Body)] (by kernel_rfl) ?_
    obtain ⟨t21, h22, hM⟩ := bind_some hM
    refine QL.val (fun _ => run_catS (a := t19) (b := a2.Body) (by kernel_rfl) (by kernel_rfl) h22) (by kernel_rfl) (by kernel_rfl) rfl ?_
    obtain ⟨r23, h24, hM⟩ := bind_some hM
    refine QL.callP [] [] (gangwayref03_Of_calls k t21 _ h24) (fun _ h => h) (by kernel_rfl) (by kernel_rfl) rfl ?_
    refine QL.run 1 [] [5, 6, 7, 10, 11] [] [(5, .pointer (some ⟨b1, 0, none⟩)), (6, .string (⟨#[]⟩ : ByteArray)), (7, .int .i64 0), (10, .string t13), (11, .int .i64 r23)] (by kernel_rfl) ?_
    refine QL.done ?_
    refine WP.seqJoin (σ := Int) (fun st => gangwayref07_Build.k2 a2 k t13 st = some r) (fun st => [(5, .pointer (some ⟨b1, 0, none⟩)), (6, .string (⟨#[]⟩ : ByteArray)), (7, .int .i64 0), (10, .string t13), (11, .int .i64 st)]) (fun st => Sat w Z [(b1, .cells #[.int .i64 a2.Src, .int .i64 a2.Dst, .bool a2.NoSum, .string a2.Body] 40 (0, 0))] [] Glob) (fun st hM => ?_) (fun K2 => ?_)
    ·
      obtain ⟨x26, rfl⟩ : ∃ y, y = st := ⟨st, rfl⟩
      replace hM : gangwayref07_Build.k2 a2 k t13 x26 = some r := hM
      unfold gangwayref07_Build.k2 at hM
      show WP _ _ _ _ _ [(5, .pointer (some ⟨b1, 0, none⟩)), (6, .string (⟨#[]⟩ : ByteArray)), (7, .int .i64 0), (10, .string t13), (11, .int .i64 x26)] (Sat w Z [(b1, .cells #[.int .i64 a2.Src, .int .i64 a2.Dst, .bool a2.NoSum, .string a2.Body] 40 (0, 0))] [] Glob)
      refine WP.seqJoin (σ := Int) (fun st => gangwayref07_Build.k1 k t13 a2 st = some r) (fun st => [(5, .pointer (some ⟨b1, 0, none⟩)), (6, .string (⟨#[]⟩ : ByteArray)), (7, .int .i64 0), (10, .string t13), (11, .int .i64 st)]) (fun st => Sat w Z [(b1, .cells #[.int .i64 a2.Src, .int .i64 a2.Dst, .bool a2.NoSum, .string a2.Body] 40 (0, 0))] [] Glob) (fun st hM => ?_) (fun K1 => ?_)
      ·
        obtain ⟨x28, rfl⟩ : ∃ y, y = st := ⟨st, rfl⟩
        replace hM : gangwayref07_Build.k1 k t13 a2 x28 = some r := hM
        unfold gangwayref07_Build.k1 at hM
        show WP _ _ _ _ _ [(5, .pointer (some ⟨b1, 0, none⟩)), (6, .string (⟨#[]⟩ : ByteArray)), (7, .int .i64 0), (10, .string t13), (11, .int .i64 x28)] (Sat w Z [(b1, .cells #[.int .i64 a2.Src, .int .i64 a2.Dst, .bool a2.NoSum, .string a2.Body] 40 (0, 0))] [] Glob)
        refine WP.seq ?_
        refine WP.quiet (by kernel_rfl) (by kernel_rfl) ?_
        refine QL.run 3 [] [5, 6, 7, 49, 51] [] [(5, .pointer (some ⟨b1, 0, none⟩)), (6, .string (⟨#[]⟩ : ByteArray)), (7, .int .i64 0), (49, .string t13), (51, .int .u64 (u64 x28))] (by kernel_rfl) ?_
        obtain ⟨r29, h30, hM⟩ := bind_some hM
        refine QL.callP [] [] (gangwayref01_Bytes_calls k (u64 x28) 2 _ h30) (fun _ h => h) (by kernel_rfl) (by kernel_rfl) rfl ?_
        obtain ⟨t31, h32, hM⟩ := bind_some hM
        refine QL.val (fun _ => run_catS (a := t13) (b := r29) (by kernel_rfl) (by kernel_rfl) h32) (by kernel_rfl) (by kernel_rfl) rfl ?_
        refine QL.run 2 [0] [6, 7, 53, 55] [b1] [(6, .string (⟨#[]⟩ : ByteArray)), (7, .int .i64 0), (53, .string t31), (55, .string a2.Body)] (by kernel_rfl) ?_
        obtain ⟨t33, h34, hM⟩ := bind_some hM
        refine QL.val (fun _ => run_catS (a := t31) (b := a2.Body) (by kernel_rfl) (by kernel_rfl) h34) (by kernel_rfl) (by kernel_rfl) rfl ?_
        refine QL.run 2 [] [6, 7] [] [(6, .string t33), (7, .int .i64 0)] (by kernel_rfl) ?_
        refine QL.done ?_
        refine WP.keep [false] (by kernel_rfl : _ = []) ?_
        obtain rfl := Option.some.inj hM
        exact WP.ret [] [] (.tuple #[.string t33, .int .i64 0]) (by kernel_rfl) (fun w' hw => ⟨rfl, hw.pick [] rfl⟩)
      ·
        refine WP.seq ?_
        refine WP.run [0] [5, 6, 7, 10, 11, 48] (fun _ => [(5, .pointer (some ⟨b1, 0, none⟩)), (6, .string (⟨#[]⟩ : ByteArray)), (7, .int .i64 0), (10, .string t13), (11, .int .i64 x26), (48, .bool a2.NoSum)]) (fun _ => [(b1, .cells #[.int .i64 a2.Src, .int .i64 a2.Dst, .bool a2.NoSum, .string a2.Body] 40 (0, 0))]) (fun _ => [b1]) (fun _ => by kernel_rfl) (fun _ => ?_)
        refine WP.cond a2.NoSum rfl rfl (fun c27 => ?_) (fun c27 => ?_)
        · replace hM := cond_t hM c27
          refine WP.run [] [5, 6, 7, 10, 11] (fun _ => [(5, .pointer (some ⟨b1, 0, none⟩)), (6, .string (⟨#[]⟩ : ByteArray)), (7, .int .i64 0), (10, .string t13), (11, .int .i64 0)]) (fun _ => [(b1, .cells #[.int .i64 a2.Src, .int .i64 a2.Dst, .bool a2.NoSum, .string a2.Body] 40 (0, 0))]) (fun _ => []) (fun _ => by kernel_rfl) (fun _ => ?_)
          exact WP.sub [5, 6, 7, 10, 11] (by kernel_rfl) (WP.pick [0] (by kernel_rfl) (by kernel_rfl) (K1 0 hM))
        · replace hM := cond_f hM c27
          refine WP.skip ?_
          exact WP.sub [5, 6, 7, 10, 11] (by kernel_rfl) (WP.pick [0] (by kernel_rfl) (by kernel_rfl) (K1 x26 hM))
    ·
      refine WP.seq ?_
      refine WP.run [] [5, 6, 7, 10, 11, 46] (fun _ => [(5, .pointer (some ⟨b1, 0, none⟩)), (6, .string (⟨#[]⟩ : ByteArray)), (7, .int .i64 0), (10, .string t13), (11, .int .i64 r23), (46, .bool (r23 == 0))]) (fun _ => [(b1, .cells #[.int .i64 a2.Src, .int .i64 a2.Dst, .bool a2.NoSum, .string a2.Body] 40 (0, 0))]) (fun _ => []) (fun _ => by kernel_rfl) (fun _ => ?_)
      refine WP.cond (r23 == 0) rfl rfl (fun c25 => ?_) (fun c25 => ?_)
      · replace hM := cond_t hM c25
        refine WP.run [] [5, 6, 7, 10, 11] (fun _ => [(5, .pointer (some ⟨b1, 0, none⟩)), (6, .string (⟨#[]⟩ : ByteArray)), (7, .int .i64 0), (10, .string t13), (11, .int .i64 65535)]) (fun _ => [(b1, .cells #[.int .i64 a2.Src, .int .i64 a2.Dst, .bool a2.NoSum, .string a2.Body] 40 (0, 0))]) (fun _ => []) (fun _ => by kernel_rfl) (fun _ => ?_)
        exact WP.sub [5, 6, 7, 10, 11] (by kernel_rfl) (WP.pick [0] (by kernel_rfl) (by kernel_rfl) (K2 65535 hM))
      · replace hM := cond_f hM c25
        refine WP.skip ?_
        exact WP.sub [5, 6, 7, 10, 11] (by kernel_rfl) (WP.pick [0] (by kernel_rfl) (by kernel_rfl) (K2 r23 hM))

end Go.Proofs.YtbodofjnfmjbpaaGreatDoor

namespace Go.Proofs.YtbodofjnfmjbpaaGreatDoor
open Go Eng
set_option linter.unusedVariables false
set_option linter.unusedSimpArgs false

/-! ### gangway/gangwayref06.Check: function 76 -/
def gangwayref06_Check.f (a0 : api_Ip) : Option (Int) :=
  bif ((((!((((Int.fdiv a0.Tos 256) == 0) && ((Int.fdiv a0.Ttl 256) == 0)) && ((Int.fdiv a0.Proto 256) == 0))) || ((Int.fdiv a0.Id 65536) != 0)) || ((Int.fdiv a0.Off 8192) != 0)) || (decide ((a0.Body.size : Int) > 65515))) then
    some 61
  else
    some 0

set_option maxRecDepth 100000 in
theorem gangwayref06_Check_calls (a0 : api_Ip) (r : Int) (h : gangwayref06_Check.f a0 = some r) : Pure Tryz.prog Glob 76 #[.agg #[.int .i64 a0.Tos, .int .i64 a0.Id, .bool a0.Whole, .bool a0.More, .int .i64 a0.Off, .int .i64 a0.Ttl, .int .i64 a0.Proto, .int .u32 a0.Src, .int .u32 a0.Dst, .string a0.Body]] (.int .i64 r) := by
  intro w Z hS
  refine calls_of (args := [.agg #[.int .i64 a0.Tos, .int .i64 a0.Id, .bool a0.Whole, .bool a0.More, .int .i64 a0.Off, .int .i64 a0.Ttl, .int .i64 a0.Proto, .int .u32 a0.Src, .int .u32 a0.Dst, .string a0.Body]]) (L := [(0, .agg #[.int .i64 a0.Tos, .int .i64 a0.Id, .bool a0.Whole, .bool a0.More, .int .i64 a0.Off, .int .i64 a0.Ttl, .int .i64 a0.Proto, .int .u32 a0.Src, .int .u32 a0.Dst, .string a0.Body])]) (N := 40) (S := Sat w Z [] [] Glob) Tryz.func76 rfl rfl (Nat.le_of_ble_eq_true rfl) rfl hS ?_
  have hM := h
  clear h hS
  unfold gangwayref06_Check.f at hM
  refine WP.seq ?_
  refine WP.run [] [1, 2] (fun b1 => [(1, .pointer (some ⟨b1, 0, none⟩)), (2, .int .i64 0)]) (fun b1 => [(b1, .cells #[.int .i64 a0.Tos, .int .i64 a0.Id, .bool a0.Whole, .bool a0.More, .int .i64 a0.Off, .int .i64 a0.Ttl, .int .i64 a0.Proto, .int .u32 a0.Src, .int .u32 a0.Dst, .string a0.Body] 91 (0, 0))]) (fun b1 => []) (fun b1 => by kernel_rfl) (fun b1 => ?_)
  refine WP.seq ?_
  refine WP.region ?_
  refine WL.run 5 [0] [1, 2, 8] (fun _ => [(1, .pointer (some ⟨b1, 0, none⟩)), (2, .int .i64 0), (8, .bool ((Int.fdiv a0.Tos 256) == 0))]) (fun _ => [(b1, .cells #[.int .i64 a0.Tos, .int .i64 a0.Id, .bool a0.Whole, .bool a0.More, .int .i64 a0.Off, .int .i64 a0.Ttl, .int .i64 a0.Proto, .int .u32 a0.Src, .int .u32 a0.Dst, .string a0.Body] 91 (0, 0))]) (fun _ => [b1]) (fun _ => by kernel_rfl) (fun _ => ?_)
  refine WL.sub [1, 2, 8] (L' := [(1, .pointer (some ⟨b1, 0, none⟩)), (2, .int .i64 0), (8, .bool ((Int.fdiv a0.Tos 256) == 0))]) (by kernel_rfl) ?_
  refine WL.both (fun b' => [(1, .pointer (some ⟨b1, 0, none⟩)), (2, .int .i64 0), (8, .bool b')]) ((Int.fdiv a0.Tos 256) == 0) 5 [0] [] [1, 2, 13] (fun b' => [(1, .pointer (some ⟨b1, 0, none⟩)), (2, .int .i64 0), (13, .bool (b' && ((Int.fdiv a0.Ttl 256) == 0)))]) [b1] [] (fun _ => by kernel_rfl) (fun _ => by kernel_rfl) ?_
  refine WL.run 1 [] [1, 2, 14] (fun _ => [(1, .pointer (some ⟨b1, 0, none⟩)), (2, .int .i64 0), (14, .bool (((Int.fdiv a0.Tos 256) == 0) && ((Int.fdiv a0.Ttl 256) == 0)))]) (fun _ => [(b1, .cells #[.int .i64 a0.Tos, .int .i64 a0.Id, .bool a0.Whole, .bool a0.More, .int .i64 a0.Off, .int .i64 a0.Ttl, .int .i64 a0.Proto, .int .u32 a0.Src, .int .u32 a0.Dst, .string a0.Body] 91 (0, 0))]) (fun _ => []) (fun _ => by kernel_rfl) (fun _ => ?_)
  refine WL.sub [1, 2, 14] (L' := [(1, .pointer (some ⟨b1, 0, none⟩)), (2, .int .i64 0), (14, .bool (((Int.fdiv a0.Tos 256) == 0) && ((Int.fdiv a0.Ttl 256) == 0)))]) (by kernel_rfl) ?_
  refine WL.both (fun b' => [(1, .pointer (some ⟨b1, 0, none⟩)), (2, .int .i64 0), (14, .bool b')]) (((Int.fdiv a0.Tos 256) == 0) && ((Int.fdiv a0.Ttl 256) == 0)) 5 [0] [] [1, 2, 19] (fun b' => [(1, .pointer (some ⟨b1, 0, none⟩)), (2, .int .i64 0), (19, .bool (b' && ((Int.fdiv a0.Proto 256) == 0)))]) [b1] [] (fun _ => by kernel_rfl) (fun _ => by kernel_rfl) ?_
  refine WL.run 1 [] [1, 2, 3] (fun _ => [(1, .pointer (some ⟨b1, 0, none⟩)), (2, .int .i64 0), (3, .bool ((((Int.fdiv a0.Tos 256) == 0) && ((Int.fdiv a0.Ttl 256) == 0)) && ((Int.fdiv a0.Proto 256) == 0)))]) (fun _ => [(b1, .cells #[.int .i64 a0.Tos, .int .i64 a0.Id, .bool a0.Whole, .bool a0.More, .int .i64 a0.Off, .int .i64 a0.Ttl, .int .i64 a0.Proto, .int .u32 a0.Src, .int .u32 a0.Dst, .string a0.Body] 91 (0, 0))]) (fun _ => []) (fun _ => by kernel_rfl) (fun _ => ?_)
  refine WP.done ?_
  refine WP.seq ?_
  refine WP.seq ?_
  refine WP.region ?_
  refine WL.run 3 [] [1, 2, 22] (fun _ => [(1, .pointer (some ⟨b1, 0, none⟩)), (2, .int .i64 0), (22, .bool (!((((Int.fdiv a0.Tos 256) == 0) && ((Int.fdiv a0.Ttl 256) == 0)) && ((Int.fdiv a0.Proto 256) == 0))))]) (fun _ => [(b1, .cells #[.int .i64 a0.Tos, .int .i64 a0.Id, .bool a0.Whole, .bool a0.More, .int .i64 a0.Off, .int .i64 a0.Ttl, .int .i64 a0.Proto, .int .u32 a0.Src, .int .u32 a0.Dst, .string a0.Body] 91 (0, 0))]) (fun _ => []) (fun _ => by kernel_rfl) (fun _ => ?_)
  refine WL.sub [1, 2, 22] (L' := [(1, .pointer (some ⟨b1, 0, none⟩)), (2, .int .i64 0), (22, .bool (!((((Int.fdiv a0.Tos 256) == 0) && ((Int.fdiv a0.Ttl 256) == 0)) && ((Int.fdiv a0.Proto 256) == 0))))]) (by kernel_rfl) ?_
  refine WL.both (fun b' => [(1, .pointer (some ⟨b1, 0, none⟩)), (2, .int .i64 0), (22, .bool b')]) (!((((Int.fdiv a0.Tos 256) == 0) && ((Int.fdiv a0.Ttl 256) == 0)) && ((Int.fdiv a0.Proto 256) == 0))) 5 [] [0] [1, 2, 27] (fun b' => [(1, .pointer (some ⟨b1, 0, none⟩)), (2, .int .i64 0), (27, .bool (b' || ((Int.fdiv a0.Id 65536) != 0)))]) [] [b1] (fun _ => by kernel_rfl) (fun _ => by kernel_rfl) ?_
  refine WL.run 1 [] [1, 2, 28] (fun _ => [(1, .pointer (some ⟨b1, 0, none⟩)), (2, .int .i64 0), (28, .bool ((!((((Int.fdiv a0.Tos 256) == 0) && ((Int.fdiv a0.Ttl 256) == 0)) && ((Int.fdiv a0.Proto 256) == 0))) || ((Int.fdiv a0.Id 65536) != 0)))]) (fun _ => [(b1, .cells #[.int .i64 a0.Tos, .int .i64 a0.Id, .bool a0.Whole, .bool a0.More, .int .i64 a0.Off, .int .i64 a0.Ttl, .int .i64 a0.Proto, .int .u32 a0.Src, .int .u32 a0.Dst, .string a0.Body] 91 (0, 0))]) (fun _ => []) (fun _ => by kernel_rfl) (fun _ => ?_)
  refine WL.sub [1, 2, 28] (L' := [(1, .pointer (some ⟨b1, 0, none⟩)), (2, .int .i64 0), (28, .bool ((!((((Int.fdiv a0.Tos 256) == 0) && ((Int.fdiv a0.Ttl 256) == 0)) && ((Int.fdiv a0.Proto 256) == 0))) || ((Int.fdiv a0.Id 65536) != 0)))]) (by kernel_rfl) ?_
  refine WL.both (fun b' => [(1, .pointer (some ⟨b1, 0, none⟩)), (2, .int .i64 0), (28, .bool b')]) ((!((((Int.fdiv a0.Tos 256) == 0) && ((Int.fdiv a0.Ttl 256) == 0)) && ((Int.fdiv a0.Proto 256) == 0))) || ((Int.fdiv a0.Id 65536) != 0)) 5 [] [0] [1, 2, 33] (fun b' => [(1, .pointer (some ⟨b1, 0, none⟩)), (2, .int .i64 0), (33, .bool (b' || ((Int.fdiv a0.Off 8192) != 0)))]) [] [b1] (fun _ => by kernel_rfl) (fun _ => by kernel_rfl) ?_
  refine WL.run 1 [] [1, 2, 34] (fun _ => [(1, .pointer (some ⟨b1, 0, none⟩)), (2, .int .i64 0), (34, .bool (((!((((Int.fdiv a0.Tos 256) == 0) && ((Int.fdiv a0.Ttl 256) == 0)) && ((Int.fdiv a0.Proto 256) == 0))) || ((Int.fdiv a0.Id 65536) != 0)) || ((Int.fdiv a0.Off 8192) != 0)))]) (fun _ => [(b1, .cells #[.int .i64 a0.Tos, .int .i64 a0.Id, .bool a0.Whole, .bool a0.More, .int .i64 a0.Off, .int .i64 a0.Ttl, .int .i64 a0.Proto, .int .u32 a0.Src, .int .u32 a0.Dst, .string a0.Body] 91 (0, 0))]) (fun _ => []) (fun _ => by kernel_rfl) (fun _ => ?_)
  refine WL.sub [1, 2, 34] (L' := [(1, .pointer (some ⟨b1, 0, none⟩)), (2, .int .i64 0), (34, .bool (((!((((Int.fdiv a0.Tos 256) == 0) && ((Int.fdiv a0.Ttl 256) == 0)) && ((Int.fdiv a0.Proto 256) == 0))) || ((Int.fdiv a0.Id 65536) != 0)) || ((Int.fdiv a0.Off 8192) != 0)))]) (by kernel_rfl) ?_
  refine WL.both (fun b' => [(1, .pointer (some ⟨b1, 0, none⟩)), (2, .int .i64 0), (34, .bool b')]) (((!((((Int.fdiv a0.Tos 256) == 0) && ((Int.fdiv a0.Ttl 256) == 0)) && ((Int.fdiv a0.Proto 256) == 0))) || ((Int.fdiv a0.Id 65536) != 0)) || ((Int.fdiv a0.Off 8192) != 0)) 5 [] [0] [2, 39] (fun b' => [(2, .int .i64 0), (39, .bool (b' || (decide ((a0.Body.size : Int) > 65515))))]) [] [b1] (fun _ => by kernel_rfl) (fun _ => by kernel_rfl) ?_
  refine WP.done ?_
  refine WP.keep [false] (by kernel_rfl : _ = []) ?_
  refine WP.cond ((((!((((Int.fdiv a0.Tos 256) == 0) && ((Int.fdiv a0.Ttl 256) == 0)) && ((Int.fdiv a0.Proto 256) == 0))) || ((Int.fdiv a0.Id 65536) != 0)) || ((Int.fdiv a0.Off 8192) != 0)) || (decide ((a0.Body.size : Int) > 65515))) rfl rfl (fun c2 => ?_) (fun c2 => ?_)
  · replace hM := cond_t hM c2
    refine WP.seq ?_
    refine WP.run [] [2] (fun _ => [(2, .int .i64 61)]) (fun _ => []) (fun _ => []) (fun _ => by kernel_rfl) (fun _ => ?_)
    obtain rfl := Option.some.inj hM
    exact WP.ret [] [] (.int .i64 61) (by kernel_rfl) (fun w' hw => ⟨rfl, hw.pick [] rfl⟩)
  · replace hM := cond_f hM c2
    refine WP.skip ?_
    refine WP.seq ?_
    refine WP.run [] [2] (fun _ => [(2, .int .i64 0)]) (fun _ => []) (fun _ => []) (fun _ => by kernel_rfl) (fun _ => ?_)
    obtain rfl := Option.some.inj hM
    exact WP.ret [] [] (.int .i64 0) (by kernel_rfl) (fun w' hw => ⟨rfl, hw.pick [] rfl⟩)

end Go.Proofs.YtbodofjnfmjbpaaGreatDoor

namespace Go.Proofs.YtbodofjnfmjbpaaGreatDoor
open Go Eng
set_option linter.unusedVariables false
set_option linter.unusedSimpArgs false

/-! ### gangway/gangwayref06.Head: function 77 -/
def gangwayref06_Head.k1 (k : Nat) (a0 : api_Ip) (a1 : Int) (x5 : Int) : Option (ByteArray) :=
  (gangwayref01_Bytes.f k (u64 a0.Tos) 1).bind fun r6 =>
  (catS (⟨#[69]⟩ : ByteArray) r6).bind fun t8 =>
  (gangwayref01_Bytes.f k (u64 (i64 (20 + (a0.Body.size : Int)))) 2).bind fun r10 =>
  (catS t8 r10).bind fun t12 =>
  (gangwayref01_Bytes.f k (u64 a0.Id) 2).bind fun r14 =>
  (catS t12 r14).bind fun t16 =>
  (gangwayref01_Bytes.f k (u64 x5) 2).bind fun r18 =>
  (catS t16 r18).bind fun t20 =>
  (gangwayref01_Bytes.f k (u64 a0.Ttl) 1).bind fun r22 =>
  (catS t20 r22).bind fun t24 =>
  (gangwayref01_Bytes.f k (u64 a0.Proto) 1).bind fun r26 =>
  (catS t24 r26).bind fun t28 =>
  (gangwayref01_Bytes.f k (u64 a1) 2).bind fun r30 =>
  (catS t28 r30).bind fun t32 =>
  (gangwayref01_Bytes.f k (u64 a0.Src) 4).bind fun r34 =>
  (catS t32 r34).bind fun t36 =>
  (gangwayref01_Bytes.f k (u64 a0.Dst) 4).bind fun r38 =>
  (catS t36 r38).bind fun t40 =>
  some t40

def gangwayref06_Head.k2 (a0 : api_Ip) (k : Nat) (a1 : Int) (x3 : Int) : Option (ByteArray) :=
  bif a0.More then
    gangwayref06_Head.k1 k a0 a1 (i64 (x3 + 8192))
  else
    gangwayref06_Head.k1 k a0 a1 x3

def gangwayref06_Head.f (k : Nat) (a0 : api_Ip) (a1 : Int) : Option (ByteArray) :=
  bif a0.Whole then
    gangwayref06_Head.k2 a0 k a1 (i64 (a0.Off + 16384))
  else
    gangwayref06_Head.k2 a0 k a1 a0.Off

set_option maxRecDepth 100000 in
theorem gangwayref06_Head_calls (k : Nat) (a0 : api_Ip) (a1 : Int) (r : ByteArray) (h : gangwayref06_Head.f k a0 a1 = some r) : Pure Tryz.prog Glob 77 #[.agg #[.int .i64 a0.Tos, .int .i64 a0.Id, .bool a0.Whole, .bool a0.More, .int .i64 a0.Off, .int .i64 a0.Ttl, .int .i64 a0.Proto, .int .u32 a0.Src, .int .u32 a0.Dst, .string a0.Body], .int .i64 a1] (.string r) := by
  intro w Z hS
  refine calls_of (args := [.agg #[.int .i64 a0.Tos, .int .i64 a0.Id, .bool a0.Whole, .bool a0.More, .int .i64 a0.Off, .int .i64 a0.Ttl, .int .i64 a0.Proto, .int .u32 a0.Src, .int .u32 a0.Dst, .string a0.Body], .int .i64 a1]) (L := [(0, .agg #[.int .i64 a0.Tos, .int .i64 a0.Id, .bool a0.Whole, .bool a0.More, .int .i64 a0.Off, .int .i64 a0.Ttl, .int .i64 a0.Proto, .int .u32 a0.Src, .int .u32 a0.Dst, .string a0.Body]), (1, .int .i64 a1)]) (N := 61) (S := Sat w Z [] [] Glob) Tryz.func77 rfl rfl (Nat.le_of_ble_eq_true rfl) rfl hS ?_
  have hM := h
  clear h hS
  unfold gangwayref06_Head.f at hM
  refine WP.seq ?_
  refine WP.run [] [1, 2, 4] (fun b1 => [(1, .int .i64 a1), (2, .pointer (some ⟨b1, 0, none⟩)), (4, .string (⟨#[]⟩ : ByteArray))]) (fun b1 => [(b1, .cells #[.int .i64 a0.Tos, .int .i64 a0.Id, .bool a0.Whole, .bool a0.More, .int .i64 a0.Off, .int .i64 a0.Ttl, .int .i64 a0.Proto, .int .u32 a0.Src, .int .u32 a0.Dst, .string a0.Body] 91 (0, 0))]) (fun b1 => []) (fun b1 => by kernel_rfl) (fun b1 => ?_)
  refine WP.seq ?_
  refine WP.run [0] [1, 2, 4, 5] (fun _ => [(1, .int .i64 a1), (2, .pointer (some ⟨b1, 0, none⟩)), (4, .string (⟨#[]⟩ : ByteArray)), (5, .int .i64 a0.Off)]) (fun _ => [(b1, .cells #[.int .i64 a0.Tos, .int .i64 a0.Id, .bool a0.Whole, .bool a0.More, .int .i64 a0.Off, .int .i64 a0.Ttl, .int .i64 a0.Proto, .int .u32 a0.Src, .int .u32 a0.Dst, .string a0.Body] 91 (0, 0))]) (fun _ => [b1]) (fun _ => by kernel_rfl) (fun _ => ?_)
  refine WP.seqJoin (σ := Int) (fun st => gangwayref06_Head.k2 a0 k a1 st = some r) (fun st => [(1, .int .i64 a1), (2, .pointer (some ⟨b1, 0, none⟩)), (4, .string (⟨#[]⟩ : ByteArray)), (5, .int .i64 st)]) (fun st => Sat w Z [(b1, .cells #[.int .i64 a0.Tos, .int .i64 a0.Id, .bool a0.Whole, .bool a0.More, .int .i64 a0.Off, .int .i64 a0.Ttl, .int .i64 a0.Proto, .int .u32 a0.Src, .int .u32 a0.Dst, .string a0.Body] 91 (0, 0))] [] Glob) (fun st hM => ?_) (fun K2 => ?_)
  ·
    obtain ⟨x3, rfl⟩ : ∃ y, y = st := ⟨st, rfl⟩
    replace hM : gangwayref06_Head.k2 a0 k a1 x3 = some r := hM
    unfold gangwayref06_Head.k2 at hM
    show WP _ _ _ _ _ [(1, .int .i64 a1), (2, .pointer (some ⟨b1, 0, none⟩)), (4, .string (⟨#[]⟩ : ByteArray)), (5, .int .i64 x3)] (Sat w Z [(b1, .cells #[.int .i64 a0.Tos, .int .i64 a0.Id, .bool a0.Whole, .bool a0.More, .int .i64 a0.Off, .int .i64 a0.Ttl, .int .i64 a0.Proto, .int .u32 a0.Src, .int .u32 a0.Dst, .string a0.Body] 91 (0, 0))] [] Glob)
    refine WP.seqJoin (σ := Int) (fun st => gangwayref06_Head.k1 k a0 a1 st = some r) (fun st => [(1, .int .i64 a1), (2, .pointer (some ⟨b1, 0, none⟩)), (4, .string (⟨#[]⟩ : ByteArray)), (5, .int .i64 st)]) (fun st => Sat w Z [(b1, .cells #[.int .i64 a0.Tos, .int .i64 a0.Id, .bool a0.Whole, .bool a0.More, .int .i64 a0.Off, .int .i64 a0.Ttl, .int .i64 a0.Proto, .int .u32 a0.Src, .int .u32 a0.Dst, .string a0.Body] 91 (0, 0))] [] Glob) (fun st hM => ?_) (fun K1 => ?_)
    ·
      obtain ⟨x5, rfl⟩ : ∃ y, y = st := ⟨st, rfl⟩
      replace hM : gangwayref06_Head.k1 k a0 a1 x5 = some r := hM
      unfold gangwayref06_Head.k1 at hM
      show WP _ _ _ _ _ [(1, .int .i64 a1), (2, .pointer (some ⟨b1, 0, none⟩)), (4, .string (⟨#[]⟩ : ByteArray)), (5, .int .i64 x5)] (Sat w Z [(b1, .cells #[.int .i64 a0.Tos, .int .i64 a0.Id, .bool a0.Whole, .bool a0.More, .int .i64 a0.Off, .int .i64 a0.Ttl, .int .i64 a0.Proto, .int .u32 a0.Src, .int .u32 a0.Dst, .string a0.Body] 91 (0, 0))] [] Glob)
      refine WP.seq ?_
      refine WP.quiet (by kernel_rfl) (by kernel_rfl) ?_
      refine QL.run 3 [0] [1, 2, 4, 5, 18] [b1] [(1, .int .i64 a1), (2, .pointer (some ⟨b1, 0, none⟩)), (4, .string (⟨#[]⟩ : ByteArray)), (5, .int .i64 x5), (18, .int .u64 (u64 a0.Tos))] (by kernel_rfl) ?_
      obtain ⟨r6, h7, hM⟩ := bind_some hM
      refine QL.callP [] [] (gangwayref01_Bytes_calls k (u64 a0.Tos) 1 _ h7) (fun _ h => h) (by kernel_rfl) (by kernel_rfl) rfl ?_
      obtain ⟨t8, h9, hM⟩ := bind_some hM
      refine QL.val (fun _ => run_catS (a := (⟨#[69]⟩ : ByteArray)) (b := r6) (by kernel_rfl) (by kernel_rfl) h9) (by kernel_rfl) (by kernel_rfl) rfl ?_
      refine QL.run 5 [0] [1, 2, 4, 5, 20, 25] [b1] [(1, .int .i64 a1), (2, .pointer (some ⟨b1, 0, none⟩)), (4, .string (⟨#[]⟩ : ByteArray)), (5, .int .i64 x5), (20, .string t8), (25, .int .u64 (u64 (i64 (20 + (a0.Body.size : Int)))))] (by kernel_rfl) ?_
      obtain ⟨r10, h11, hM⟩ := bind_some hM
      refine QL.callP [] [] (gangwayref01_Bytes_calls k (u64 (i64 (20 + (a0.Body.size : Int)))) 2 _ h11) (fun _ h => h) (by kernel_rfl) (by kernel_rfl) rfl ?_
      obtain ⟨t12, h13, hM⟩ := bind_some hM
      refine QL.val (fun _ => run_catS (a := t8) (b := r10) (by kernel_rfl) (by kernel_rfl) h13) (by kernel_rfl) (by kernel_rfl) rfl ?_
      refine QL.run 3 [0] [1, 2, 4, 5, 27, 30] [b1] [(1, .int .i64 a1), (2, .pointer (some ⟨b1, 0, none⟩)), (4, .string (⟨#[]⟩ : ByteArray)), (5, .int .i64 x5), (27, .string t12), (30, .int .u64 (u64 a0.Id))] (by kernel_rfl) ?_
      obtain ⟨r14, h15, hM⟩ := bind_some hM
      refine QL.callP [] [] (gangwayref01_Bytes_calls k (u64 a0.Id) 2 _ h15) (fun _ h => h) (by kernel_rfl) (by kernel_rfl) rfl ?_
      obtain ⟨t16, h17, hM⟩ := bind_some hM
      refine QL.val (fun _ => run_catS (a := t12) (b := r14) (by kernel_rfl) (by kernel_rfl) h17) (by kernel_rfl) (by kernel_rfl) rfl ?_
      refine QL.run 2 [] [1, 2, 4, 32, 34] [] [(1, .int .i64 a1), (2, .pointer (some ⟨b1, 0, none⟩)), (4, .string (⟨#[]⟩ : ByteArray)), (32, .string t16), (34, .int .u64 (u64 x5))] (by kernel_rfl) ?_
      obtain ⟨r18, h19, hM⟩ := bind_some hM
      refine QL.callP [] [] (gangwayref01_Bytes_calls k (u64 x5) 2 _ h19) (fun _ h => h) (by kernel_rfl) (by kernel_rfl) rfl ?_
      obtain ⟨t20, h21, hM⟩ := bind_some hM
      refine QL.val (fun _ => run_catS (a := t16) (b := r18) (by kernel_rfl) (by kernel_rfl) h21) (by kernel_rfl) (by kernel_rfl) rfl ?_
      refine QL.run 3 [0] [1, 2, 4, 36, 39] [b1] [(1, .int .i64 a1), (2, .pointer (some ⟨b1, 0, none⟩)), (4, .string (⟨#[]⟩ : ByteArray)), (36, .string t20), (39, .int .u64 (u64 a0.Ttl))] (by kernel_rfl) ?_
      obtain ⟨r22, h23, hM⟩ := bind_some hM
      refine QL.callP [] [] (gangwayref01_Bytes_calls k (u64 a0.Ttl) 1 _ h23) (fun _ h => h) (by kernel_rfl) (by kernel_rfl) rfl ?_
      obtain ⟨t24, h25, hM⟩ := bind_some hM
      refine QL.val (fun _ => run_catS (a := t20) (b := r22) (by kernel_rfl) (by kernel_rfl) h25) (by kernel_rfl) (by kernel_rfl) rfl ?_
      refine QL.run 3 [0] [1, 2, 4, 41, 44] [b1] [(1, .int .i64 a1), (2, .pointer (some ⟨b1, 0, none⟩)), (4, .string (⟨#[]⟩ : ByteArray)), (41, .string t24), (44, .int .u64 (u64 a0.Proto))] (by kernel_rfl) ?_
      obtain ⟨r26, h27, hM⟩ := bind_some hM
      refine QL.callP [] [] (gangwayref01_Bytes_calls k (u64 a0.Proto) 1 _ h27) (fun _ h => h) (by kernel_rfl) (by kernel_rfl) rfl ?_
      obtain ⟨t28, h29, hM⟩ := bind_some hM
      refine QL.val (fun _ => run_catS (a := t24) (b := r26) (by kernel_rfl) (by kernel_rfl) h29) (by kernel_rfl) (by kernel_rfl) rfl ?_
      refine QL.run 2 [] [2, 4, 46, 48] [] [(2, .pointer (some ⟨b1, 0, none⟩)), (4, .string (⟨#[]⟩ : ByteArray)), (46, .string t28), (48, .int .u64 (u64 a1))] (by kernel_rfl) ?_
      obtain ⟨r30, h31, hM⟩ := bind_some hM
      refine QL.callP [] [] (gangwayref01_Bytes_calls k (u64 a1) 2 _ h31) (fun _ h => h) (by kernel_rfl) (by kernel_rfl) rfl ?_
      obtain ⟨t32, h33, hM⟩ := bind_some hM
      refine QL.val (fun _ => run_catS (a := t28) (b := r30) (by kernel_rfl) (by kernel_rfl) h33) (by kernel_rfl) (by kernel_rfl) rfl ?_
      refine QL.run 3 [0] [2, 4, 50, 53] [b1] [(2, .pointer (some ⟨b1, 0, none⟩)), (4, .string (⟨#[]⟩ : ByteArray)), (50, .string t32), (53, .int .u64 (u64 a0.Src))] (by kernel_rfl) ?_
      obtain ⟨r34, h35, hM⟩ := bind_some hM
      refine QL.callP [] [] (gangwayref01_Bytes_calls k (u64 a0.Src) 4 _ h35) (fun _ h => h) (by kernel_rfl) (by kernel_rfl) rfl ?_
      obtain ⟨t36, h37, hM⟩ := bind_some hM
      refine QL.val (fun _ => run_catS (a := t32) (b := r34) (by kernel_rfl) (by kernel_rfl) h37) (by kernel_rfl) (by kernel_rfl) rfl ?_
      refine QL.run 3 [0] [4, 55, 58] [b1] [(4, .string (⟨#[]⟩ : ByteArray)), (55, .string t36), (58, .int .u64 (u64 a0.Dst))] (by kernel_rfl) ?_
      obtain ⟨r38, h39, hM⟩ := bind_some hM
      refine QL.callP [] [] (gangwayref01_Bytes_calls k (u64 a0.Dst) 4 _ h39) (fun _ h => h) (by kernel_rfl) (by kernel_rfl) rfl ?_
      obtain ⟨t40, h41, hM⟩ := bind_some hM
      refine QL.val (fun _ => run_catS (a := t36) (b := r38) (by kernel_rfl) (by kernel_rfl) h41) (by kernel_rfl) (by kernel_rfl) rfl ?_
      refine QL.run 1 [] [4] [] [(4, .string t40)] (by kernel_rfl) ?_
      refine QL.done ?_
      refine WP.keep [false] (by kernel_rfl : _ = []) ?_
      obtain rfl := Option.some.inj hM
      exact WP.ret [] [] (.string t40) (by kernel_rfl) (fun w' hw => ⟨rfl, hw.pick [] rfl⟩)
    ·
      refine WP.seq ?_
      refine WP.run [0] [1, 2, 4, 5, 13] (fun _ => [(1, .int .i64 a1), (2, .pointer (some ⟨b1, 0, none⟩)), (4, .string (⟨#[]⟩ : ByteArray)), (5, .int .i64 x3), (13, .bool a0.More)]) (fun _ => [(b1, .cells #[.int .i64 a0.Tos, .int .i64 a0.Id, .bool a0.Whole, .bool a0.More, .int .i64 a0.Off, .int .i64 a0.Ttl, .int .i64 a0.Proto, .int .u32 a0.Src, .int .u32 a0.Dst, .string a0.Body] 91 (0, 0))]) (fun _ => [b1]) (fun _ => by kernel_rfl) (fun _ => ?_)
      refine WP.cond a0.More rfl rfl (fun c4 => ?_) (fun c4 => ?_)
      · replace hM := cond_t hM c4
        refine WP.run [] [1, 2, 4, 5] (fun _ => [(1, .int .i64 a1), (2, .pointer (some ⟨b1, 0, none⟩)), (4, .string (⟨#[]⟩ : ByteArray)), (5, .int .i64 (i64 (x3 + 8192)))]) (fun _ => [(b1, .cells #[.int .i64 a0.Tos, .int .i64 a0.Id, .bool a0.Whole, .bool a0.More, .int .i64 a0.Off, .int .i64 a0.Ttl, .int .i64 a0.Proto, .int .u32 a0.Src, .int .u32 a0.Dst, .string a0.Body] 91 (0, 0))]) (fun _ => []) (fun _ => by kernel_rfl) (fun _ => ?_)
        exact WP.sub [1, 2, 4, 5] (by kernel_rfl) (WP.pick [0] (by kernel_rfl) (by kernel_rfl) (K1 (i64 (x3 + 8192)) hM))
      · replace hM := cond_f hM c4
        refine WP.skip ?_
        exact WP.sub [1, 2, 4, 5] (by kernel_rfl) (WP.pick [0] (by kernel_rfl) (by kernel_rfl) (K1 x3 hM))
  ·
    refine WP.seq ?_
    refine WP.run [0] [1, 2, 4, 5, 9] (fun _ => [(1, .int .i64 a1), (2, .pointer (some ⟨b1, 0, none⟩)), (4, .string (⟨#[]⟩ : ByteArray)), (5, .int .i64 a0.Off), (9, .bool a0.Whole)]) (fun _ => [(b1, .cells #[.int .i64 a0.Tos, .int .i64 a0.Id, .bool a0.Whole, .bool a0.More, .int .i64 a0.Off, .int .i64 a0.Ttl, .int .i64 a0.Proto, .int .u32 a0.Src, .int .u32 a0.Dst, .string a0.Body] 91 (0, 0))]) (fun _ => [b1]) (fun _ => by kernel_rfl) (fun _ => ?_)
    refine WP.cond a0.Whole rfl rfl (fun c2 => ?_) (fun c2 => ?_)
    · replace hM := cond_t hM c2
      refine WP.run [] [1, 2, 4, 5] (fun _ => [(1, .int .i64 a1), (2, .pointer (some ⟨b1, 0, none⟩)), (4, .string (⟨#[]⟩ : ByteArray)), (5, .int .i64 (i64 (a0.Off + 16384)))]) (fun _ => [(b1, .cells #[.int .i64 a0.Tos, .int .i64 a0.Id, .bool a0.Whole, .bool a0.More, .int .i64 a0.Off, .int .i64 a0.Ttl, .int .i64 a0.Proto, .int .u32 a0.Src, .int .u32 a0.Dst, .string a0.Body] 91 (0, 0))]) (fun _ => []) (fun _ => by kernel_rfl) (fun _ => ?_)
      exact WP.sub [1, 2, 4, 5] (by kernel_rfl) (WP.pick [0] (by kernel_rfl) (by kernel_rfl) (K2 (i64 (a0.Off + 16384)) hM))
    · replace hM := cond_f hM c2
      refine WP.skip ?_
      exact WP.sub [1, 2, 4, 5] (by kernel_rfl) (WP.pick [0] (by kernel_rfl) (by kernel_rfl) (K2 a0.Off hM))

end Go.Proofs.YtbodofjnfmjbpaaGreatDoor

namespace Go.Proofs.YtbodofjnfmjbpaaGreatDoor
open Go Eng
set_option linter.unusedVariables false
set_option linter.unusedSimpArgs false

/-! ### gangway/gangwayref06.Build: function 45 -/
def gangwayref06_Build.f (k : Nat) (a0 : api_Ip) : Option (ByteArray × Int) :=
  (gangwayref06_Check.f a0).bind fun r2 =>
  bif (r2 != 0) then
    some ((⟨#[]⟩ : ByteArray), r2)
  else
    (gangwayref06_Head.f k a0 0).bind fun r5 =>
    (gangwayref03_Of.f k r5).bind fun r7 =>
    (gangwayref06_Head.f k a0 r7).bind fun r9 =>
    (catS r9 a0.Body).bind fun t11 =>
    some (t11, 0)

set_option maxRecDepth 100000 in
theorem gangwayref06_Build_calls (k : Nat) (a0 : api_Ip) (r : ByteArray × Int) (h : gangwayref06_Build.f k a0 = some r) : Pure Tryz.prog Glob 45 #[.agg #[.int .i64 a0.Tos, .int .i64 a0.Id, .bool a0.Whole, .bool a0.More, .int .i64 a0.Off, .int .i64 a0.Ttl, .int .i64 a0.Proto, .int .u32 a0.Src, .int .u32 a0.Dst, .string a0.Body]] (.tuple #[.string r.1, .int .i64 r.2]) := by
  intro w Z hS
  refine calls_of (args := [.agg #[.int .i64 a0.Tos, .int .i64 a0.Id, .bool a0.Whole, .bool a0.More, .int .i64 a0.Off, .int .i64 a0.Ttl, .int .i64 a0.Proto, .int .u32 a0.Src, .int .u32 a0.Dst, .string a0.Body]]) (L := [(0, .agg #[.int .i64 a0.Tos, .int .i64 a0.Id, .bool a0.Whole, .bool a0.More, .int .i64 a0.Off, .int .i64 a0.Ttl, .int .i64 a0.Proto, .int .u32 a0.Src, .int .u32 a0.Dst, .string a0.Body])]) (N := 18) (S := Sat w Z [] [] Glob) Tryz.func45 rfl rfl (Nat.le_of_ble_eq_true rfl) rfl hS ?_
  have hM := h
  clear h hS
  unfold gangwayref06_Build.f at hM
  refine WP.seq ?_
  refine WP.run [] [1, 2, 3] (fun b1 => [(1, .pointer (some ⟨b1, 0, none⟩)), (2, .string (⟨#[]⟩ : ByteArray)), (3, .int .i64 0)]) (fun b1 => [(b1, .cells #[.int .i64 a0.Tos, .int .i64 a0.Id, .bool a0.Whole, .bool a0.More, .int .i64 a0.Off, .int .i64 a0.Ttl, .int .i64 a0.Proto, .int .u32 a0.Src, .int .u32 a0.Dst, .string a0.Body] 91 (0, 0))]) (fun b1 => []) (fun b1 => by kernel_rfl) (fun b1 => ?_)
  refine WP.seq ?_
  refine WP.region ?_
  refine WL.run 1 [0, 0, 0, 0, 0, 0, 0, 0, 0, 0] [1, 2, 3, 5] (fun _ => [(1, .pointer (some ⟨b1, 0, none⟩)), (2, .string (⟨#[]⟩ : ByteArray)), (3, .int .i64 0), (5, .agg #[.int .i64 a0.Tos, .int .i64 a0.Id, .bool a0.Whole, .bool a0.More, .int .i64 a0.Off, .int .i64 a0.Ttl, .int .i64 a0.Proto, .int .u32 a0.Src, .int .u32 a0.Dst, .string a0.Body])]) (fun _ => [(b1, .cells #[.int .i64 a0.Tos, .int .i64 a0.Id, .bool a0.Whole, .bool a0.More, .int .i64 a0.Off, .int .i64 a0.Ttl, .int .i64 a0.Proto, .int .u32 a0.Src, .int .u32 a0.Dst, .string a0.Body] 91 (0, 0))]) (fun _ => [b1, b1, b1, b1, b1, b1, b1, b1, b1, b1]) (fun _ => by kernel_rfl) (fun _ => ?_)
  obtain ⟨r2, h3, hM⟩ := bind_some hM
  refine WL.callP [] [] (gangwayref06_Check_calls a0 _ h3) (fun _ h => h) (by kernel_rfl) (by kernel_rfl) rfl ?_
  refine WL.run 1 [] [1, 2, 3, 4] (fun _ => [(1, .pointer (some ⟨b1, 0, none⟩)), (2, .string (⟨#[]⟩ : ByteArray)), (3, .int .i64 0), (4, .int .i64 r2)]) (fun _ => [(b1, .cells #[.int .i64 a0.Tos, .int .i64 a0.Id, .bool a0.Whole, .bool a0.More, .int .i64 a0.Off, .int .i64 a0.Ttl, .int .i64 a0.Proto, .int .u32 a0.Src, .int .u32 a0.Dst, .string a0.Body] 91 (0, 0))]) (fun _ => []) (fun _ => by kernel_rfl) (fun _ => ?_)
  refine WP.done ?_
  refine WP.seq ?_
  refine WP.seq ?_
  refine WP.run [] [1, 2, 3, 4, 8] (fun _ => [(1, .pointer (some ⟨b1, 0, none⟩)), (2, .string (⟨#[]⟩ : ByteArray)), (3, .int .i64 0), (4, .int .i64 r2), (8, .bool (r2 != 0))]) (fun _ => [(b1, .cells #[.int .i64 a0.Tos, .int .i64 a0.Id, .bool a0.Whole, .bool a0.More, .int .i64 a0.Off, .int .i64 a0.Ttl, .int .i64 a0.Proto, .int .u32 a0.Src, .int .u32 a0.Dst, .string a0.Body] 91 (0, 0))]) (fun _ => []) (fun _ => by kernel_rfl) (fun _ => ?_)
  refine WP.cond (r2 != 0) rfl rfl (fun c4 => ?_) (fun c4 => ?_)
  · replace hM := cond_t hM c4
    refine WP.seq ?_
    refine WP.run [] [1, 2, 3] (fun _ => [(1, .pointer (some ⟨b1, 0, none⟩)), (2, .string (⟨#[]⟩ : ByteArray)), (3, .int .i64 r2)]) (fun _ => [(b1, .cells #[.int .i64 a0.Tos, .int .i64 a0.Id, .bool a0.Whole, .bool a0.More, .int .i64 a0.Off, .int .i64 a0.Ttl, .int .i64 a0.Proto, .int .u32 a0.Src, .int .u32 a0.Dst, .string a0.Body] 91 (0, 0))]) (fun _ => []) (fun _ => by kernel_rfl) (fun _ => ?_)
    obtain rfl := Option.some.inj hM
    exact WP.ret [] [] (.tuple #[.string (⟨#[]⟩ : ByteArray), .int .i64 r2]) (by kernel_rfl) (fun w' hw => ⟨rfl, hw.pick [] rfl⟩)
  · replace hM := cond_f hM c4
    refine WP.skip ?_
    refine WP.seq ?_
    refine WP.quiet (by kernel_rfl) (by kernel_rfl) ?_
    refine QL.run 2 [0, 0, 0, 0, 0, 0, 0, 0, 0, 0, 0, 0, 0, 0, 0, 0, 0, 0, 0, 0] [1, 2, 3, 10, 11] [b1, b1, b1, b1, b1, b1, b1, b1, b1, b1, b1, b1, b1, b1, b1, b1, b1, b1, b1, b1] [(1, .pointer (some ⟨b1, 0, none⟩)), (2, .string (⟨#[]⟩ : ByteArray)), (3, .int .i64 0), (10, .agg #[.int .i64 a0.Tos, .int .i64 a0.Id, .bool a0.Whole, .bool a0.More, .int .i64 a0.Off, .int .i64 a0.Ttl, .int .i64 a0.Proto, .int .u32 a0.Src, .int .u32 a0.Dst, .string a0.Body]), (11, .agg #[.int .i64 a0.Tos, .int .i64 a0.Id, .bool a0.Whole, .bool a0.More, .int .i64 a0.Off, .int .i64 a0.Ttl, .int .i64 a0.Proto, .int .u32 a0.Src, .int .u32 a0.Dst, .string a0.Body])] (by kernel_rfl) ?_
    obtain ⟨r5, h6, hM⟩ := bind_some hM
    refine QL.callP [] [] (gangwayref06_Head_calls k a0 0 _ h6) (fun _ h => h) (by kernel_rfl) (by kernel_rfl) rfl ?_
    obtain ⟨r7, h8, hM⟩ := bind_some hM
    refine QL.callP [] [] (gangwayref03_Of_calls k r5 _ h8) (fun _ h => h) (by kernel_rfl) (by kernel_rfl) rfl ?_
    obtain ⟨r9, h10, hM⟩ := bind_some hM
    refine QL.callP [] [] (gangwayref06_Head_calls k a0 r7 _ h10) (fun _ h => h) (by kernel_rfl) (by kernel_rfl) rfl ?_
    refine QL.run 2 [0] [2, 3, 14, 16] [b1] [(2, .string (⟨#[]⟩ : ByteArray)), (3, .int .i64 0), (14, .string r9), (16, .string a0.Body)] (by kernel_rfl) ?_
    obtain ⟨t11, h12, hM⟩ := bind_some hM
    refine QL.val (fun _ => run_catS (a := r9) (b := a0.Body) (by kernel_rfl) (by kernel_rfl) h12) (by kernel_rfl) (by kernel_rfl) rfl ?_
    refine QL.run 2 [] [2, 3] [] [(2, .string t11), (3, .int .i64 0)] (by kernel_rfl) ?_
    refine QL.done ?_
    refine WP.keep [false] (by kernel_rfl : _ = []) ?_
    obtain rfl := Option.some.inj hM
    exact WP.ret [] [] (.tuple #[.string t11, .int .i64 0]) (by kernel_rfl) (fun w' hw => ⟨rfl, hw.pick [] rfl⟩)

end Go.Proofs.YtbodofjnfmjbpaaGreatDoor

namespace Go.Proofs.YtbodofjnfmjbpaaGreatDoor
open Go Eng
set_option linter.unusedVariables false
set_option linter.unusedSimpArgs false

/-! ### gangway/gangwayref20.Make: function 23 -/
def gangwayref20_Make.f (k : Nat) (a0 : Int) (a1 : Int) (a2 : api_Udp) (a3 : Int) (a4 : Int) : Option (ByteArray × Int) :=
  (gangwayref07_Build.f k a0 a1 a2).bind fun (r2, r3) =>
  bif (r3 != 0) then
    some ((⟨#[]⟩ : ByteArray), r3)
  else
    bif decide ((i64 (20 + (r2.size : Int))) > a4) then
      some ((⟨#[]⟩ : ByteArray), 201)
    else
      (gangwayref06_Build.f k (api_Ip.mk 0 (bAnd .i64 a3 65535) true false 0 64 17 a0 a1 r2)).bind fun (r7, r8) =>
      bif (r8 != 0) then
        some ((⟨#[]⟩ : ByteArray), 201)
      else
        some (r7, 0)

set_option maxRecDepth 100000 in
theorem gangwayref20_Make_calls (k : Nat) (a0 : Int) (a1 : Int) (a2 : api_Udp) (a3 : Int) (a4 : Int) (r : ByteArray × Int) (h : gangwayref20_Make.f k a0 a1 a2 a3 a4 = some r) : Pure Tryz.prog Glob 23 #[.int .u32 a0, .int .u32 a1, .agg #[.int .i64 a2.Src, .int .i64 a2.Dst, .bool a2.NoSum, .string a2.Body], .int .i64 a3, .int .i64 a4] (.tuple #[.string r.1, .int .i64 r.2]) := by
  intro w Z hS
  refine calls_of (args := [.int .u32 a0, .int .u32 a1, .agg #[.int .i64 a2.Src, .int .i64 a2.Dst, .bool a2.NoSum, .string a2.Body], .int .i64 a3, .int .i64 a4]) (L := [(0, .int .u32 a0), (1, .int .u32 a1), (2, .agg #[.int .i64 a2.Src, .int .i64 a2.Dst, .bool a2.NoSum, .string a2.Body]), (3, .int .i64 a3), (4, .int .i64 a4)]) (N := 44) (S := Sat w Z [] [] Glob) Tryz.func23 rfl rfl (Nat.le_of_ble_eq_true rfl) rfl hS ?_
  have hM := h
  clear h hS
  unfold gangwayref20_Make.f at hM
  refine WP.seq ?_
  refine WP.run [] [0, 1, 3, 4, 7, 10, 11] (fun b1 => [(0, .int .u32 a0), (1, .int .u32 a1), (3, .int .i64 a3), (4, .int .i64 a4), (7, .pointer (some ⟨b1, 0, none⟩)), (10, .string (⟨#[]⟩ : ByteArray)), (11, .int .i64 0)]) (fun b1 => [(b1, .cells #[.int .i64 a2.Src, .int .i64 a2.Dst, .bool a2.NoSum, .string a2.Body] 40 (0, 0))]) (fun b1 => []) (fun b1 => by kernel_rfl) (fun b1 => ?_)
  refine WP.seq ?_
  refine WP.region ?_
  refine WL.run 3 [0, 0, 0, 0] [0, 1, 3, 4, 10, 11, 17, 18, 19] (fun _ => [(0, .int .u32 a0), (1, .int .u32 a1), (3, .int .i64 a3), (4, .int .i64 a4), (10, .string (⟨#[]⟩ : ByteArray)), (11, .int .i64 0), (17, .int .u32 a0), (18, .int .u32 a1), (19, .agg #[.int .i64 a2.Src, .int .i64 a2.Dst, .bool a2.NoSum, .string a2.Body])]) (fun _ => [(b1, .cells #[.int .i64 a2.Src, .int .i64 a2.Dst, .bool a2.NoSum, .string a2.Body] 40 (0, 0))]) (fun _ => [b1, b1, b1, b1]) (fun _ => by kernel_rfl) (fun _ => ?_)
  obtain ⟨⟨r2, r3⟩, h4, hM⟩ := bind_some hM
  dsimp only at hM
  refine WL.callP [] [] (gangwayref07_Build_calls k a0 a1 a2 _ h4) (fun _ h => h) (by kernel_rfl) (by kernel_rfl) rfl ?_
  refine WL.run 5 [] [0, 1, 3, 4, 10, 11, 12, 13] (fun _ => [(0, .int .u32 a0), (1, .int .u32 a1), (3, .int .i64 a3), (4, .int .i64 a4), (10, .string (⟨#[]⟩ : ByteArray)), (11, .int .i64 0), (12, .string r2), (13, .int .i64 r3)]) (fun _ => [(b1, .cells #[.int .i64 a2.Src, .int .i64 a2.Dst, .bool a2.NoSum, .string a2.Body] 40 (0, 0))]) (fun _ => []) (fun _ => by kernel_rfl) (fun _ => ?_)
  refine WP.done ?_
  refine WP.keep [false] (by kernel_rfl : _ = []) ?_
  refine WP.seq ?_
  refine WP.seq ?_
  refine WP.run [] [0, 1, 3, 4, 10, 11, 12, 13, 24] (fun _ => [(0, .int .u32 a0), (1, .int .u32 a1), (3, .int .i64 a3), (4, .int .i64 a4), (10, .string (⟨#[]⟩ : ByteArray)), (11, .int .i64 0), (12, .string r2), (13, .int .i64 r3), (24, .bool (r3 != 0))]) (fun _ => []) (fun _ => []) (fun _ => by kernel_rfl) (fun _ => ?_)
  refine WP.cond (r3 != 0) rfl rfl (fun c5 => ?_) (fun c5 => ?_)
  · replace hM := cond_t hM c5
    refine WP.seq ?_
    refine WP.run [] [0, 1, 3, 4, 10, 11, 12] (fun _ => [(0, .int .u32 a0), (1, .int .u32 a1), (3, .int .i64 a3), (4, .int .i64 a4), (10, .string (⟨#[]⟩ : ByteArray)), (11, .int .i64 r3), (12, .string r2)]) (fun _ => []) (fun _ => []) (fun _ => by kernel_rfl) (fun _ => ?_)
    obtain rfl := Option.some.inj hM
    exact WP.ret [] [] (.tuple #[.string (⟨#[]⟩ : ByteArray), .int .i64 r3]) (by kernel_rfl) (fun w' hw => ⟨rfl, hw.pick [] rfl⟩)
  · replace hM := cond_f hM c5
    refine WP.skip ?_
    refine WP.seq ?_
    refine WP.seq ?_
    refine WP.run [] [0, 1, 3, 10, 11, 12, 30] (fun _ => [(0, .int .u32 a0), (1, .int .u32 a1), (3, .int .i64 a3), (10, .string (⟨#[]⟩ : ByteArray)), (11, .int .i64 0), (12, .string r2), (30, .bool (decide ((i64 (20 + (r2.size : Int))) > a4)))]) (fun _ => []) (fun _ => []) (fun _ => by kernel_rfl) (fun _ => ?_)
    refine WP.cond (decide ((i64 (20 + (r2.size : Int))) > a4)) rfl rfl (fun c6 => ?_) (fun c6 => ?_)
    · replace hM := cond_t hM c6
      refine WP.seq ?_
      refine WP.run [] [0, 1, 3, 10, 11, 12] (fun _ => [(0, .int .u32 a0), (1, .int .u32 a1), (3, .int .i64 a3), (10, .string (⟨#[]⟩ : ByteArray)), (11, .int .i64 201), (12, .string r2)]) (fun _ => []) (fun _ => []) (fun _ => by kernel_rfl) (fun _ => ?_)
      obtain rfl := Option.some.inj hM
      exact WP.ret [] [] (.tuple #[.string (⟨#[]⟩ : ByteArray), .int .i64 201]) (by kernel_rfl) (fun w' hw => ⟨rfl, hw.pick [] rfl⟩)
    · replace hM := cond_f hM c6
      refine WP.skip ?_
      refine WP.seq ?_
      refine WP.region ?_
      refine WL.run 6 [] [10, 11, 37] (fun _ => [(10, .string (⟨#[]⟩ : ByteArray)), (11, .int .i64 0), (37, .agg #[.int .i64 0, .int .i64 (bAnd .i64 a3 65535), .bool true, .bool false, .int .i64 0, .int .i64 64, .int .i64 17, .int .u32 a0, .int .u32 a1, .string r2])]) (fun _ => []) (fun _ => []) (fun _ => by kernel_rfl) (fun _ => ?_)
      obtain ⟨⟨r7, r8⟩, h9, hM⟩ := bind_some hM
      dsimp only at hM
      refine WL.callP [] [] (gangwayref06_Build_calls k (api_Ip.mk 0 (bAnd .i64 a3 65535) true false 0 64 17 a0 a1 r2) _ h9) (fun _ h => h) (by kernel_rfl) (by kernel_rfl) rfl ?_
      refine WL.run 5 [] [10, 11, 14, 15] (fun _ => [(10, .string (⟨#[]⟩ : ByteArray)), (11, .int .i64 0), (14, .string r7), (15, .int .i64 r8)]) (fun _ => []) (fun _ => []) (fun _ => by kernel_rfl) (fun _ => ?_)
      refine WP.done ?_
      refine WP.seq ?_
      refine WP.seq ?_
      refine WP.run [] [10, 11, 14, 42] (fun _ => [(10, .string (⟨#[]⟩ : ByteArray)), (11, .int .i64 0), (14, .string r7), (42, .bool (r8 != 0))]) (fun _ => []) (fun _ => []) (fun _ => by kernel_rfl) (fun _ => ?_)
      refine WP.cond (r8 != 0) rfl rfl (fun c10 => ?_) (fun c10 => ?_)
      · replace hM := cond_t hM c10
        refine WP.seq ?_
        refine WP.run [] [10, 11, 14] (fun _ => [(10, .string (⟨#[]⟩ : ByteArray)), (11, .int .i64 201), (14, .string r7)]) (fun _ => []) (fun _ => []) (fun _ => by kernel_rfl) (fun _ => ?_)
        obtain rfl := Option.some.inj hM
        exact WP.ret [] [] (.tuple #[.string (⟨#[]⟩ : ByteArray), .int .i64 201]) (by kernel_rfl) (fun w' hw => ⟨rfl, hw.pick [] rfl⟩)
      · replace hM := cond_f hM c10
        refine WP.skip ?_
        refine WP.seq ?_
        refine WP.run [] [10, 11] (fun _ => [(10, .string r7), (11, .int .i64 0)]) (fun _ => []) (fun _ => []) (fun _ => by kernel_rfl) (fun _ => ?_)
        obtain rfl := Option.some.inj hM
        exact WP.ret [] [] (.tuple #[.string r7, .int .i64 0]) (by kernel_rfl) (fun w' hw => ⟨rfl, hw.pick [] rfl⟩)

end Go.Proofs.YtbodofjnfmjbpaaGreatDoor

namespace Go.Proofs.YtbodofjnfmjbpaaGreatDoor
open Go Eng
set_option linter.unusedVariables false
set_option linter.unusedSimpArgs false

/-! ### gangway/ether.Bare: function 17 -/
def ether_Bare.f (a0 : api_Frame) : Option (api_Frame) :=
  some (api_Frame.mk a0.Dst a0.Src (api_Tag.mk false 0 false 0) a0.Type_ a0.Body)

set_option maxRecDepth 100000 in
theorem ether_Bare_calls (a0 : api_Frame) (r : api_Frame) (h : ether_Bare.f a0 = some r) : Pure Tryz.prog Glob 17 #[.agg #[.int .u64 a0.Dst, .int .u64 a0.Src, .bool a0.Tag.Has, .int .i64 a0.Tag.Pri, .bool a0.Tag.Dei, .int .i64 a0.Tag.Vid, .int .i64 a0.Type_, .string a0.Body]] (.agg #[.int .u64 r.Dst, .int .u64 r.Src, .bool r.Tag.Has, .int .i64 r.Tag.Pri, .bool r.Tag.Dei, .int .i64 r.Tag.Vid, .int .i64 r.Type_, .string r.Body]) := by
  intro w Z hS
  refine calls_of (args := [.agg #[.int .u64 a0.Dst, .int .u64 a0.Src, .bool a0.Tag.Has, .int .i64 a0.Tag.Pri, .bool a0.Tag.Dei, .int .i64 a0.Tag.Vid, .int .i64 a0.Type_, .string a0.Body]]) (L := [(0, .agg #[.int .u64 a0.Dst, .int .u64 a0.Src, .bool a0.Tag.Has, .int .i64 a0.Tag.Pri, .bool a0.Tag.Dei, .int .i64 a0.Tag.Vid, .int .i64 a0.Type_, .string a0.Body])]) (N := 6) (S := Sat w Z [] [] Glob) Tryz.func17 rfl rfl (Nat.le_of_ble_eq_true rfl) rfl hS ?_
  have hM := h
  clear h hS
  unfold ether_Bare.f at hM
  refine WP.seq ?_
  refine WP.run [] [1, 2] (fun b1 => [(1, .pointer (some ⟨b1, 0, none⟩)), (2, .pointer (some ⟨(b1 + 1), 0, none⟩))]) (fun b1 => [(b1, .cells #[.int .u64 a0.Dst, .int .u64 a0.Src, .bool a0.Tag.Has, .int .i64 a0.Tag.Pri, .bool a0.Tag.Dei, .int .i64 a0.Tag.Vid, .int .i64 a0.Type_, .string a0.Body] 29 (0, 0)), ((b1 + 1), .cells #[.int .u64 0, .int .u64 0, .bool false, .int .i64 0, .bool false, .int .i64 0, .int .i64 0, .string (⟨#[]⟩ : ByteArray)] 29 (0, 0))]) (fun b1 => []) (fun b1 => by kernel_rfl) (fun b1 => ?_)
  refine WP.seq ?_
  refine WP.run [0, 0, 0, 0] [1, 2] (fun _ => [(1, .pointer (some ⟨b1, 0, none⟩)), (2, .pointer (some ⟨(b1 + 1), 0, none⟩))]) (fun _ => [(b1, .cells #[.int .u64 a0.Dst, .int .u64 a0.Src, .bool false, .int .i64 0, .bool false, .int .i64 0, .int .i64 a0.Type_, .string a0.Body] 29 (0, 0)), ((b1 + 1), .cells #[.int .u64 0, .int .u64 0, .bool false, .int .i64 0, .bool false, .int .i64 0, .int .i64 0, .string (⟨#[]⟩ : ByteArray)] 29 (0, 0))]) (fun _ => [b1, b1, b1, b1]) (fun _ => by kernel_rfl) (fun _ => ?_)
  refine WP.seq ?_
  refine WP.run [0, 0, 0, 0, 0, 0, 0, 0, 1, 1, 1, 1, 1, 1, 1, 1] [2] (fun _ => [(2, .pointer (some ⟨(b1 + 1), 0, none⟩))]) (fun _ => [(b1, .cells #[.int .u64 a0.Dst, .int .u64 a0.Src, .bool false, .int .i64 0, .bool false, .int .i64 0, .int .i64 a0.Type_, .string a0.Body] 29 (0, 0)), ((b1 + 1), .cells #[.int .u64 a0.Dst, .int .u64 a0.Src, .bool false, .int .i64 0, .bool false, .int .i64 0, .int .i64 a0.Type_, .string a0.Body] 29 (0, 0))]) (fun _ => [(b1 + 1), (b1 + 1), (b1 + 1), (b1 + 1), (b1 + 1), (b1 + 1), (b1 + 1), (b1 + 1), b1, b1, b1, b1, b1, b1, b1, b1]) (fun _ => by kernel_rfl) (fun _ => ?_)
  refine WP.keep [false, true] (by kernel_rfl : _ = [((b1 + 1), .cells #[.int .u64 a0.Dst, .int .u64 a0.Src, .bool false, .int .i64 0, .bool false, .int .i64 0, .int .i64 a0.Type_, .string a0.Body] 29 (0, 0))]) ?_
  obtain rfl := Option.some.inj hM
  exact WP.ret [0, 0, 0, 0, 0, 0, 0, 0] [(b1 + 1), (b1 + 1), (b1 + 1), (b1 + 1), (b1 + 1), (b1 + 1), (b1 + 1), (b1 + 1)] (.agg #[.int .u64 a0.Dst, .int .u64 a0.Src, .bool false, .int .i64 0, .bool false, .int .i64 0, .int .i64 a0.Type_, .string a0.Body]) (by kernel_rfl) (fun w' hw => ⟨rfl, hw.pick [] rfl⟩)

end Go.Proofs.YtbodofjnfmjbpaaGreatDoor

namespace Go.Proofs.YtbodofjnfmjbpaaGreatDoor
open Go Eng
set_option linter.unusedVariables false
set_option linter.unusedSimpArgs false

/-! ### gangway/ether.tag: function 63 -/
def ether_tag.f (a0 : api_Tag) : Option (Bool) :=
  bif !a0.Has then
    some ((a0.Has == false) && ((a0.Pri == 0) && ((a0.Dei == false) && ((a0.Vid == 0) && true))))
  else
    some ((((decide (a0.Pri ≥ 0)) && (decide (a0.Pri < 8))) && (decide (a0.Vid ≥ 0))) && (decide (a0.Vid < 4096)))

set_option maxRecDepth 100000 in
theorem ether_tag_calls (a0 : api_Tag) (r : Bool) (h : ether_tag.f a0 = some r) : Pure Tryz.prog Glob 63 #[.agg #[.bool a0.Has, .int .i64 a0.Pri, .bool a0.Dei, .int .i64 a0.Vid]] (.bool r) := by
  intro w Z hS
  refine calls_of (args := [.agg #[.bool a0.Has, .int .i64 a0.Pri, .bool a0.Dei, .int .i64 a0.Vid]]) (L := [(0, .agg #[.bool a0.Has, .int .i64 a0.Pri, .bool a0.Dei, .int .i64 a0.Vid])]) (N := 27) (S := Sat w Z [] [] Glob) Tryz.func63 rfl rfl (Nat.le_of_ble_eq_true rfl) rfl hS ?_
  have hM := h
  clear h hS
  unfold ether_tag.f at hM
  refine WP.seq ?_
  refine WP.run [] [1, 2] (fun b1 => [(1, .pointer (some ⟨b1, 0, none⟩)), (2, .bool false)]) (fun b1 => [(b1, .cells #[.bool a0.Has, .int .i64 a0.Pri, .bool a0.Dei, .int .i64 a0.Vid] 27 (0, 0))]) (fun b1 => []) (fun b1 => by kernel_rfl) (fun b1 => ?_)
  refine WP.seq ?_
  refine WP.seq ?_
  refine WP.run [0] [1, 2, 5] (fun _ => [(1, .pointer (some ⟨b1, 0, none⟩)), (2, .bool false), (5, .bool (!a0.Has))]) (fun _ => [(b1, .cells #[.bool a0.Has, .int .i64 a0.Pri, .bool a0.Dei, .int .i64 a0.Vid] 27 (0, 0))]) (fun _ => [b1]) (fun _ => by kernel_rfl) (fun _ => ?_)
  refine WP.cond (!a0.Has) rfl rfl (fun c2 => ?_) (fun c2 => ?_)
  · replace hM := cond_t hM c2
    refine WP.seq ?_
    refine WP.region ?_
    refine WL.run 2 [0, 0, 0, 0] [1, 2, 6, 7] (fun _ => [(1, .pointer (some ⟨b1, 0, none⟩)), (2, .bool false), (6, .agg #[.bool a0.Has, .int .i64 a0.Pri, .bool a0.Dei, .int .i64 a0.Vid]), (7, .agg #[.bool false, .int .i64 0, .bool false, .int .i64 0])]) (fun _ => [(b1, .cells #[.bool a0.Has, .int .i64 a0.Pri, .bool a0.Dei, .int .i64 a0.Vid] 27 (0, 0))]) (fun _ => [b1, b1, b1, b1]) (fun _ => by kernel_rfl) (fun _ => ?_)
    refine WL.val (fun _ => run_structEq (xs := #[.bool a0.Has, .int .i64 a0.Pri, .bool a0.Dei, .int .i64 a0.Vid]) (ys := #[.bool false, .int .i64 0, .bool false, .int .i64 0]) (b := ((a0.Has == false) && ((a0.Pri == 0) && ((a0.Dei == false) && ((a0.Vid == 0) && true))))) (by kernel_rfl) (by kernel_rfl) (by kernel_rfl) (by kernel_rfl)) (by kernel_rfl) (by kernel_rfl) rfl ?_
    refine WL.run 1 [] [1, 2] (fun _ => [(1, .pointer (some ⟨b1, 0, none⟩)), (2, .bool ((a0.Has == false) && ((a0.Pri == 0) && ((a0.Dei == false) && ((a0.Vid == 0) && true)))))]) (fun _ => [(b1, .cells #[.bool a0.Has, .int .i64 a0.Pri, .bool a0.Dei, .int .i64 a0.Vid] 27 (0, 0))]) (fun _ => []) (fun _ => by kernel_rfl) (fun _ => ?_)
    refine WP.done ?_
    obtain rfl := Option.some.inj hM
    exact WP.ret [] [] (.bool ((a0.Has == false) && ((a0.Pri == 0) && ((a0.Dei == false) && ((a0.Vid == 0) && true))))) (by kernel_rfl) (fun w' hw => ⟨rfl, hw.pick [] rfl⟩)
  · replace hM := cond_f hM c2
    refine WP.skip ?_
    refine WP.seq ?_
    refine WP.region ?_
    refine WL.run 4 [0] [1, 2, 12] (fun _ => [(1, .pointer (some ⟨b1, 0, none⟩)), (2, .bool false), (12, .bool (decide (a0.Pri ≥ 0)))]) (fun _ => [(b1, .cells #[.bool a0.Has, .int .i64 a0.Pri, .bool a0.Dei, .int .i64 a0.Vid] 27 (0, 0))]) (fun _ => [b1]) (fun _ => by kernel_rfl) (fun _ => ?_)
    refine WL.sub [1, 2, 12] (L' := [(1, .pointer (some ⟨b1, 0, none⟩)), (2, .bool false), (12, .bool (decide (a0.Pri ≥ 0)))]) (by kernel_rfl) ?_
    refine WL.both (fun b' => [(1, .pointer (some ⟨b1, 0, none⟩)), (2, .bool false), (12, .bool b')]) (decide (a0.Pri ≥ 0)) 4 [0] [] [1, 2, 16] (fun b' => [(1, .pointer (some ⟨b1, 0, none⟩)), (2, .bool false), (16, .bool (b' && (decide (a0.Pri < 8))))]) [b1] [] (fun _ => by kernel_rfl) (fun _ => by kernel_rfl) ?_
    refine WL.run 1 [] [1, 2, 17] (fun _ => [(1, .pointer (some ⟨b1, 0, none⟩)), (2, .bool false), (17, .bool ((decide (a0.Pri ≥ 0)) && (decide (a0.Pri < 8))))]) (fun _ => [(b1, .cells #[.bool a0.Has, .int .i64 a0.Pri, .bool a0.Dei, .int .i64 a0.Vid] 27 (0, 0))]) (fun _ => []) (fun _ => by kernel_rfl) (fun _ => ?_)
    refine WL.sub [1, 2, 17] (L' := [(1, .pointer (some ⟨b1, 0, none⟩)), (2, .bool false), (17, .bool ((decide (a0.Pri ≥ 0)) && (decide (a0.Pri < 8))))]) (by kernel_rfl) ?_
    refine WL.both (fun b' => [(1, .pointer (some ⟨b1, 0, none⟩)), (2, .bool false), (17, .bool b')]) ((decide (a0.Pri ≥ 0)) && (decide (a0.Pri < 8))) 4 [0] [] [1, 2, 21] (fun b' => [(1, .pointer (some ⟨b1, 0, none⟩)), (2, .bool false), (21, .bool (b' && (decide (a0.Vid ≥ 0))))]) [b1] [] (fun _ => by kernel_rfl) (fun _ => by kernel_rfl) ?_
    refine WL.run 1 [] [1, 2, 22] (fun _ => [(1, .pointer (some ⟨b1, 0, none⟩)), (2, .bool false), (22, .bool (((decide (a0.Pri ≥ 0)) && (decide (a0.Pri < 8))) && (decide (a0.Vid ≥ 0))))]) (fun _ => [(b1, .cells #[.bool a0.Has, .int .i64 a0.Pri, .bool a0.Dei, .int .i64 a0.Vid] 27 (0, 0))]) (fun _ => []) (fun _ => by kernel_rfl) (fun _ => ?_)
    refine WL.sub [1, 2, 22] (L' := [(1, .pointer (some ⟨b1, 0, none⟩)), (2, .bool false), (22, .bool (((decide (a0.Pri ≥ 0)) && (decide (a0.Pri < 8))) && (decide (a0.Vid ≥ 0))))]) (by kernel_rfl) ?_
    refine WL.both (fun b' => [(1, .pointer (some ⟨b1, 0, none⟩)), (2, .bool false), (22, .bool b')]) (((decide (a0.Pri ≥ 0)) && (decide (a0.Pri < 8))) && (decide (a0.Vid ≥ 0))) 4 [0] [] [2, 26] (fun b' => [(2, .bool false), (26, .bool (b' && (decide (a0.Vid < 4096))))]) [b1] [] (fun _ => by kernel_rfl) (fun _ => by kernel_rfl) ?_
    refine WL.run 1 [] [2] (fun _ => [(2, .bool ((((decide (a0.Pri ≥ 0)) && (decide (a0.Pri < 8))) && (decide (a0.Vid ≥ 0))) && (decide (a0.Vid < 4096))))]) (fun _ => [(b1, .cells #[.bool a0.Has, .int .i64 a0.Pri, .bool a0.Dei, .int .i64 a0.Vid] 27 (0, 0))]) (fun _ => []) (fun _ => by kernel_rfl) (fun _ => ?_)
    refine WP.done ?_
    refine WP.keep [false] (by kernel_rfl : _ = []) ?_
    obtain rfl := Option.some.inj hM
    exact WP.ret [] [] (.bool ((((decide (a0.Pri ≥ 0)) && (decide (a0.Pri < 8))) && (decide (a0.Vid ≥ 0))) && (decide (a0.Vid < 4096)))) (by kernel_rfl) (fun w' hw => ⟨rfl, hw.pick [] rfl⟩)

end Go.Proofs.YtbodofjnfmjbpaaGreatDoor

namespace Go.Proofs.YtbodofjnfmjbpaaGreatDoor
open Go Eng
set_option linter.unusedVariables false
set_option linter.unusedSimpArgs false

/-! ### gangway/ether.size: function 64 -/
def ether_size.k1 (x3 : Int) : Option (Int) :=
  some x3

def ether_size.f (a0 : api_Frame) : Option (Int) :=
  bif a0.Tag.Has then
    ether_size.k1 (i64 ((i64 (14 + (a0.Body.size : Int))) + 4))
  else
    ether_size.k1 (i64 (14 + (a0.Body.size : Int)))

set_option maxRecDepth 100000 in
theorem ether_size_calls (a0 : api_Frame) (r : Int) (h : ether_size.f a0 = some r) : Pure Tryz.prog Glob 64 #[.agg #[.int .u64 a0.Dst, .int .u64 a0.Src, .bool a0.Tag.Has, .int .i64 a0.Tag.Pri, .bool a0.Tag.Dei, .int .i64 a0.Tag.Vid, .int .i64 a0.Type_, .string a0.Body]] (.int .i64 r) := by
  intro w Z hS
  refine calls_of (args := [.agg #[.int .u64 a0.Dst, .int .u64 a0.Src, .bool a0.Tag.Has, .int .i64 a0.Tag.Pri, .bool a0.Tag.Dei, .int .i64 a0.Tag.Vid, .int .i64 a0.Type_, .string a0.Body]]) (L := [(0, .agg #[.int .u64 a0.Dst, .int .u64 a0.Src, .bool a0.Tag.Has, .int .i64 a0.Tag.Pri, .bool a0.Tag.Dei, .int .i64 a0.Tag.Vid, .int .i64 a0.Type_, .string a0.Body])]) (N := 14) (S := Sat w Z [] [] Glob) Tryz.func64 rfl rfl (Nat.le_of_ble_eq_true rfl) rfl hS ?_
  have hM := h
  clear h hS
  unfold ether_size.f at hM
  refine WP.seq ?_
  refine WP.run [] [1, 2] (fun b1 => [(1, .pointer (some ⟨b1, 0, none⟩)), (2, .int .i64 0)]) (fun b1 => [(b1, .cells #[.int .u64 a0.Dst, .int .u64 a0.Src, .bool a0.Tag.Has, .int .i64 a0.Tag.Pri, .bool a0.Tag.Dei, .int .i64 a0.Tag.Vid, .int .i64 a0.Type_, .string a0.Body] 29 (0, 0))]) (fun b1 => []) (fun b1 => by kernel_rfl) (fun b1 => ?_)
  refine WP.seq ?_
  refine WP.run [0] [1, 2, 3] (fun _ => [(1, .pointer (some ⟨b1, 0, none⟩)), (2, .int .i64 0), (3, .int .i64 (i64 (14 + (a0.Body.size : Int))))]) (fun _ => [(b1, .cells #[.int .u64 a0.Dst, .int .u64 a0.Src, .bool a0.Tag.Has, .int .i64 a0.Tag.Pri, .bool a0.Tag.Dei, .int .i64 a0.Tag.Vid, .int .i64 a0.Type_, .string a0.Body] 29 (0, 0))]) (fun _ => [b1]) (fun _ => by kernel_rfl) (fun _ => ?_)
  refine WP.seqJoin (σ := Int) (fun st => ether_size.k1 st = some r) (fun st => [(2, .int .i64 0), (3, .int .i64 st)]) (fun st => Sat w Z [] [] Glob) (fun st hM => ?_) (fun K1 => ?_)
  ·
    obtain ⟨x3, rfl⟩ : ∃ y, y = st := ⟨st, rfl⟩
    replace hM : ether_size.k1 x3 = some r := hM
    unfold ether_size.k1 at hM
    show WP _ _ _ _ _ [(2, .int .i64 0), (3, .int .i64 x3)] (Sat w Z [] [] Glob)
    refine WP.seq ?_
    refine WP.run [] [2] (fun _ => [(2, .int .i64 x3)]) (fun _ => []) (fun _ => []) (fun _ => by kernel_rfl) (fun _ => ?_)
    obtain rfl := Option.some.inj hM
    exact WP.ret [] [] (.int .i64 x3) (by kernel_rfl) (fun w' hw => ⟨rfl, hw.pick [] rfl⟩)
  ·
    refine WP.seq ?_
    refine WP.run [0] [2, 3, 10] (fun _ => [(2, .int .i64 0), (3, .int .i64 (i64 (14 + (a0.Body.size : Int)))), (10, .bool a0.Tag.Has)]) (fun _ => [(b1, .cells #[.int .u64 a0.Dst, .int .u64 a0.Src, .bool a0.Tag.Has, .int .i64 a0.Tag.Pri, .bool a0.Tag.Dei, .int .i64 a0.Tag.Vid, .int .i64 a0.Type_, .string a0.Body] 29 (0, 0))]) (fun _ => [b1]) (fun _ => by kernel_rfl) (fun _ => ?_)
    refine WP.keep [false] (by kernel_rfl : _ = []) ?_
    refine WP.cond a0.Tag.Has rfl rfl (fun c2 => ?_) (fun c2 => ?_)
    · replace hM := cond_t hM c2
      refine WP.run [] [2, 3] (fun _ => [(2, .int .i64 0), (3, .int .i64 (i64 ((i64 (14 + (a0.Body.size : Int))) + 4)))]) (fun _ => []) (fun _ => []) (fun _ => by kernel_rfl) (fun _ => ?_)
      exact WP.sub [2, 3] (by kernel_rfl) (WP.pick [] (by kernel_rfl) (by kernel_rfl) (K1 (i64 ((i64 (14 + (a0.Body.size : Int))) + 4)) hM))
    · replace hM := cond_f hM c2
      refine WP.skip ?_
      exact WP.sub [2, 3] (by kernel_rfl) (WP.pick [] (by kernel_rfl) (by kernel_rfl) (K1 (i64 (14 + (a0.Body.size : Int))) hM))

end Go.Proofs.YtbodofjnfmjbpaaGreatDoor

namespace Go.Proofs.YtbodofjnfmjbpaaGreatDoor
open Go Eng
set_option linter.unusedVariables false
set_option linter.unusedSimpArgs false

/-! ### gangway/ether.Check: function 35 -/
def ether_Check.k1 (a0 : api_Frame) (x7 : Bool) : Option (Int) :=
  bif x7 then
    some 41
  else
    bif ((a0.Type_ == 0) && (decide ((a0.Body.size : Int) > 1500))) then
      some 40
    else
      (ether_size.f a0).bind fun r10 =>
      bif decide (r10 > 1600) then
        some 41
      else
        some 0

def ether_Check.k2 (a0 : api_Frame) (x5 : Bool) : Option (Int) :=
  bif x5 then
    ether_Check.k1 a0 true
  else
    ether_Check.k1 a0 ((a0.Type_ != 0) && (!(((decide (a0.Type_ ≥ 1536)) && (decide (a0.Type_ ≤ 65535))) && (a0.Type_ != 33024))))

def ether_Check.f (a0 : api_Frame) : Option (Int) :=
  bif ((decide (a0.Dst ≥ 281474976710656)) || (decide (a0.Src ≥ 281474976710656))) then
    ether_Check.k2 a0 true
  else
    (ether_tag.f a0.Tag).bind fun r3 =>
    ether_Check.k2 a0 (!r3)

set_option maxRecDepth 100000 in
theorem ether_Check_calls (a0 : api_Frame) (r : Int) (h : ether_Check.f a0 = some r) : Pure Tryz.prog Glob 35 #[.agg #[.int .u64 a0.Dst, .int .u64 a0.Src, .bool a0.Tag.Has, .int .i64 a0.Tag.Pri, .bool a0.Tag.Dei, .int .i64 a0.Tag.Vid, .int .i64 a0.Type_, .string a0.Body]] (.int .i64 r) := by
  intro w Z hS
  refine calls_of (args := [.agg #[.int .u64 a0.Dst, .int .u64 a0.Src, .bool a0.Tag.Has, .int .i64 a0.Tag.Pri, .bool a0.Tag.Dei, .int .i64 a0.Tag.Vid, .int .i64 a0.Type_, .string a0.Body]]) (L := [(0, .agg #[.int .u64 a0.Dst, .int .u64 a0.Src, .bool a0.Tag.Has, .int .i64 a0.Tag.Pri, .bool a0.Tag.Dei, .int .i64 a0.Tag.Vid, .int .i64 a0.Type_, .string a0.Body])]) (N := 55) (S := Sat w Z [] [] Glob) Tryz.func35 rfl rfl (Nat.le_of_ble_eq_true rfl) rfl hS ?_
  have hM := h
  clear h hS
  unfold ether_Check.f at hM
  refine WP.seq ?_
  refine WP.run [] [1, 2] (fun b1 => [(1, .pointer (some ⟨b1, 0, none⟩)), (2, .int .i64 0)]) (fun b1 => [(b1, .cells #[.int .u64 a0.Dst, .int .u64 a0.Src, .bool a0.Tag.Has, .int .i64 a0.Tag.Pri, .bool a0.Tag.Dei, .int .i64 a0.Tag.Vid, .int .i64 a0.Type_, .string a0.Body] 29 (0, 0))]) (fun b1 => []) (fun b1 => by kernel_rfl) (fun b1 => ?_)
  refine WP.seq ?_
  refine WP.region ?_
  refine WL.run 4 [0] [1, 2, 7] (fun _ => [(1, .pointer (some ⟨b1, 0, none⟩)), (2, .int .i64 0), (7, .bool (decide (a0.Type_ ≥ 1536)))]) (fun _ => [(b1, .cells #[.int .u64 a0.Dst, .int .u64 a0.Src, .bool a0.Tag.Has, .int .i64 a0.Tag.Pri, .bool a0.Tag.Dei, .int .i64 a0.Tag.Vid, .int .i64 a0.Type_, .string a0.Body] 29 (0, 0))]) (fun _ => [b1]) (fun _ => by kernel_rfl) (fun _ => ?_)
  refine WL.sub [1, 2, 7] (L' := [(1, .pointer (some ⟨b1, 0, none⟩)), (2, .int .i64 0), (7, .bool (decide (a0.Type_ ≥ 1536)))]) (by kernel_rfl) ?_
  refine WL.both (fun b' => [(1, .pointer (some ⟨b1, 0, none⟩)), (2, .int .i64 0), (7, .bool b')]) (decide (a0.Type_ ≥ 1536)) 4 [0] [] [1, 2, 11] (fun b' => [(1, .pointer (some ⟨b1, 0, none⟩)), (2, .int .i64 0), (11, .bool (b' && (decide (a0.Type_ ≤ 65535))))]) [b1] [] (fun _ => by kernel_rfl) (fun _ => by kernel_rfl) ?_
  refine WL.run 1 [] [1, 2, 12] (fun _ => [(1, .pointer (some ⟨b1, 0, none⟩)), (2, .int .i64 0), (12, .bool ((decide (a0.Type_ ≥ 1536)) && (decide (a0.Type_ ≤ 65535))))]) (fun _ => [(b1, .cells #[.int .u64 a0.Dst, .int .u64 a0.Src, .bool a0.Tag.Has, .int .i64 a0.Tag.Pri, .bool a0.Tag.Dei, .int .i64 a0.Tag.Vid, .int .i64 a0.Type_, .string a0.Body] 29 (0, 0))]) (fun _ => []) (fun _ => by kernel_rfl) (fun _ => ?_)
  refine WL.sub [1, 2, 12] (L' := [(1, .pointer (some ⟨b1, 0, none⟩)), (2, .int .i64 0), (12, .bool ((decide (a0.Type_ ≥ 1536)) && (decide (a0.Type_ ≤ 65535))))]) (by kernel_rfl) ?_
  refine WL.both (fun b' => [(1, .pointer (some ⟨b1, 0, none⟩)), (2, .int .i64 0), (12, .bool b')]) ((decide (a0.Type_ ≥ 1536)) && (decide (a0.Type_ ≤ 65535))) 4 [0] [] [1, 2, 16] (fun b' => [(1, .pointer (some ⟨b1, 0, none⟩)), (2, .int .i64 0), (16, .bool (b' && (a0.Type_ != 33024)))]) [b1] [] (fun _ => by kernel_rfl) (fun _ => by kernel_rfl) ?_
  refine WL.run 1 [] [1, 2, 3] (fun _ => [(1, .pointer (some ⟨b1, 0, none⟩)), (2, .int .i64 0), (3, .bool (((decide (a0.Type_ ≥ 1536)) && (decide (a0.Type_ ≤ 65535))) && (a0.Type_ != 33024)))]) (fun _ => [(b1, .cells #[.int .u64 a0.Dst, .int .u64 a0.Src, .bool a0.Tag.Has, .int .i64 a0.Tag.Pri, .bool a0.Tag.Dei, .int .i64 a0.Tag.Vid, .int .i64 a0.Type_, .string a0.Body] 29 (0, 0))]) (fun _ => []) (fun _ => by kernel_rfl) (fun _ => ?_)
  refine WP.done ?_
  refine WP.seq ?_
  refine WP.block ?_
  refine WP.seq ?_
  refine WP.region ?_
  refine WL.run 4 [0] [1, 2, 3, 21] (fun _ => [(1, .pointer (some ⟨b1, 0, none⟩)), (2, .int .i64 0), (3, .bool (((decide (a0.Type_ ≥ 1536)) && (decide (a0.Type_ ≤ 65535))) && (a0.Type_ != 33024))), (21, .bool (decide (a0.Dst ≥ 281474976710656)))]) (fun _ => [(b1, .cells #[.int .u64 a0.Dst, .int .u64 a0.Src, .bool a0.Tag.Has, .int .i64 a0.Tag.Pri, .bool a0.Tag.Dei, .int .i64 a0.Tag.Vid, .int .i64 a0.Type_, .string a0.Body] 29 (0, 0))]) (fun _ => [b1]) (fun _ => by kernel_rfl) (fun _ => ?_)
  refine WL.sub [1, 2, 3, 21] (L' := [(1, .pointer (some ⟨b1, 0, none⟩)), (2, .int .i64 0), (3, .bool (((decide (a0.Type_ ≥ 1536)) && (decide (a0.Type_ ≤ 65535))) && (a0.Type_ != 33024))), (21, .bool (decide (a0.Dst ≥ 281474976710656)))]) (by kernel_rfl) ?_
  refine WL.both (fun b' => [(1, .pointer (some ⟨b1, 0, none⟩)), (2, .int .i64 0), (3, .bool (((decide (a0.Type_ ≥ 1536)) && (decide (a0.Type_ ≤ 65535))) && (a0.Type_ != 33024))), (21, .bool b')]) (decide (a0.Dst ≥ 281474976710656)) 4 [] [0] [1, 2, 3, 25] (fun b' => [(1, .pointer (some ⟨b1, 0, none⟩)), (2, .int .i64 0), (3, .bool (((decide (a0.Type_ ≥ 1536)) && (decide (a0.Type_ ≤ 65535))) && (a0.Type_ != 33024))), (25, .bool (b' || (decide (a0.Src ≥ 281474976710656))))]) [] [b1] (fun _ => by kernel_rfl) (fun _ => by kernel_rfl) ?_
  refine WL.run 1 [] [1, 2, 3, 26] (fun _ => [(1, .pointer (some ⟨b1, 0, none⟩)), (2, .int .i64 0), (3, .bool (((decide (a0.Type_ ≥ 1536)) && (decide (a0.Type_ ≤ 65535))) && (a0.Type_ != 33024))), (26, .bool ((decide (a0.Dst ≥ 281474976710656)) || (decide (a0.Src ≥ 281474976710656))))]) (fun _ => [(b1, .cells #[.int .u64 a0.Dst, .int .u64 a0.Src, .bool a0.Tag.Has, .int .i64 a0.Tag.Pri, .bool a0.Tag.Dei, .int .i64 a0.Tag.Vid, .int .i64 a0.Type_, .string a0.Body] 29 (0, 0))]) (fun _ => []) (fun _ => by kernel_rfl) (fun _ => ?_)
  refine WL.sub [1, 2, 3, 26] (L' := [(1, .pointer (some ⟨b1, 0, none⟩)), (2, .int .i64 0), (3, .bool (((decide (a0.Type_ ≥ 1536)) && (decide (a0.Type_ ≤ 65535))) && (a0.Type_ != 33024))), (26, .bool ((decide (a0.Dst ≥ 281474976710656)) || (decide (a0.Src ≥ 281474976710656))))]) (by kernel_rfl) ?_
  refine WL.join (σ := Bool) 5 (fun st => ether_Check.k2 a0 st = some r) (fun st => [(1, .pointer (some ⟨b1, 0, none⟩)), (2, .int .i64 0), (3, .bool (((decide (a0.Type_ ≥ 1536)) && (decide (a0.Type_ ≤ 65535))) && (a0.Type_ != 33024))), (31, .bool st)]) (fun st => Sat w Z [(b1, .cells #[.int .u64 a0.Dst, .int .u64 a0.Src, .bool a0.Tag.Has, .int .i64 a0.Tag.Pri, .bool a0.Tag.Dei, .int .i64 a0.Tag.Vid, .int .i64 a0.Type_, .string a0.Body] 29 (0, 0))] [] Glob) (fun st hM => ?_) (fun K2 => ?_)
  ·
    obtain ⟨x5, rfl⟩ : ∃ y, y = st := ⟨st, rfl⟩
    replace hM : ether_Check.k2 a0 x5 = some r := hM
    unfold ether_Check.k2 at hM
    show WL _ _ _ _ _ [(1, .pointer (some ⟨b1, 0, none⟩)), (2, .int .i64 0), (3, .bool (((decide (a0.Type_ ≥ 1536)) && (decide (a0.Type_ ≤ 65535))) && (a0.Type_ != 33024))), (31, .bool x5)] (Sat w Z [(b1, .cells #[.int .u64 a0.Dst, .int .u64 a0.Src, .bool a0.Tag.Has, .int .i64 a0.Tag.Pri, .bool a0.Tag.Dei, .int .i64 a0.Tag.Vid, .int .i64 a0.Type_, .string a0.Body] 29 (0, 0))] [] Glob)
    refine WL.run 1 [] [1, 2, 3, 32] (fun _ => [(1, .pointer (some ⟨b1, 0, none⟩)), (2, .int .i64 0), (3, .bool (((decide (a0.Type_ ≥ 1536)) && (decide (a0.Type_ ≤ 65535))) && (a0.Type_ != 33024))), (32, .bool x5)]) (fun _ => [(b1, .cells #[.int .u64 a0.Dst, .int .u64 a0.Src, .bool a0.Tag.Has, .int .i64 a0.Tag.Pri, .bool a0.Tag.Dei, .int .i64 a0.Tag.Vid, .int .i64 a0.Type_, .string a0.Body] 29 (0, 0))]) (fun _ => []) (fun _ => by kernel_rfl) (fun _ => ?_)
    refine WL.sub [1, 2, 3, 32] (L' := [(1, .pointer (some ⟨b1, 0, none⟩)), (2, .int .i64 0), (3, .bool (((decide (a0.Type_ ≥ 1536)) && (decide (a0.Type_ ≤ 65535))) && (a0.Type_ != 33024))), (32, .bool x5)]) (by kernel_rfl) ?_
    refine WL.join (σ := Bool) 8 (fun st => ether_Check.k1 a0 st = some r) (fun st => [(1, .pointer (some ⟨b1, 0, none⟩)), (2, .int .i64 0), (40, .bool st)]) (fun st => Sat w Z [(b1, .cells #[.int .u64 a0.Dst, .int .u64 a0.Src, .bool a0.Tag.Has, .int .i64 a0.Tag.Pri, .bool a0.Tag.Dei, .int .i64 a0.Tag.Vid, .int .i64 a0.Type_, .string a0.Body] 29 (0, 0))] [] Glob) (fun st hM => ?_) (fun K1 => ?_)
    ·
      obtain ⟨x7, rfl⟩ : ∃ y, y = st := ⟨st, rfl⟩
      replace hM : ether_Check.k1 a0 x7 = some r := hM
      unfold ether_Check.k1 at hM
      show WL _ _ _ _ _ [(1, .pointer (some ⟨b1, 0, none⟩)), (2, .int .i64 0), (40, .bool x7)] (Sat w Z [(b1, .cells #[.int .u64 a0.Dst, .int .u64 a0.Src, .bool a0.Tag.Has, .int .i64 a0.Tag.Pri, .bool a0.Tag.Dei, .int .i64 a0.Tag.Vid, .int .i64 a0.Type_, .string a0.Body] 29 (0, 0))] [] Glob)
      refine WL.run 1 [] [1, 2, 17] (fun _ => [(1, .pointer (some ⟨b1, 0, none⟩)), (2, .int .i64 0), (17, .bool x7)]) (fun _ => [(b1, .cells #[.int .u64 a0.Dst, .int .u64 a0.Src, .bool a0.Tag.Has, .int .i64 a0.Tag.Pri, .bool a0.Tag.Dei, .int .i64 a0.Tag.Vid, .int .i64 a0.Type_, .string a0.Body] 29 (0, 0))]) (fun _ => []) (fun _ => by kernel_rfl) (fun _ => ?_)
      refine WP.done ?_
      refine WP.cond x7 rfl rfl (fun c8 => ?_) (fun c8 => ?_)
      · replace hM := cond_t hM c8
        refine WP.seq ?_
        refine WP.run [] [2] (fun _ => [(2, .int .i64 41)]) (fun _ => [(b1, .cells #[.int .u64 a0.Dst, .int .u64 a0.Src, .bool a0.Tag.Has, .int .i64 a0.Tag.Pri, .bool a0.Tag.Dei, .int .i64 a0.Tag.Vid, .int .i64 a0.Type_, .string a0.Body] 29 (0, 0))]) (fun _ => []) (fun _ => by kernel_rfl) (fun _ => ?_)
        refine WP.keep [false] (by kernel_rfl : _ = []) ?_
        obtain rfl := Option.some.inj hM
        exact WP.ret [] [] (.int .i64 41) (by kernel_rfl) (fun w' hw => ⟨rfl, hw.pick [] rfl⟩)
      · replace hM := cond_f hM c8
        refine WP.seq ?_
        refine WP.region ?_
        refine WL.run 4 [0] [1, 2, 45] (fun _ => [(1, .pointer (some ⟨b1, 0, none⟩)), (2, .int .i64 0), (45, .bool (a0.Type_ == 0))]) (fun _ => [(b1, .cells #[.int .u64 a0.Dst, .int .u64 a0.Src, .bool a0.Tag.Has, .int .i64 a0.Tag.Pri, .bool a0.Tag.Dei, .int .i64 a0.Tag.Vid, .int .i64 a0.Type_, .string a0.Body] 29 (0, 0))]) (fun _ => [b1]) (fun _ => by kernel_rfl) (fun _ => ?_)
        refine WL.sub [1, 2, 45] (L' := [(1, .pointer (some ⟨b1, 0, none⟩)), (2, .int .i64 0), (45, .bool (a0.Type_ == 0))]) (by kernel_rfl) ?_
        refine WL.both (fun b' => [(1, .pointer (some ⟨b1, 0, none⟩)), (2, .int .i64 0), (45, .bool b')]) (a0.Type_ == 0) 5 [0] [] [1, 2, 50] (fun b' => [(1, .pointer (some ⟨b1, 0, none⟩)), (2, .int .i64 0), (50, .bool (b' && (decide ((a0.Body.size : Int) > 1500))))]) [b1] [] (fun _ => by kernel_rfl) (fun _ => by kernel_rfl) ?_
        refine WL.run 1 [] [1, 2, 41] (fun _ => [(1, .pointer (some ⟨b1, 0, none⟩)), (2, .int .i64 0), (41, .bool ((a0.Type_ == 0) && (decide ((a0.Body.size : Int) > 1500))))]) (fun _ => [(b1, .cells #[.int .u64 a0.Dst, .int .u64 a0.Src, .bool a0.Tag.Has, .int .i64 a0.Tag.Pri, .bool a0.Tag.Dei, .int .i64 a0.Tag.Vid, .int .i64 a0.Type_, .string a0.Body] 29 (0, 0))]) (fun _ => []) (fun _ => by kernel_rfl) (fun _ => ?_)
        refine WP.done ?_
        refine WP.cond ((a0.Type_ == 0) && (decide ((a0.Body.size : Int) > 1500))) rfl rfl (fun c9 => ?_) (fun c9 => ?_)
        · replace hM := cond_t hM c9
          refine WP.seq ?_
          refine WP.run [] [2] (fun _ => [(2, .int .i64 40)]) (fun _ => [(b1, .cells #[.int .u64 a0.Dst, .int .u64 a0.Src, .bool a0.Tag.Has, .int .i64 a0.Tag.Pri, .bool a0.Tag.Dei, .int .i64 a0.Tag.Vid, .int .i64 a0.Type_, .string a0.Body] 29 (0, 0))]) (fun _ => []) (fun _ => by kernel_rfl) (fun _ => ?_)
          refine WP.keep [false] (by kernel_rfl : _ = []) ?_
          obtain rfl := Option.some.inj hM
          exact WP.ret [] [] (.int .i64 40) (by kernel_rfl) (fun w' hw => ⟨rfl, hw.pick [] rfl⟩)
        · replace hM := cond_f hM c9
          refine WP.seq ?_
          refine WP.region ?_
          refine WL.run 1 [0, 0, 0, 0, 0, 0, 0, 0] [2, 52] (fun _ => [(2, .int .i64 0), (52, .agg #[.int .u64 a0.Dst, .int .u64 a0.Src, .bool a0.Tag.Has, .int .i64 a0.Tag.Pri, .bool a0.Tag.Dei, .int .i64 a0.Tag.Vid, .int .i64 a0.Type_, .string a0.Body])]) (fun _ => [(b1, .cells #[.int .u64 a0.Dst, .int .u64 a0.Src, .bool a0.Tag.Has, .int .i64 a0.Tag.Pri, .bool a0.Tag.Dei, .int .i64 a0.Tag.Vid, .int .i64 a0.Type_, .string a0.Body] 29 (0, 0))]) (fun _ => [b1, b1, b1, b1, b1, b1, b1, b1]) (fun _ => by kernel_rfl) (fun _ => ?_)
          obtain ⟨r10, h11, hM⟩ := bind_some hM
          refine WL.callP [] [] (ether_size_calls a0 _ h11) (fun _ h => h) (by kernel_rfl) (by kernel_rfl) rfl ?_
          refine WL.run 2 [] [2, 51] (fun _ => [(2, .int .i64 0), (51, .bool (decide (r10 > 1600)))]) (fun _ => [(b1, .cells #[.int .u64 a0.Dst, .int .u64 a0.Src, .bool a0.Tag.Has, .int .i64 a0.Tag.Pri, .bool a0.Tag.Dei, .int .i64 a0.Tag.Vid, .int .i64 a0.Type_, .string a0.Body] 29 (0, 0))]) (fun _ => []) (fun _ => by kernel_rfl) (fun _ => ?_)
          refine WP.done ?_
          refine WP.keep [false] (by kernel_rfl : _ = []) ?_
          refine WP.cond (decide (r10 > 1600)) rfl rfl (fun c12 => ?_) (fun c12 => ?_)
          · replace hM := cond_t hM c12
            refine WP.seq ?_
            refine WP.run [] [2] (fun _ => [(2, .int .i64 41)]) (fun _ => []) (fun _ => []) (fun _ => by kernel_rfl) (fun _ => ?_)
            obtain rfl := Option.some.inj hM
            exact WP.ret [] [] (.int .i64 41) (by kernel_rfl) (fun w' hw => ⟨rfl, hw.pick [] rfl⟩)
          · replace hM := cond_f hM c12
            refine WP.skip ?_
            refine WP.leave ?_
            refine WP.seq ?_
            refine WP.run [] [2] (fun _ => [(2, .int .i64 0)]) (fun _ => []) (fun _ => []) (fun _ => by kernel_rfl) (fun _ => ?_)
            obtain rfl := Option.some.inj hM
            exact WP.ret [] [] (.int .i64 0) (by kernel_rfl) (fun w' hw => ⟨rfl, hw.pick [] rfl⟩)
    ·
      refine WL.split (fun b' => [(1, .pointer (some ⟨b1, 0, none⟩)), (2, .int .i64 0), (3, .bool (((decide (a0.Type_ ≥ 1536)) && (decide (a0.Type_ ≤ 65535))) && (a0.Type_ != 33024))), (32, .bool b')]) x5 (fun c6 => ?_) (fun c6 => ?_)
      · replace hM := cond_t hM c6
        refine WL.run 8 [] [1, 2, 40] (fun _ => [(1, .pointer (some ⟨b1, 0, none⟩)), (2, .int .i64 0), (40, .bool true)]) (fun _ => [(b1, .cells #[.int .u64 a0.Dst, .int .u64 a0.Src, .bool a0.Tag.Has, .int .i64 a0.Tag.Pri, .bool a0.Tag.Dei, .int .i64 a0.Tag.Vid, .int .i64 a0.Type_, .string a0.Body] 29 (0, 0))]) (fun _ => []) (fun _ => by kernel_rfl) (fun _ => ?_)
        exact WL.sub [1, 2, 40] (by kernel_rfl) (WL.pick [0] (by kernel_rfl) (by kernel_rfl) (K1 true hM))
      · replace hM := cond_f hM c6
        refine WL.run 4 [0] [1, 2, 3, 32, 36] (fun _ => [(1, .pointer (some ⟨b1, 0, none⟩)), (2, .int .i64 0), (3, .bool (((decide (a0.Type_ ≥ 1536)) && (decide (a0.Type_ ≤ 65535))) && (a0.Type_ != 33024))), (32, .bool false), (36, .bool (a0.Type_ != 0))]) (fun _ => [(b1, .cells #[.int .u64 a0.Dst, .int .u64 a0.Src, .bool a0.Tag.Has, .int .i64 a0.Tag.Pri, .bool a0.Tag.Dei, .int .i64 a0.Tag.Vid, .int .i64 a0.Type_, .string a0.Body] 29 (0, 0))]) (fun _ => [b1]) (fun _ => by kernel_rfl) (fun _ => ?_)
        refine WL.sub [1, 2, 3, 32, 36] (L' := [(1, .pointer (some ⟨b1, 0, none⟩)), (2, .int .i64 0), (3, .bool (((decide (a0.Type_ ≥ 1536)) && (decide (a0.Type_ ≤ 65535))) && (a0.Type_ != 33024))), (32, .bool false), (36, .bool (a0.Type_ != 0))]) (by kernel_rfl) ?_
        refine WL.both (fun b' => [(1, .pointer (some ⟨b1, 0, none⟩)), (2, .int .i64 0), (3, .bool (((decide (a0.Type_ ≥ 1536)) && (decide (a0.Type_ ≤ 65535))) && (a0.Type_ != 33024))), (32, .bool false), (36, .bool b')]) (a0.Type_ != 0) 3 [] [] [1, 2, 32, 39] (fun b' => [(1, .pointer (some ⟨b1, 0, none⟩)), (2, .int .i64 0), (32, .bool false), (39, .bool (b' && (!(((decide (a0.Type_ ≥ 1536)) && (decide (a0.Type_ ≤ 65535))) && (a0.Type_ != 33024)))))]) [] [] (fun _ => by kernel_rfl) (fun _ => by kernel_rfl) ?_
        refine WL.run 1 [] [1, 2, 40] (fun _ => [(1, .pointer (some ⟨b1, 0, none⟩)), (2, .int .i64 0), (40, .bool ((a0.Type_ != 0) && (!(((decide (a0.Type_ ≥ 1536)) && (decide (a0.Type_ ≤ 65535))) && (a0.Type_ != 33024)))))]) (fun _ => [(b1, .cells #[.int .u64 a0.Dst, .int .u64 a0.Src, .bool a0.Tag.Has, .int .i64 a0.Tag.Pri, .bool a0.Tag.Dei, .int .i64 a0.Tag.Vid, .int .i64 a0.Type_, .string a0.Body] 29 (0, 0))]) (fun _ => []) (fun _ => by kernel_rfl) (fun _ => ?_)
        exact WL.sub [1, 2, 40] (by kernel_rfl) (WL.pick [0] (by kernel_rfl) (by kernel_rfl) (K1 ((a0.Type_ != 0) && (!(((decide (a0.Type_ ≥ 1536)) && (decide (a0.Type_ ≤ 65535))) && (a0.Type_ != 33024)))) hM))
  ·
    refine WL.split (fun b' => [(1, .pointer (some ⟨b1, 0, none⟩)), (2, .int .i64 0), (3, .bool (((decide (a0.Type_ ≥ 1536)) && (decide (a0.Type_ ≤ 65535))) && (a0.Type_ != 33024))), (26, .bool b')]) ((decide (a0.Dst ≥ 281474976710656)) || (decide (a0.Src ≥ 281474976710656))) (fun c2 => ?_) (fun c2 => ?_)
    · replace hM := cond_t hM c2
      refine WL.run 5 [] [1, 2, 3, 31] (fun _ => [(1, .pointer (some ⟨b1, 0, none⟩)), (2, .int .i64 0), (3, .bool (((decide (a0.Type_ ≥ 1536)) && (decide (a0.Type_ ≤ 65535))) && (a0.Type_ != 33024))), (31, .bool true)]) (fun _ => [(b1, .cells #[.int .u64 a0.Dst, .int .u64 a0.Src, .bool a0.Tag.Has, .int .i64 a0.Tag.Pri, .bool a0.Tag.Dei, .int .i64 a0.Tag.Vid, .int .i64 a0.Type_, .string a0.Body] 29 (0, 0))]) (fun _ => []) (fun _ => by kernel_rfl) (fun _ => ?_)
      exact WL.sub [1, 2, 3, 31] (by kernel_rfl) (WL.pick [0] (by kernel_rfl) (by kernel_rfl) (K2 true hM))
    · replace hM := cond_f hM c2
      refine WL.run 2 [0, 0, 0, 0] [1, 2, 3, 26, 28] (fun _ => [(1, .pointer (some ⟨b1, 0, none⟩)), (2, .int .i64 0), (3, .bool (((decide (a0.Type_ ≥ 1536)) && (decide (a0.Type_ ≤ 65535))) && (a0.Type_ != 33024))), (26, .bool false), (28, .agg #[.bool a0.Tag.Has, .int .i64 a0.Tag.Pri, .bool a0.Tag.Dei, .int .i64 a0.Tag.Vid])]) (fun _ => [(b1, .cells #[.int .u64 a0.Dst, .int .u64 a0.Src, .bool a0.Tag.Has, .int .i64 a0.Tag.Pri, .bool a0.Tag.Dei, .int .i64 a0.Tag.Vid, .int .i64 a0.Type_, .string a0.Body] 29 (0, 0))]) (fun _ => [b1, b1, b1, b1]) (fun _ => by kernel_rfl) (fun _ => ?_)
      obtain ⟨r3, h4, hM⟩ := bind_some hM
      refine WL.callP [] [] (ether_tag_calls a0.Tag _ h4) (fun _ h => h) (by kernel_rfl) (by kernel_rfl) rfl ?_
      refine WL.run 2 [] [1, 2, 3, 31] (fun _ => [(1, .pointer (some ⟨b1, 0, none⟩)), (2, .int .i64 0), (3, .bool (((decide (a0.Type_ ≥ 1536)) && (decide (a0.Type_ ≤ 65535))) && (a0.Type_ != 33024))), (31, .bool (!r3))]) (fun _ => [(b1, .cells #[.int .u64 a0.Dst, .int .u64 a0.Src, .bool a0.Tag.Has, .int .i64 a0.Tag.Pri, .bool a0.Tag.Dei, .int .i64 a0.Tag.Vid, .int .i64 a0.Type_, .string a0.Body] 29 (0, 0))]) (fun _ => []) (fun _ => by kernel_rfl) (fun _ => ?_)
      exact WL.sub [1, 2, 3, 31] (by kernel_rfl) (WL.pick [0] (by kernel_rfl) (by kernel_rfl) (K2 (!r3) hM))

end Go.Proofs.YtbodofjnfmjbpaaGreatDoor

namespace Go.Proofs.YtbodofjnfmjbpaaGreatDoor
open Go Eng
set_option linter.unusedVariables false
set_option linter.unusedSimpArgs false

/-! ### gangway/octets.Put: function 38 -/
def octets_Put.k4 (t8 : Nat) (x24 : (List Int)) : Option (ByteArray × Int) :=
  (strOf t8 x24).bind fun t25 =>
  some (t25, 0)

def octets_Put.l3 (t8 : Nat) (a0 : Int) (a1 : Int) : Nat → Int → (List Int) → Option (ByteArray × Int)
  | 0, _, _ => none
  | n + 1, x17, x18 =>
    bif decide (x17 < (t8 : Int)) then
      (shrI .u64 a0 (i64 (8 * x17))).bind fun t20 =>
      (getL t8 x18 (i64 ((i64 (a1 - 1)) - x17))).bind fun t22 =>
      octets_Put.l3 t8 a0 a1 n (i64 (x17 + 1)) (List.set x18 (i64 ((i64 (a1 - 1)) - x17)).toNat (u8 t20))
    else
      octets_Put.k4 t8 x18

def octets_Put.k2 (a1 : Int) (a0 : Int) (k : Nat) (x6 : Bool) : Option (ByteArray × Int) :=
  bif x6 then
    some ((⟨#[]⟩ : ByteArray), 1)
  else
    (mkLen 1 a1).bind fun t8 =>
    octets_Put.l3 t8 a0 a1 k 0 (List.replicate t8 0)

def octets_Put.k1 (a1 : Int) (a0 : Int) (k : Nat) (x5 : Bool) : Option (ByteArray × Int) :=
  octets_Put.k2 a1 a0 k x5

def octets_Put.f (k : Nat) (a0 : Int) (a1 : Int) : Option (ByteArray × Int) :=
  bif ((decide (a1 < 1)) || (decide (a1 > 8))) then
    octets_Put.k2 a1 a0 k true
  else
    bif decide (a1 < 8) then
      (shrI .u64 a0 (i64 (8 * a1))).bind fun t3 =>
      octets_Put.k1 a1 a0 k (t3 != 0)
    else
      octets_Put.k1 a1 a0 k false

set_option maxRecDepth 100000 in
theorem octets_Put_calls (k : Nat) (a0 : Int) (a1 : Int) (r : ByteArray × Int) (h : octets_Put.f k a0 a1 = some r) : Pure Tryz.prog Glob 38 #[.int .u64 a0, .int .i64 a1] (.tuple #[.string r.1, .int .i64 r.2]) := by
  intro w Z hS
  refine calls_of (args := [.int .u64 a0, .int .i64 a1]) (L := [(0, .int .u64 a0), (1, .int .i64 a1)]) (N := 46) (S := Sat w Z [] [] Glob) Tryz.func38 rfl rfl (Nat.le_of_ble_eq_true rfl) rfl hS ?_
  have hM := h
  clear h hS
  unfold octets_Put.f at hM
  refine WP.seq ?_
  refine WP.run [] [0, 1, 4, 5] (fun _ => [(0, .int .u64 a0), (1, .int .i64 a1), (4, .string (⟨#[]⟩ : ByteArray)), (5, .int .i64 0)]) (fun _ => []) (fun _ => []) (fun _ => by kernel_rfl) (fun _ => ?_)
  refine WP.seq ?_
  refine WP.seq ?_
  refine WP.region ?_
  refine WL.run 3 [] [0, 1, 4, 5, 10] (fun _ => [(0, .int .u64 a0), (1, .int .i64 a1), (4, .string (⟨#[]⟩ : ByteArray)), (5, .int .i64 0), (10, .bool (decide (a1 < 1)))]) (fun _ => []) (fun _ => []) (fun _ => by kernel_rfl) (fun _ => ?_)
  refine WL.sub [0, 1, 4, 5, 10] (L' := [(0, .int .u64 a0), (1, .int .i64 a1), (4, .string (⟨#[]⟩ : ByteArray)), (5, .int .i64 0), (10, .bool (decide (a1 < 1)))]) (by kernel_rfl) ?_
  refine WL.both (fun b' => [(0, .int .u64 a0), (1, .int .i64 a1), (4, .string (⟨#[]⟩ : ByteArray)), (5, .int .i64 0), (10, .bool b')]) (decide (a1 < 1)) 3 [] [] [0, 1, 4, 5, 13] (fun b' => [(0, .int .u64 a0), (1, .int .i64 a1), (4, .string (⟨#[]⟩ : ByteArray)), (5, .int .i64 0), (13, .bool (b' || (decide (a1 > 8))))]) [] [] (fun _ => by kernel_rfl) (fun _ => by kernel_rfl) ?_
  refine WL.run 1 [] [0, 1, 4, 5, 14] (fun _ => [(0, .int .u64 a0), (1, .int .i64 a1), (4, .string (⟨#[]⟩ : ByteArray)), (5, .int .i64 0), (14, .bool ((decide (a1 < 1)) || (decide (a1 > 8))))]) (fun _ => []) (fun _ => []) (fun _ => by kernel_rfl) (fun _ => ?_)
  refine WL.sub [0, 1, 4, 5, 14] (L' := [(0, .int .u64 a0), (1, .int .i64 a1), (4, .string (⟨#[]⟩ : ByteArray)), (5, .int .i64 0), (14, .bool ((decide (a1 < 1)) || (decide (a1 > 8))))]) (by kernel_rfl) ?_
  refine WL.join (σ := Bool) 10 (fun st => octets_Put.k2 a1 a0 k st = some r) (fun st => [(0, .int .u64 a0), (1, .int .i64 a1), (4, .string (⟨#[]⟩ : ByteArray)), (5, .int .i64 0), (24, .bool st)]) (fun st => Sat w Z [] [] Glob) (fun st hM => ?_) (fun K2 => ?_)
  ·
    obtain ⟨x6, rfl⟩ : ∃ y, y = st := ⟨st, rfl⟩
    replace hM : octets_Put.k2 a1 a0 k x6 = some r := hM
    unfold octets_Put.k2 at hM
    show WL _ _ _ _ _ [(0, .int .u64 a0), (1, .int .i64 a1), (4, .string (⟨#[]⟩ : ByteArray)), (5, .int .i64 0), (24, .bool x6)] (Sat w Z [] [] Glob)
    refine WP.done ?_
    refine WP.cond x6 rfl rfl (fun c7 => ?_) (fun c7 => ?_)
    · replace hM := cond_t hM c7
      refine WP.seq ?_
      refine WP.run [] [0, 1, 4, 5] (fun _ => [(0, .int .u64 a0), (1, .int .i64 a1), (4, .string (⟨#[]⟩ : ByteArray)), (5, .int .i64 1)]) (fun _ => []) (fun _ => []) (fun _ => by kernel_rfl) (fun _ => ?_)
      obtain rfl := Option.some.inj hM
      exact WP.ret [] [] (.tuple #[.string (⟨#[]⟩ : ByteArray), .int .i64 1]) (by kernel_rfl) (fun w' hw => ⟨rfl, hw.pick [] rfl⟩)
    · replace hM := cond_f hM c7
      refine WP.skip ?_
      refine WP.seq ?_
      refine WP.region ?_
      refine WL.run 1 [] [0, 1, 4, 5, 25] (fun _ => [(0, .int .u64 a0), (1, .int .i64 a1), (4, .string (⟨#[]⟩ : ByteArray)), (5, .int .i64 0), (25, .int .i64 a1)]) (fun _ => []) (fun _ => []) (fun _ => by kernel_rfl) (fun _ => ?_)
      obtain ⟨t8, h9, hM⟩ := bind_some hM
      refine WL.makeSlice (f := (encI .u8)) (z := 0) (zv := .int .u8 0) (i := a1) (k := .i64) (e := 5) (by kernel_rfl) (by kernel_rfl) rfl Nat.zero_lt_one (fun _ => rfl) (by kernel_rfl) (by kernel_rfl) h9 (by kernel_rfl) rfl (fun b10 => ?_)
      refine WL.run 1 [] [0, 1, 4, 5, 6] (fun _ => [(0, .int .u64 a0), (1, .int .i64 a1), (4, .string (⟨#[]⟩ : ByteArray)), (5, .int .i64 0), (6, .slice (some ⟨b10, 0, none⟩) t8 t8)]) (fun _ => [(b10, .cells (rowF (encI .u8) (List.replicate t8 0)) 5 (0, 0))]) (fun _ => []) (fun _ => by kernel_rfl) (fun _ => ?_)
      refine WP.done ?_
      refine WP.seq ?_
      refine WP.seq ?_
      refine WP.run [] [0, 1, 4, 5, 6, 28, 29] (fun _ => [(0, .int .u64 a0), (1, .int .i64 a1), (4, .string (⟨#[]⟩ : ByteArray)), (5, .int .i64 0), (6, .slice (some ⟨b10, 0, none⟩) t8 t8), (28, .int .i64 (t8 : Int)), (29, .int .i64 0)]) (fun _ => [(b10, .cells (rowF (encI .u8) (List.replicate t8 0)) 5 (0, 0))]) (fun _ => []) (fun _ => by kernel_rfl) (fun _ => ?_)
      refine WP.blockJoin (σ := (List Int)) (fun st => octets_Put.k4 t8 st = some r) (fun st => [(4, .string (⟨#[]⟩ : ByteArray)), (5, .int .i64 0), (6, .slice (some ⟨b10, 0, none⟩) t8 t8)]) (fun st => Sat w Z [(b10, .cells (rowF (encI .u8) st) 5 (0, 0))] [] Glob) (fun st hM => ?_) (fun K4 => ?_)
      ·
        obtain ⟨x24, rfl⟩ : ∃ y, y = st := ⟨st, rfl⟩
        replace hM : octets_Put.k4 t8 x24 = some r := hM
        unfold octets_Put.k4 at hM
        show WP _ _ _ _ _ [(4, .string (⟨#[]⟩ : ByteArray)), (5, .int .i64 0), (6, .slice (some ⟨b10, 0, none⟩) t8 t8)] (Sat w Z [(b10, .cells (rowF (encI .u8) x24) 5 (0, 0))] [] Glob)
        refine WP.seq ?_
        refine WP.region ?_
        refine WL.run 1 [] [4, 5, 44] (fun _ => [(4, .string (⟨#[]⟩ : ByteArray)), (5, .int .i64 0), (44, .slice (some ⟨b10, 0, none⟩) t8 t8)]) (fun _ => [(b10, .cells (rowF (encI .u8) x24) 5 (0, 0))]) (fun _ => []) (fun _ => by kernel_rfl) (fun _ => ?_)
        obtain ⟨t25, h26, hM⟩ := bind_some hM
        refine WL.strOf (b := b10) (n := t8) (c := t8) (xs := x24) (e0 := 5) (fr := (0, 0)) 0 (e := 5) (by kernel_rfl) (by kernel_rfl) (by kernel_rfl) (by kernel_rfl) (by kernel_rfl) (by kernel_rfl) h26 (by kernel_rfl) rfl ?_
        refine WL.run 2 [] [4, 5] (fun _ => [(4, .string t25), (5, .int .i64 0)]) (fun _ => [(b10, .cells (rowF (encI .u8) x24) 5 (0, 0))]) (fun _ => []) (fun _ => by kernel_rfl) (fun _ => ?_)
        refine WP.done ?_
        refine WP.keep [false] (by kernel_rfl : _ = []) ?_
        obtain rfl := Option.some.inj hM
        exact WP.ret [] [] (.tuple #[.string t25, .int .i64 0]) (by kernel_rfl) (fun w' hw => ⟨rfl, hw.pick [] rfl⟩)
      ·
        refine WP.sub [0, 1, 4, 5, 6, 28, 29] (L' := [(0, .int .u64 a0), (1, .int .i64 a1), (4, .string (⟨#[]⟩ : ByteArray)), (5, .int .i64 0), (6, .slice (some ⟨b10, 0, none⟩) t8 t8), (28, .int .i64 (t8 : Int)), (29, .int .i64 0)]) (by kernel_rfl) ?_
        refine WP.loop (σ := Int × (List Int)) (fun n st => octets_Put.l3 t8 a0 a1 n st.1 st.2) r (fun st => [(0, .int .u64 a0), (1, .int .i64 a1), (4, .string (⟨#[]⟩ : ByteArray)), (5, .int .i64 0), (6, .slice (some ⟨b10, 0, none⟩) t8 t8), (28, .int .i64 (t8 : Int)), (29, .int .i64 st.1)]) (fun st => Sat w Z [(b10, .cells (rowF (encI .u8) st.2) 5 (0, 0))] [] Glob) (st := (0, (List.replicate t8 0))) (fun n st hM => ?_) hM
        rcases n with _ | n
        · exact nomatch (show (none : Option _) = some r from hM)
        obtain ⟨x17, x18⟩ := st
        replace hM : octets_Put.l3 t8 a0 a1 (n + 1) x17 x18 = some r := hM
        rw [octets_Put.l3] at hM
        show WP _ _ _ _ _ [(0, .int .u64 a0), (1, .int .i64 a1), (4, .string (⟨#[]⟩ : ByteArray)), (5, .int .i64 0), (6, .slice (some ⟨b10, 0, none⟩) t8 t8), (28, .int .i64 (t8 : Int)), (29, .int .i64 x17)] (Sat w Z [(b10, .cells (rowF (encI .u8) x18) 5 (0, 0))] [] Glob)
        refine WP.seq ?_
        refine WP.run [] [0, 1, 4, 5, 6, 28, 29, 30] (fun _ => [(0, .int .u64 a0), (1, .int .i64 a1), (4, .string (⟨#[]⟩ : ByteArray)), (5, .int .i64 0), (6, .slice (some ⟨b10, 0, none⟩) t8 t8), (28, .int .i64 (t8 : Int)), (29, .int .i64 x17), (30, .bool (decide (x17 < (t8 : Int))))]) (fun _ => [(b10, .cells (rowF (encI .u8) x18) 5 (0, 0))]) (fun _ => []) (fun _ => by kernel_rfl) (fun _ => ?_)
        refine WP.seq ?_
        refine WP.cond (decide (x17 < (t8 : Int))) rfl rfl (fun c19 => ?_) (fun c19 => ?_)
        · replace hM := cond_t hM c19
          refine WP.skip ?_
          refine WP.seq ?_
          refine WP.block ?_
          refine WP.seq ?_
          refine WP.run [] [0, 1, 4, 5, 6, 7, 28, 29, 30, 31] (fun _ => [(0, .int .u64 a0), (1, .int .i64 a1), (4, .string (⟨#[]⟩ : ByteArray)), (5, .int .i64 0), (6, .slice (some ⟨b10, 0, none⟩) t8 t8), (7, .int .i64 x17), (28, .int .i64 (t8 : Int)), (29, .int .i64 x17), (30, .bool (decide (x17 < (t8 : Int)))), (31, .int .i64 x17)]) (fun _ => [(b10, .cells (rowF (encI .u8) x18) 5 (0, 0))]) (fun _ => []) (fun _ => by kernel_rfl) (fun _ => ?_)
          refine WP.region ?_
          refine WL.run 8 [] [0, 1, 4, 5, 6, 7, 28, 29, 30, 31, 32, 33, 34, 35, 36, 37, 38, 39] (fun _ => [(0, .int .u64 a0), (1, .int .i64 a1), (4, .string (⟨#[]⟩ : ByteArray)), (5, .int .i64 0), (6, .slice (some ⟨b10, 0, none⟩) t8 t8), (7, .int .i64 x17), (28, .int .i64 (t8 : Int)), (29, .int .i64 x17), (30, .bool (decide (x17 < (t8 : Int)))), (31, .int .i64 x17), (32, .slice (some ⟨b10, 0, none⟩) t8 t8), (33, .int .i64 a1), (34, .int .i64 (i64 (a1 - 1))), (35, .int .i64 x17), (36, .int .i64 (i64 ((i64 (a1 - 1)) - x17))), (37, .int .u64 a0), (38, .int .i64 x17), (39, .int .i64 (i64 (8 * x17)))]) (fun _ => [(b10, .cells (rowF (encI .u8) x18) 5 (0, 0))]) (fun _ => []) (fun _ => by kernel_rfl) (fun _ => ?_)
          obtain ⟨t20, h21, hM⟩ := bind_some hM
          refine WL.val (fun _ => run_shr (k := .u64) (k' := .i64) (a := a0) (b := i64 (8 * x17)) (by kernel_rfl) (by kernel_rfl) h21) (by kernel_rfl) (by kernel_rfl) rfl ?_
          refine WL.run 1 [] [0, 1, 4, 5, 6, 7, 28, 29, 30, 31, 32, 33, 34, 35, 36, 37, 38, 39, 40, 41] (fun _ => [(0, .int .u64 a0), (1, .int .i64 a1), (4, .string (⟨#[]⟩ : ByteArray)), (5, .int .i64 0), (6, .slice (some ⟨b10, 0, none⟩) t8 t8), (7, .int .i64 x17), (28, .int .i64 (t8 : Int)), (29, .int .i64 x17), (30, .bool (decide (x17 < (t8 : Int)))), (31, .int .i64 x17), (32, .slice (some ⟨b10, 0, none⟩) t8 t8), (33, .int .i64 a1), (34, .int .i64 (i64 (a1 - 1))), (35, .int .i64 x17), (36, .int .i64 (i64 ((i64 (a1 - 1)) - x17))), (37, .int .u64 a0), (38, .int .i64 x17), (39, .int .i64 (i64 (8 * x17))), (40, .int .u64 t20), (41, .int .u8 (u8 t20))]) (fun _ => [(b10, .cells (rowF (encI .u8) x18) 5 (0, 0))]) (fun _ => []) (fun _ => by kernel_rfl) (fun _ => ?_)
          obtain ⟨t22, h23, hM⟩ := bind_some hM
          refine WL.val (fun _ => run_indexAddr (i := i64 ((i64 (a1 - 1)) - x17)) (k := .i64) (b := b10) (o := 0) (n := t8) (c := t8) (e := 5) (sz := 1) (by kernel_rfl) (by kernel_rfl) (by kernel_rfl) (by kernel_rfl) (getL_parts h23).1) (by kernel_rfl) (by kernel_rfl) rfl ?_
          refine WL.storeCell (b := b10) (off := 0 + (i64 ((i64 (a1 - 1)) - x17)).toNat * 1) (e := 5) (H' := [(b10, .cells (rowF (encI .u8) (List.set x18 (i64 ((i64 (a1 - 1)) - x17)).toNat (u8 t20))) 5 (0, 0))]) (v := .int .u8 (u8 t20)) (u := .int .u8 t22) 0 (fun _ => by kernel_rfl) (by kernel_rfl) (by kernel_rfl) (by kernel_rfl) (by kernel_rfl) rfl (by kernel_rfl) (rowF_at0 (f := (encI .u8)) (m := 1) (fun _ => rfl) Nat.zero_lt_one h23) (rowF_set0 (f := (encI .u8)) (m := 1) (x' := u8 t20) (fun _ => rfl) Nat.zero_lt_one h23 rfl) (by kernel_rfl) (by kernel_rfl) ?_
          refine WP.done ?_
          refine WP.leave ?_
          refine WP.run [] [0, 1, 4, 5, 6, 7, 28, 29, 30, 31, 32, 33, 34, 35, 36, 37, 38, 39, 40, 41, 42, 43] (fun _ => [(0, .int .u64 a0), (1, .int .i64 a1), (4, .string (⟨#[]⟩ : ByteArray)), (5, .int .i64 0), (6, .slice (some ⟨b10, 0, none⟩) t8 t8), (7, .int .i64 x17), (28, .int .i64 (t8 : Int)), (29, .int .i64 (i64 (x17 + 1))), (30, .bool (decide (x17 < (t8 : Int)))), (31, .int .i64 x17), (32, .slice (some ⟨b10, 0, none⟩) t8 t8), (33, .int .i64 a1), (34, .int .i64 (i64 (a1 - 1))), (35, .int .i64 x17), (36, .int .i64 (i64 ((i64 (a1 - 1)) - x17))), (37, .int .u64 a0), (38, .int .i64 x17), (39, .int .i64 (i64 (8 * x17))), (40, .int .u64 t20), (41, .int .u8 (u8 t20)), (42, .pointer (some ⟨b10, 0 + (i64 ((i64 (a1 - 1)) - x17)).toNat * 1, none⟩)), (43, .int .i64 (i64 (x17 + 1)))]) (fun _ => [(b10, .cells (rowF (encI .u8) (List.set x18 (i64 ((i64 (a1 - 1)) - x17)).toNat (u8 t20))) 5 (0, 0))]) (fun _ => []) (fun _ => by kernel_rfl) (fun _ => ?_)
          exact WP.again' [0, 1, 4, 5, 6, 28, 29] (i64 (x17 + 1), (List.set x18 (i64 ((i64 (a1 - 1)) - x17)).toNat (u8 t20))) hM (by kernel_rfl) (fun _ h => h.pick [0] (by kernel_rfl))
        · replace hM := cond_f hM c19
          refine WP.exit rfl ?_
          exact WP.sub [4, 5, 6] (by kernel_rfl) (WP.pick [0] (by kernel_rfl) (by kernel_rfl) (K4 x18 hM))
  ·
    refine WL.split (fun b' => [(0, .int .u64 a0), (1, .int .i64 a1), (4, .string (⟨#[]⟩ : ByteArray)), (5, .int .i64 0), (14, .bool b')]) ((decide (a1 < 1)) || (decide (a1 > 8))) (fun c1 => ?_) (fun c1 => ?_)
    · replace hM := cond_t hM c1
      refine WL.run 10 [] [0, 1, 4, 5, 24] (fun _ => [(0, .int .u64 a0), (1, .int .i64 a1), (4, .string (⟨#[]⟩ : ByteArray)), (5, .int .i64 0), (24, .bool true)]) (fun _ => []) (fun _ => []) (fun _ => by kernel_rfl) (fun _ => ?_)
      exact WL.sub [0, 1, 4, 5, 24] (by kernel_rfl) (WL.pick [] (by kernel_rfl) (by kernel_rfl) (K2 true hM))
    · replace hM := cond_f hM c1
      refine WL.run 3 [] [0, 1, 4, 5, 14, 17] (fun _ => [(0, .int .u64 a0), (1, .int .i64 a1), (4, .string (⟨#[]⟩ : ByteArray)), (5, .int .i64 0), (14, .bool false), (17, .bool (decide (a1 < 8)))]) (fun _ => []) (fun _ => []) (fun _ => by kernel_rfl) (fun _ => ?_)
      refine WL.sub [0, 1, 4, 5, 14, 17] (L' := [(0, .int .u64 a0), (1, .int .i64 a1), (4, .string (⟨#[]⟩ : ByteArray)), (5, .int .i64 0), (14, .bool false), (17, .bool (decide (a1 < 8)))]) (by kernel_rfl) ?_
      refine WL.join (σ := Bool) 6 (fun st => octets_Put.k1 a1 a0 k st = some r) (fun st => [(0, .int .u64 a0), (1, .int .i64 a1), (4, .string (⟨#[]⟩ : ByteArray)), (5, .int .i64 0), (14, .bool false), (23, .bool st)]) (fun st => Sat w Z [] [] Glob) (fun st hM => ?_) (fun K1 => ?_)
      ·
        obtain ⟨x5, rfl⟩ : ∃ y, y = st := ⟨st, rfl⟩
        replace hM : octets_Put.k1 a1 a0 k x5 = some r := hM
        unfold octets_Put.k1 at hM
        show WL _ _ _ _ _ [(0, .int .u64 a0), (1, .int .i64 a1), (4, .string (⟨#[]⟩ : ByteArray)), (5, .int .i64 0), (14, .bool false), (23, .bool x5)] (Sat w Z [] [] Glob)
        refine WL.run 1 [] [0, 1, 4, 5, 24] (fun _ => [(0, .int .u64 a0), (1, .int .i64 a1), (4, .string (⟨#[]⟩ : ByteArray)), (5, .int .i64 0), (24, .bool x5)]) (fun _ => []) (fun _ => []) (fun _ => by kernel_rfl) (fun _ => ?_)
        exact WL.sub [0, 1, 4, 5, 24] (by kernel_rfl) (WL.pick [] (by kernel_rfl) (by kernel_rfl) (K2 x5 hM))
      ·
        refine WL.split (fun b' => [(0, .int .u64 a0), (1, .int .i64 a1), (4, .string (⟨#[]⟩ : ByteArray)), (5, .int .i64 0), (14, .bool false), (17, .bool b')]) (decide (a1 < 8)) (fun c2 => ?_) (fun c2 => ?_)
        · replace hM := cond_t hM c2
          refine WL.run 3 [] [0, 1, 4, 5, 14, 17, 18, 20] (fun _ => [(0, .int .u64 a0), (1, .int .i64 a1), (4, .string (⟨#[]⟩ : ByteArray)), (5, .int .i64 0), (14, .bool false), (17, .bool true), (18, .int .u64 a0), (20, .int .i64 (i64 (8 * a1)))]) (fun _ => []) (fun _ => []) (fun _ => by kernel_rfl) (fun _ => ?_)
          obtain ⟨t3, h4, hM⟩ := bind_some hM
          refine WL.val (fun _ => run_shr (k := .u64) (k' := .i64) (a := a0) (b := i64 (8 * a1)) (by kernel_rfl) (by kernel_rfl) h4) (by kernel_rfl) (by kernel_rfl) rfl ?_
          refine WL.run 2 [] [0, 1, 4, 5, 14, 23] (fun _ => [(0, .int .u64 a0), (1, .int .i64 a1), (4, .string (⟨#[]⟩ : ByteArray)), (5, .int .i64 0), (14, .bool false), (23, .bool (t3 != 0))]) (fun _ => []) (fun _ => []) (fun _ => by kernel_rfl) (fun _ => ?_)
          exact WL.sub [0, 1, 4, 5, 14, 23] (by kernel_rfl) (WL.pick [] (by kernel_rfl) (by kernel_rfl) (K1 (t3 != 0) hM))
        · replace hM := cond_f hM c2
          refine WL.run 6 [] [0, 1, 4, 5, 14, 23] (fun _ => [(0, .int .u64 a0), (1, .int .i64 a1), (4, .string (⟨#[]⟩ : ByteArray)), (5, .int .i64 0), (14, .bool false), (23, .bool false)]) (fun _ => []) (fun _ => []) (fun _ => by kernel_rfl) (fun _ => ?_)
          exact WL.sub [0, 1, 4, 5, 14, 23] (by kernel_rfl) (WL.pick [] (by kernel_rfl) (by kernel_rfl) (K1 false hM))

end Go.Proofs.YtbodofjnfmjbpaaGreatDoor

namespace Go.Proofs.YtbodofjnfmjbpaaGreatDoor
open Go Eng
set_option linter.unusedVariables false
set_option linter.unusedSimpArgs false

/-! ### gangway/ether.put: function 36 -/
def ether_put.f (k : Nat) (a0 : Int) (a1 : Int) : Option (ByteArray) :=
  (octets_Put.f k a0 a1).bind fun (r1, r2) =>
  some r1

set_option maxRecDepth 100000 in
theorem ether_put_calls (k : Nat) (a0 : Int) (a1 : Int) (r : ByteArray) (h : ether_put.f k a0 a1 = some r) : Pure Tryz.prog Glob 36 #[.int .u64 a0, .int .i64 a1] (.string r) := by
  intro w Z hS
  refine calls_of (args := [.int .u64 a0, .int .i64 a1]) (L := [(0, .int .u64 a0), (1, .int .i64 a1)]) (N := 14) (S := Sat w Z [] [] Glob) Tryz.func36 rfl rfl (Nat.le_of_ble_eq_true rfl) rfl hS ?_
  have hM := h
  clear h hS
  unfold ether_put.f at hM
  refine WP.seq ?_
  refine WP.run [] [0, 1, 4] (fun _ => [(0, .int .u64 a0), (1, .int .i64 a1), (4, .string (⟨#[]⟩ : ByteArray))]) (fun _ => []) (fun _ => []) (fun _ => by kernel_rfl) (fun _ => ?_)
  refine WP.seq ?_
  refine WP.region ?_
  refine WL.run 2 [] [4, 8, 9] (fun _ => [(4, .string (⟨#[]⟩ : ByteArray)), (8, .int .u64 a0), (9, .int .i64 a1)]) (fun _ => []) (fun _ => []) (fun _ => by kernel_rfl) (fun _ => ?_)
  obtain ⟨⟨r1, r2⟩, h3, hM⟩ := bind_some hM
  dsimp only at hM
  refine WL.callP [] [] (octets_Put_calls k a0 a1 _ h3) (fun _ h => h) (by kernel_rfl) (by kernel_rfl) rfl ?_
  refine WL.run 5 [] [4, 5] (fun _ => [(4, .string (⟨#[]⟩ : ByteArray)), (5, .string r1)]) (fun _ => []) (fun _ => []) (fun _ => by kernel_rfl) (fun _ => ?_)
  refine WP.done ?_
  refine WP.seq ?_
  refine WP.run [] [4] (fun _ => [(4, .string r1)]) (fun _ => []) (fun _ => []) (fun _ => by kernel_rfl) (fun _ => ?_)
  obtain rfl := Option.some.inj hM
  exact WP.ret [] [] (.string r1) (by kernel_rfl) (fun w' hw => ⟨rfl, hw.pick [] rfl⟩)

end Go.Proofs.YtbodofjnfmjbpaaGreatDoor

namespace Go.Proofs.YtbodofjnfmjbpaaGreatDoor
open Go Eng
set_option linter.unusedVariables false
set_option linter.unusedSimpArgs false

/-! ### gangway/ether.info: function 37 -/
def ether_info.k1 (x3 : Int) : Option (Int) :=
  some (u64 x3)

def ether_info.f (a0 : api_Tag) : Option (Int) :=
  bif a0.Dei then
    ether_info.k1 (bOr .i64 (bOr .i64 (i64 (a0.Pri * 8192)) a0.Vid) 4096)
  else
    ether_info.k1 (bOr .i64 (i64 (a0.Pri * 8192)) a0.Vid)

set_option maxRecDepth 100000 in
theorem ether_info_calls (a0 : api_Tag) (r : Int) (h : ether_info.f a0 = some r) : Pure Tryz.prog Glob 37 #[.agg #[.bool a0.Has, .int .i64 a0.Pri, .bool a0.Dei, .int .i64 a0.Vid]] (.int .u64 r) := by
  intro w Z hS
  refine calls_of (args := [.agg #[.bool a0.Has, .int .i64 a0.Pri, .bool a0.Dei, .int .i64 a0.Vid]]) (L := [(0, .agg #[.bool a0.Has, .int .i64 a0.Pri, .bool a0.Dei, .int .i64 a0.Vid])]) (N := 16) (S := Sat w Z [] [] Glob) Tryz.func37 rfl rfl (Nat.le_of_ble_eq_true rfl) rfl hS ?_
  have hM := h
  clear h hS
  unfold ether_info.f at hM
  refine WP.seq ?_
  refine WP.run [] [1, 2] (fun b1 => [(1, .pointer (some ⟨b1, 0, none⟩)), (2, .int .u64 0)]) (fun b1 => [(b1, .cells #[.bool a0.Has, .int .i64 a0.Pri, .bool a0.Dei, .int .i64 a0.Vid] 27 (0, 0))]) (fun b1 => []) (fun b1 => by kernel_rfl) (fun b1 => ?_)
  refine WP.seq ?_
  refine WP.run [0, 0] [1, 2, 3] (fun _ => [(1, .pointer (some ⟨b1, 0, none⟩)), (2, .int .u64 0), (3, .int .i64 (bOr .i64 (i64 (a0.Pri * 8192)) a0.Vid))]) (fun _ => [(b1, .cells #[.bool a0.Has, .int .i64 a0.Pri, .bool a0.Dei, .int .i64 a0.Vid] 27 (0, 0))]) (fun _ => [b1, b1]) (fun _ => by kernel_rfl) (fun _ => ?_)
  refine WP.seqJoin (σ := Int) (fun st => ether_info.k1 st = some r) (fun st => [(2, .int .u64 0), (3, .int .i64 st)]) (fun st => Sat w Z [] [] Glob) (fun st hM => ?_) (fun K1 => ?_)
  ·
    obtain ⟨x3, rfl⟩ : ∃ y, y = st := ⟨st, rfl⟩
    replace hM : ether_info.k1 x3 = some r := hM
    unfold ether_info.k1 at hM
    show WP _ _ _ _ _ [(2, .int .u64 0), (3, .int .i64 x3)] (Sat w Z [] [] Glob)
    refine WP.seq ?_
    refine WP.run [] [2] (fun _ => [(2, .int .u64 (u64 x3))]) (fun _ => []) (fun _ => []) (fun _ => by kernel_rfl) (fun _ => ?_)
    obtain rfl := Option.some.inj hM
    exact WP.ret [] [] (.int .u64 (u64 x3)) (by kernel_rfl) (fun w' hw => ⟨rfl, hw.pick [] rfl⟩)
  ·
    refine WP.seq ?_
    refine WP.run [0] [2, 3, 11] (fun _ => [(2, .int .u64 0), (3, .int .i64 (bOr .i64 (i64 (a0.Pri * 8192)) a0.Vid)), (11, .bool a0.Dei)]) (fun _ => [(b1, .cells #[.bool a0.Has, .int .i64 a0.Pri, .bool a0.Dei, .int .i64 a0.Vid] 27 (0, 0))]) (fun _ => [b1]) (fun _ => by kernel_rfl) (fun _ => ?_)
    refine WP.keep [false] (by kernel_rfl : _ = []) ?_
    refine WP.cond a0.Dei rfl rfl (fun c2 => ?_) (fun c2 => ?_)
    · replace hM := cond_t hM c2
      refine WP.run [] [2, 3] (fun _ => [(2, .int .u64 0), (3, .int .i64 (bOr .i64 (bOr .i64 (i64 (a0.Pri * 8192)) a0.Vid) 4096))]) (fun _ => []) (fun _ => []) (fun _ => by kernel_rfl) (fun _ => ?_)
      exact WP.sub [2, 3] (by kernel_rfl) (WP.pick [] (by kernel_rfl) (by kernel_rfl) (K1 (bOr .i64 (bOr .i64 (i64 (a0.Pri * 8192)) a0.Vid) 4096) hM))
    · replace hM := cond_f hM c2
      refine WP.skip ?_
      exact WP.sub [2, 3] (by kernel_rfl) (WP.pick [] (by kernel_rfl) (by kernel_rfl) (K1 (bOr .i64 (i64 (a0.Pri * 8192)) a0.Vid) hM))

end Go.Proofs.YtbodofjnfmjbpaaGreatDoor

namespace Go.Proofs.YtbodofjnfmjbpaaGreatDoor
open Go Eng
set_option linter.unusedVariables false
set_option linter.unusedSimpArgs false

/-! ### gangway/ether.Build: function 16 -/
def ether_Build.k1 (k : Nat) (x22 : ByteArray) (a0 : api_Frame) (x24 : Int) : Option (ByteArray × Int) :=
  (ether_put.f k (u64 x24) 2).bind fun r25 =>
  (catS x22 r25).bind fun t27 =>
  (catS t27 a0.Body).bind fun t29 =>
  some (t29, 0)

def ether_Build.k2 (a0 : api_Frame) (k : Nat) (x22 : ByteArray) : Option (ByteArray × Int) :=
  bif (a0.Type_ == 0) then
    ether_Build.k1 k x22 a0 (a0.Body.size : Int)
  else
    ether_Build.k1 k x22 a0 a0.Type_

def ether_Build.f (k : Nat) (a0 : api_Frame) : Option (ByteArray × Int) :=
  (ether_Check.f a0).bind fun r2 =>
  bif (r2 != 0) then
    some ((⟨#[]⟩ : ByteArray), r2)
  else
    (ether_put.f k a0.Dst 6).bind fun r5 =>
    (ether_put.f k a0.Src 6).bind fun r7 =>
    (catS r5 r7).bind fun t9 =>
    bif a0.Tag.Has then
      (ether_put.f k 33024 2).bind fun r12 =>
      (ether_info.f a0.Tag).bind fun r14 =>
      (ether_put.f k r14 2).bind fun r16 =>
      (catS r12 r16).bind fun t18 =>
      (catS t9 t18).bind fun t20 =>
      ether_Build.k2 a0 k t20
    else
      ether_Build.k2 a0 k t9

set_option maxRecDepth 100000 in
theorem ether_Build_calls (k : Nat) (a0 : api_Frame) (r : ByteArray × Int) (h : ether_Build.f k a0 = some r) : Pure Tryz.prog Glob 16 #[.agg #[.int .u64 a0.Dst, .int .u64 a0.Src, .bool a0.Tag.Has, .int .i64 a0.Tag.Pri, .bool a0.Tag.Dei, .int .i64 a0.Tag.Vid, .int .i64 a0.Type_, .string a0.Body]] (.tuple #[.string r.1, .int .i64 r.2]) := by
  intro w Z hS
  refine calls_of (args := [.agg #[.int .u64 a0.Dst, .int .u64 a0.Src, .bool a0.Tag.Has, .int .i64 a0.Tag.Pri, .bool a0.Tag.Dei, .int .i64 a0.Tag.Vid, .int .i64 a0.Type_, .string a0.Body]]) (L := [(0, .agg #[.int .u64 a0.Dst, .int .u64 a0.Src, .bool a0.Tag.Has, .int .i64 a0.Tag.Pri, .bool a0.Tag.Dei, .int .i64 a0.Tag.Vid, .int .i64 a0.Type_, .string a0.Body])]) (N := 45) (S := Sat w Z [] [] Glob) Tryz.func16 rfl rfl (Nat.le_of_ble_eq_true rfl) rfl hS ?_
  have hM := h
  clear h hS
  unfold ether_Build.f at hM
  refine WP.seq ?_
  refine WP.run [] [1, 2, 3] (fun b1 => [(1, .pointer (some ⟨b1, 0, none⟩)), (2, .string (⟨#[]⟩ : ByteArray)), (3, .int .i64 0)]) (fun b1 => [(b1, .cells #[.int .u64 a0.Dst, .int .u64 a0.Src, .bool a0.Tag.Has, .int .i64 a0.Tag.Pri, .bool a0.Tag.Dei, .int .i64 a0.Tag.Vid, .int .i64 a0.Type_, .string a0.Body] 29 (0, 0))]) (fun b1 => []) (fun b1 => by kernel_rfl) (fun b1 => ?_)
  refine WP.seq ?_
  refine WP.seq ?_
  refine WP.region ?_
  refine WL.run 1 [0, 0, 0, 0, 0, 0, 0, 0] [1, 2, 3, 7] (fun _ => [(1, .pointer (some ⟨b1, 0, none⟩)), (2, .string (⟨#[]⟩ : ByteArray)), (3, .int .i64 0), (7, .agg #[.int .u64 a0.Dst, .int .u64 a0.Src, .bool a0.Tag.Has, .int .i64 a0.Tag.Pri, .bool a0.Tag.Dei, .int .i64 a0.Tag.Vid, .int .i64 a0.Type_, .string a0.Body])]) (fun _ => [(b1, .cells #[.int .u64 a0.Dst, .int .u64 a0.Src, .bool a0.Tag.Has, .int .i64 a0.Tag.Pri, .bool a0.Tag.Dei, .int .i64 a0.Tag.Vid, .int .i64 a0.Type_, .string a0.Body] 29 (0, 0))]) (fun _ => [b1, b1, b1, b1, b1, b1, b1, b1]) (fun _ => by kernel_rfl) (fun _ => ?_)
  obtain ⟨r2, h3, hM⟩ := bind_some hM
  refine WL.callP [] [] (ether_Check_calls a0 _ h3) (fun _ h => h) (by kernel_rfl) (by kernel_rfl) rfl ?_
  refine WL.run 1 [] [1, 2, 3, 4] (fun _ => [(1, .pointer (some ⟨b1, 0, none⟩)), (2, .string (⟨#[]⟩ : ByteArray)), (3, .int .i64 0), (4, .int .i64 r2)]) (fun _ => [(b1, .cells #[.int .u64 a0.Dst, .int .u64 a0.Src, .bool a0.Tag.Has, .int .i64 a0.Tag.Pri, .bool a0.Tag.Dei, .int .i64 a0.Tag.Vid, .int .i64 a0.Type_, .string a0.Body] 29 (0, 0))]) (fun _ => []) (fun _ => by kernel_rfl) (fun _ => ?_)
  refine WP.done ?_
  refine WP.seq ?_
  refine WP.run [] [1, 2, 3, 4, 10] (fun _ => [(1, .pointer (some ⟨b1, 0, none⟩)), (2, .string (⟨#[]⟩ : ByteArray)), (3, .int .i64 0), (4, .int .i64 r2), (10, .bool (r2 != 0))]) (fun _ => [(b1, .cells #[.int .u64 a0.Dst, .int .u64 a0.Src, .bool a0.Tag.Has, .int .i64 a0.Tag.Pri, .bool a0.Tag.Dei, .int .i64 a0.Tag.Vid, .int .i64 a0.Type_, .string a0.Body] 29 (0, 0))]) (fun _ => []) (fun _ => by kernel_rfl) (fun _ => ?_)
  refine WP.cond (r2 != 0) rfl rfl (fun c4 => ?_) (fun c4 => ?_)
  · replace hM := cond_t hM c4
    refine WP.seq ?_
    refine WP.run [] [1, 2, 3] (fun _ => [(1, .pointer (some ⟨b1, 0, none⟩)), (2, .string (⟨#[]⟩ : ByteArray)), (3, .int .i64 r2)]) (fun _ => [(b1, .cells #[.int .u64 a0.Dst, .int .u64 a0.Src, .bool a0.Tag.Has, .int .i64 a0.Tag.Pri, .bool a0.Tag.Dei, .int .i64 a0.Tag.Vid, .int .i64 a0.Type_, .string a0.Body] 29 (0, 0))]) (fun _ => []) (fun _ => by kernel_rfl) (fun _ => ?_)
    obtain rfl := Option.some.inj hM
    exact WP.ret [] [] (.tuple #[.string (⟨#[]⟩ : ByteArray), .int .i64 r2]) (by kernel_rfl) (fun w' hw => ⟨rfl, hw.pick [] rfl⟩)
  · replace hM := cond_f hM c4
    refine WP.skip ?_
    refine WP.seq ?_
    refine WP.quiet (by kernel_rfl) (by kernel_rfl) ?_
    refine QL.run 2 [0] [1, 2, 3, 13] [b1] [(1, .pointer (some ⟨b1, 0, none⟩)), (2, .string (⟨#[]⟩ : ByteArray)), (3, .int .i64 0), (13, .int .u64 a0.Dst)] (by kernel_rfl) ?_
    obtain ⟨r5, h6, hM⟩ := bind_some hM
    refine QL.callP [] [] (ether_put_calls k a0.Dst 6 _ h6) (fun _ h => h) (by kernel_rfl) (by kernel_rfl) rfl ?_
    refine QL.run 2 [0] [1, 2, 3, 14, 16] [b1] [(1, .pointer (some ⟨b1, 0, none⟩)), (2, .string (⟨#[]⟩ : ByteArray)), (3, .int .i64 0), (14, .string r5), (16, .int .u64 a0.Src)] (by kernel_rfl) ?_
    obtain ⟨r7, h8, hM⟩ := bind_some hM
    refine QL.callP [] [] (ether_put_calls k a0.Src 6 _ h8) (fun _ h => h) (by kernel_rfl) (by kernel_rfl) rfl ?_
    obtain ⟨t9, h10, hM⟩ := bind_some hM
    refine QL.val (fun _ => run_catS (a := r5) (b := r7) (by kernel_rfl) (by kernel_rfl) h10) (by kernel_rfl) (by kernel_rfl) rfl ?_
    refine QL.run 1 [] [1, 2, 3, 5] [] [(1, .pointer (some ⟨b1, 0, none⟩)), (2, .string (⟨#[]⟩ : ByteArray)), (3, .int .i64 0), (5, .string t9)] (by kernel_rfl) ?_
    refine QL.done ?_
    refine WP.seqJoin (σ := ByteArray) (fun st => ether_Build.k2 a0 k st = some r) (fun st => [(1, .pointer (some ⟨b1, 0, none⟩)), (2, .string (⟨#[]⟩ : ByteArray)), (3, .int .i64 0), (5, .string st)]) (fun st => Sat w Z [(b1, .cells #[.int .u64 a0.Dst, .int .u64 a0.Src, .bool a0.Tag.Has, .int .i64 a0.Tag.Pri, .bool a0.Tag.Dei, .int .i64 a0.Tag.Vid, .int .i64 a0.Type_, .string a0.Body] 29 (0, 0))] [] Glob) (fun st hM => ?_) (fun K2 => ?_)
    ·
      obtain ⟨x22, rfl⟩ : ∃ y, y = st := ⟨st, rfl⟩
      replace hM : ether_Build.k2 a0 k x22 = some r := hM
      unfold ether_Build.k2 at hM
      show WP _ _ _ _ _ [(1, .pointer (some ⟨b1, 0, none⟩)), (2, .string (⟨#[]⟩ : ByteArray)), (3, .int .i64 0), (5, .string x22)] (Sat w Z [(b1, .cells #[.int .u64 a0.Dst, .int .u64 a0.Src, .bool a0.Tag.Has, .int .i64 a0.Tag.Pri, .bool a0.Tag.Dei, .int .i64 a0.Tag.Vid, .int .i64 a0.Type_, .string a0.Body] 29 (0, 0))] [] Glob)
      refine WP.seq ?_
      refine WP.run [0] [1, 2, 3, 5, 6] (fun _ => [(1, .pointer (some ⟨b1, 0, none⟩)), (2, .string (⟨#[]⟩ : ByteArray)), (3, .int .i64 0), (5, .string x22), (6, .int .i64 a0.Type_)]) (fun _ => [(b1, .cells #[.int .u64 a0.Dst, .int .u64 a0.Src, .bool a0.Tag.Has, .int .i64 a0.Tag.Pri, .bool a0.Tag.Dei, .int .i64 a0.Tag.Vid, .int .i64 a0.Type_, .string a0.Body] 29 (0, 0))]) (fun _ => [b1]) (fun _ => by kernel_rfl) (fun _ => ?_)
      refine WP.seqJoin (σ := Int) (fun st => ether_Build.k1 k x22 a0 st = some r) (fun st => [(1, .pointer (some ⟨b1, 0, none⟩)), (2, .string (⟨#[]⟩ : ByteArray)), (3, .int .i64 0), (5, .string x22), (6, .int .i64 st)]) (fun st => Sat w Z [(b1, .cells #[.int .u64 a0.Dst, .int .u64 a0.Src, .bool a0.Tag.Has, .int .i64 a0.Tag.Pri, .bool a0.Tag.Dei, .int .i64 a0.Tag.Vid, .int .i64 a0.Type_, .string a0.Body] 29 (0, 0))] [] Glob) (fun st hM => ?_) (fun K1 => ?_)
      ·
        obtain ⟨x24, rfl⟩ : ∃ y, y = st := ⟨st, rfl⟩
        replace hM : ether_Build.k1 k x22 a0 x24 = some r := hM
        unfold ether_Build.k1 at hM
        show WP _ _ _ _ _ [(1, .pointer (some ⟨b1, 0, none⟩)), (2, .string (⟨#[]⟩ : ByteArray)), (3, .int .i64 0), (5, .string x22), (6, .int .i64 x24)] (Sat w Z [(b1, .cells #[.int .u64 a0.Dst, .int .u64 a0.Src, .bool a0.Tag.Has, .int .i64 a0.Tag.Pri, .bool a0.Tag.Dei, .int .i64 a0.Tag.Vid, .int .i64 a0.Type_, .string a0.Body] 29 (0, 0))] [] Glob)
        refine WP.seq ?_
        refine WP.quiet (by kernel_rfl) (by kernel_rfl) ?_
        refine QL.run 3 [] [1, 2, 3, 37, 39] [] [(1, .pointer (some ⟨b1, 0, none⟩)), (2, .string (⟨#[]⟩ : ByteArray)), (3, .int .i64 0), (37, .string x22), (39, .int .u64 (u64 x24))] (by kernel_rfl) ?_
        obtain ⟨r25, h26, hM⟩ := bind_some hM
        refine QL.callP [] [] (ether_put_calls k (u64 x24) 2 _ h26) (fun _ h => h) (by kernel_rfl) (by kernel_rfl) rfl ?_
        obtain ⟨t27, h28, hM⟩ := bind_some hM
        refine QL.val (fun _ => run_catS (a := x22) (b := r25) (by kernel_rfl) (by kernel_rfl) h28) (by kernel_rfl) (by kernel_rfl) rfl ?_
        refine QL.run 2 [0] [2, 3, 41, 43] [b1] [(2, .string (⟨#[]⟩ : ByteArray)), (3, .int .i64 0), (41, .string t27), (43, .string a0.Body)] (by kernel_rfl) ?_
        obtain ⟨t29, h30, hM⟩ := bind_some hM
        refine QL.val (fun _ => run_catS (a := t27) (b := a0.Body) (by kernel_rfl) (by kernel_rfl) h30) (by kernel_rfl) (by kernel_rfl) rfl ?_
        refine QL.run 2 [] [2, 3] [] [(2, .string t29), (3, .int .i64 0)] (by kernel_rfl) ?_
        refine QL.done ?_
        refine WP.keep [false] (by kernel_rfl : _ = []) ?_
        obtain rfl := Option.some.inj hM
        exact WP.ret [] [] (.tuple #[.string t29, .int .i64 0]) (by kernel_rfl) (fun w' hw => ⟨rfl, hw.pick [] rfl⟩)
      ·
        refine WP.seq ?_
        refine WP.run [] [1, 2, 3, 5, 6, 33] (fun _ => [(1, .pointer (some ⟨b1, 0, none⟩)), (2, .string (⟨#[]⟩ : ByteArray)), (3, .int .i64 0), (5, .string x22), (6, .int .i64 a0.Type_), (33, .bool (a0.Type_ == 0))]) (fun _ => [(b1, .cells #[.int .u64 a0.Dst, .int .u64 a0.Src, .bool a0.Tag.Has, .int .i64 a0.Tag.Pri, .bool a0.Tag.Dei, .int .i64 a0.Tag.Vid, .int .i64 a0.Type_, .string a0.Body] 29 (0, 0))]) (fun _ => []) (fun _ => by kernel_rfl) (fun _ => ?_)
        refine WP.cond (a0.Type_ == 0) rfl rfl (fun c23 => ?_) (fun c23 => ?_)
        · replace hM := cond_t hM c23
          refine WP.run [0] [1, 2, 3, 5, 6] (fun _ => [(1, .pointer (some ⟨b1, 0, none⟩)), (2, .string (⟨#[]⟩ : ByteArray)), (3, .int .i64 0), (5, .string x22), (6, .int .i64 (a0.Body.size : Int))]) (fun _ => [(b1, .cells #[.int .u64 a0.Dst, .int .u64 a0.Src, .bool a0.Tag.Has, .int .i64 a0.Tag.Pri, .bool a0.Tag.Dei, .int .i64 a0.Tag.Vid, .int .i64 a0.Type_, .string a0.Body] 29 (0, 0))]) (fun _ => [b1]) (fun _ => by kernel_rfl) (fun _ => ?_)
          exact WP.sub [1, 2, 3, 5, 6] (by kernel_rfl) (WP.pick [0] (by kernel_rfl) (by kernel_rfl) (K1 (a0.Body.size : Int) hM))
        · replace hM := cond_f hM c23
          refine WP.skip ?_
          exact WP.sub [1, 2, 3, 5, 6] (by kernel_rfl) (WP.pick [0] (by kernel_rfl) (by kernel_rfl) (K1 a0.Type_ hM))
    ·
      refine WP.seq ?_
      refine WP.run [0] [1, 2, 3, 5, 21] (fun _ => [(1, .pointer (some ⟨b1, 0, none⟩)), (2, .string (⟨#[]⟩ : ByteArray)), (3, .int .i64 0), (5, .string t9), (21, .bool a0.Tag.Has)]) (fun _ => [(b1, .cells #[.int .u64 a0.Dst, .int .u64 a0.Src, .bool a0.Tag.Has, .int .i64 a0.Tag.Pri, .bool a0.Tag.Dei, .int .i64 a0.Tag.Vid, .int .i64 a0.Type_, .string a0.Body] 29 (0, 0))]) (fun _ => [b1]) (fun _ => by kernel_rfl) (fun _ => ?_)
      refine WP.cond a0.Tag.Has rfl rfl (fun c11 => ?_) (fun c11 => ?_)
      · replace hM := cond_t hM c11
        refine WP.quiet (by kernel_rfl) (by kernel_rfl) ?_
        refine QL.run 1 [] [1, 2, 3, 5, 22] [] [(1, .pointer (some ⟨b1, 0, none⟩)), (2, .string (⟨#[]⟩ : ByteArray)), (3, .int .i64 0), (5, .string t9), (22, .string t9)] (by kernel_rfl) ?_
        obtain ⟨r12, h13, hM⟩ := bind_some hM
        refine QL.callP [] [] (ether_put_calls k 33024 2 _ h13) (fun _ h => h) (by kernel_rfl) (by kernel_rfl) rfl ?_
        refine QL.run 2 [0, 0, 0, 0] [1, 2, 3, 5, 22, 23, 25] [b1, b1, b1, b1] [(1, .pointer (some ⟨b1, 0, none⟩)), (2, .string (⟨#[]⟩ : ByteArray)), (3, .int .i64 0), (5, .string t9), (22, .string t9), (23, .string r12), (25, .agg #[.bool a0.Tag.Has, .int .i64 a0.Tag.Pri, .bool a0.Tag.Dei, .int .i64 a0.Tag.Vid])] (by kernel_rfl) ?_
        obtain ⟨r14, h15, hM⟩ := bind_some hM
        refine QL.callP [] [] (ether_info_calls a0.Tag _ h15) (fun _ h => h) (by kernel_rfl) (by kernel_rfl) rfl ?_
        obtain ⟨r16, h17, hM⟩ := bind_some hM
        refine QL.callP [] [] (ether_put_calls k r14 2 _ h17) (fun _ h => h) (by kernel_rfl) (by kernel_rfl) rfl ?_
        obtain ⟨t18, h19, hM⟩ := bind_some hM
        refine QL.val (fun _ => run_catS (a := r12) (b := r16) (by kernel_rfl) (by kernel_rfl) h19) (by kernel_rfl) (by kernel_rfl) rfl ?_
        obtain ⟨t20, h21, hM⟩ := bind_some hM
        refine QL.val (fun _ => run_catS (a := t9) (b := t18) (by kernel_rfl) (by kernel_rfl) h21) (by kernel_rfl) (by kernel_rfl) rfl ?_
        refine QL.run 1 [] [1, 2, 3, 5] [] [(1, .pointer (some ⟨b1, 0, none⟩)), (2, .string (⟨#[]⟩ : ByteArray)), (3, .int .i64 0), (5, .string t20)] (by kernel_rfl) ?_
        refine QL.done ?_
        exact WP.sub [1, 2, 3, 5] (by kernel_rfl) (WP.pick [0] (by kernel_rfl) (by kernel_rfl) (K2 t20 hM))
      · replace hM := cond_f hM c11
        refine WP.skip ?_
        exact WP.sub [1, 2, 3, 5] (by kernel_rfl) (WP.pick [0] (by kernel_rfl) (by kernel_rfl) (K2 t9 hM))

end Go.Proofs.YtbodofjnfmjbpaaGreatDoor

namespace Go.Proofs.YtbodofjnfmjbpaaGreatDoor
open Go Eng
set_option linter.unusedVariables false
set_option linter.unusedSimpArgs false

/-! ### gangway/vxlan.Build: function 18 -/
def vxlan_Build.f (k : Nat) (a0 : Int) (a1 : ByteArray) : Option (ByteArray × Int) :=
  bif ((decide (a0 < 0)) || (decide (a0 > 16777215))) then
    some ((⟨#[]⟩ : ByteArray), 1)
  else
    (octets_Put.f k (u64 a0) 3).bind fun (r2, r3) =>
    (catS (ByteArray.push (ByteArray.push (ByteArray.push (ByteArray.push ByteArray.empty (UInt8.ofNat (Int.toNat 8))) (UInt8.ofNat (Int.toNat 0))) (UInt8.ofNat (Int.toNat 0))) (UInt8.ofNat (Int.toNat 0))) r2).bind fun t6 =>
    (catS t6 (⟨#[0]⟩ : ByteArray)).bind fun t8 =>
    (catS t8 a1).bind fun t10 =>
    some (t10, 0)

set_option maxRecDepth 100000 in
theorem vxlan_Build_calls (k : Nat) (a0 : Int) (a1 : ByteArray) (r : ByteArray × Int) (h : vxlan_Build.f k a0 a1 = some r) : Pure Tryz.prog Glob 18 #[.int .i64 a0, .string a1] (.tuple #[.string r.1, .int .i64 r.2]) := by
  intro w Z hS
  refine calls_of (args := [.int .i64 a0, .string a1]) (L := [(0, .int .i64 a0), (1, .string a1)]) (N := 27) (S := Sat w Z [] [] Glob) Tryz.func18 rfl rfl (Nat.le_of_ble_eq_true rfl) rfl hS ?_
  have hM := h
  clear h hS
  unfold vxlan_Build.f at hM
  refine WP.seq ?_
  refine WP.run [] [0, 1, 4, 5] (fun _ => [(0, .int .i64 a0), (1, .string a1), (4, .string (⟨#[]⟩ : ByteArray)), (5, .int .i64 0)]) (fun _ => []) (fun _ => []) (fun _ => by kernel_rfl) (fun _ => ?_)
  refine WP.seq ?_
  refine WP.seq ?_
  refine WP.region ?_
  refine WL.run 3 [] [0, 1, 4, 5, 10] (fun _ => [(0, .int .i64 a0), (1, .string a1), (4, .string (⟨#[]⟩ : ByteArray)), (5, .int .i64 0), (10, .bool (decide (a0 < 0)))]) (fun _ => []) (fun _ => []) (fun _ => by kernel_rfl) (fun _ => ?_)
  refine WL.sub [0, 1, 4, 5, 10] (L' := [(0, .int .i64 a0), (1, .string a1), (4, .string (⟨#[]⟩ : ByteArray)), (5, .int .i64 0), (10, .bool (decide (a0 < 0)))]) (by kernel_rfl) ?_
  refine WL.both (fun b' => [(0, .int .i64 a0), (1, .string a1), (4, .string (⟨#[]⟩ : ByteArray)), (5, .int .i64 0), (10, .bool b')]) (decide (a0 < 0)) 3 [] [] [0, 1, 4, 5, 13] (fun b' => [(0, .int .i64 a0), (1, .string a1), (4, .string (⟨#[]⟩ : ByteArray)), (5, .int .i64 0), (13, .bool (b' || (decide (a0 > 16777215))))]) [] [] (fun _ => by kernel_rfl) (fun _ => by kernel_rfl) ?_
  refine WP.done ?_
  refine WP.cond ((decide (a0 < 0)) || (decide (a0 > 16777215))) rfl rfl (fun c1 => ?_) (fun c1 => ?_)
  · replace hM := cond_t hM c1
    refine WP.seq ?_
    refine WP.run [] [0, 1, 4, 5] (fun _ => [(0, .int .i64 a0), (1, .string a1), (4, .string (⟨#[]⟩ : ByteArray)), (5, .int .i64 1)]) (fun _ => []) (fun _ => []) (fun _ => by kernel_rfl) (fun _ => ?_)
    obtain rfl := Option.some.inj hM
    exact WP.ret [] [] (.tuple #[.string (⟨#[]⟩ : ByteArray), .int .i64 1]) (by kernel_rfl) (fun w' hw => ⟨rfl, hw.pick [] rfl⟩)
  · replace hM := cond_f hM c1
    refine WP.skip ?_
    refine WP.seq ?_
    refine WP.region ?_
    refine WL.run 2 [] [1, 4, 5, 16] (fun _ => [(1, .string a1), (4, .string (⟨#[]⟩ : ByteArray)), (5, .int .i64 0), (16, .int .u64 (u64 a0))]) (fun _ => []) (fun _ => []) (fun _ => by kernel_rfl) (fun _ => ?_)
    obtain ⟨⟨r2, r3⟩, h4, hM⟩ := bind_some hM
    dsimp only at hM
    refine WL.callP [] [] (octets_Put_calls k (u64 a0) 3 _ h4) (fun _ h => h) (by kernel_rfl) (by kernel_rfl) rfl ?_
    refine WL.run 5 [] [1, 4, 5, 6] (fun _ => [(1, .string a1), (4, .string (⟨#[]⟩ : ByteArray)), (5, .int .i64 0), (6, .string r2)]) (fun _ => []) (fun _ => []) (fun _ => by kernel_rfl) (fun _ => ?_)
    refine WP.done ?_
    refine WP.seq ?_
    refine WP.region ?_
    refine WL.run 3 [0, 0, 0, 0] [1, 4, 5, 21, 22] (fun b5 => [(1, .string a1), (4, .string (⟨#[]⟩ : ByteArray)), (5, .int .i64 0), (21, .string (ByteArray.push (ByteArray.push (ByteArray.push (ByteArray.push ByteArray.empty (UInt8.ofNat (Int.toNat 8))) (UInt8.ofNat (Int.toNat 0))) (UInt8.ofNat (Int.toNat 0))) (UInt8.ofNat (Int.toNat 0)))), (22, .string r2)]) (fun b5 => [(b5, .cells #[.int .u8 8, .int .u8 0, .int .u8 0, .int .u8 0] 5 (0, 0))]) (fun b5 => [b5, b5, b5, b5]) (fun b5 => by kernel_rfl) (fun b5 => ?_)
    obtain ⟨t6, h7, hM⟩ := bind_some hM
    refine WL.val (fun _ => run_catS (a := (ByteArray.push (ByteArray.push (ByteArray.push (ByteArray.push ByteArray.empty (UInt8.ofNat (Int.toNat 8))) (UInt8.ofNat (Int.toNat 0))) (UInt8.ofNat (Int.toNat 0))) (UInt8.ofNat (Int.toNat 0)))) (b := r2) (by kernel_rfl) (by kernel_rfl) h7) (by kernel_rfl) (by kernel_rfl) rfl ?_
    obtain ⟨t8, h9, hM⟩ := bind_some hM
    refine WL.val (fun _ => run_catS (a := t6) (b := (⟨#[0]⟩ : ByteArray)) (by kernel_rfl) (by kernel_rfl) h9) (by kernel_rfl) (by kernel_rfl) rfl ?_
    refine WL.run 1 [] [4, 5, 24, 25] (fun _ => [(4, .string (⟨#[]⟩ : ByteArray)), (5, .int .i64 0), (24, .string t8), (25, .string a1)]) (fun _ => [(b5, .cells #[.int .u8 8, .int .u8 0, .int .u8 0, .int .u8 0] 5 (0, 0))]) (fun _ => []) (fun _ => by kernel_rfl) (fun _ => ?_)
    obtain ⟨t10, h11, hM⟩ := bind_some hM
    refine WL.val (fun _ => run_catS (a := t8) (b := a1) (by kernel_rfl) (by kernel_rfl) h11) (by kernel_rfl) (by kernel_rfl) rfl ?_
    refine WL.run 2 [] [4, 5] (fun _ => [(4, .string t10), (5, .int .i64 0)]) (fun _ => [(b5, .cells #[.int .u8 8, .int .u8 0, .int .u8 0, .int .u8 0] 5 (0, 0))]) (fun _ => []) (fun _ => by kernel_rfl) (fun _ => ?_)
    refine WP.done ?_
    refine WP.keep [false] (by kernel_rfl : _ = []) ?_
    obtain rfl := Option.some.inj hM
    exact WP.ret [] [] (.tuple #[.string t10, .int .i64 0]) (by kernel_rfl) (fun w' hw => ⟨rfl, hw.pick [] rfl⟩)

end Go.Proofs.YtbodofjnfmjbpaaGreatDoor

namespace Go.Proofs.YtbodofjnfmjbpaaGreatDoor
open Go Eng
set_option linter.unusedVariables false
set_option linter.unusedSimpArgs false

/-! ### gangway/vxlan.Hash: function 39 -/
def vxlan_Hash.l1 (a0 : ByteArray) : Nat → Int → Int → Option (Int)
  | 0, _, _ => none
  | n + 1, x1, x2 =>
    bif decide (x2 < (a0.size : Int)) then
      (idxS a0 x2).bind fun t4 =>
      vxlan_Hash.l1 a0 n (u32 ((bXor .u32 x1 (u32 t4)) * 16777619)) (i64 (x2 + 1))
    else
      some x1

def vxlan_Hash.f (k : Nat) (a0 : ByteArray) : Option (Int) :=
  vxlan_Hash.l1 a0 k 2166136261 0

set_option maxRecDepth 100000 in
theorem vxlan_Hash_calls (k : Nat) (a0 : ByteArray) (r : Int) (h : vxlan_Hash.f k a0 = some r) : Pure Tryz.prog Glob 39 #[.string a0] (.int .u32 r) := by
  intro w Z hS
  refine calls_of (args := [.string a0]) (L := [(0, .string a0)]) (N := 19) (S := Sat w Z [] [] Glob) Tryz.func39 rfl rfl (Nat.le_of_ble_eq_true rfl) rfl hS ?_
  have hM := h
  clear h hS
  unfold vxlan_Hash.f at hM
  refine WP.seq ?_
  refine WP.run [] [0, 2] (fun _ => [(0, .string a0), (2, .int .u32 0)]) (fun _ => []) (fun _ => []) (fun _ => by kernel_rfl) (fun _ => ?_)
  refine WP.seq ?_
  refine WP.run [] [0, 2, 3] (fun _ => [(0, .string a0), (2, .int .u32 0), (3, .int .u32 2166136261)]) (fun _ => []) (fun _ => []) (fun _ => by kernel_rfl) (fun _ => ?_)
  refine WP.seq ?_
  refine WP.seq ?_
  refine WP.run [] [0, 2, 3, 6, 7] (fun _ => [(0, .string a0), (2, .int .u32 0), (3, .int .u32 2166136261), (6, .int .i64 (a0.size : Int)), (7, .int .i64 0)]) (fun _ => []) (fun _ => []) (fun _ => by kernel_rfl) (fun _ => ?_)
  refine WP.block ?_
  refine WP.sub [0, 2, 3, 6, 7] (L' := [(0, .string a0), (2, .int .u32 0), (3, .int .u32 2166136261), (6, .int .i64 (a0.size : Int)), (7, .int .i64 0)]) (by kernel_rfl) ?_
  refine WP.loop (σ := Int × Int) (fun n st => vxlan_Hash.l1 a0 n st.1 st.2) r (fun st => [(0, .string a0), (2, .int .u32 0), (3, .int .u32 st.1), (6, .int .i64 (a0.size : Int)), (7, .int .i64 st.2)]) (fun st => Sat w Z [] [] Glob) (st := (2166136261, 0)) (fun n st hM => ?_) hM
  rcases n with _ | n
  · exact nomatch (show (none : Option _) = some r from hM)
  obtain ⟨x1, x2⟩ := st
  replace hM : vxlan_Hash.l1 a0 (n + 1) x1 x2 = some r := hM
  rw [vxlan_Hash.l1] at hM
  show WP _ _ _ _ _ [(0, .string a0), (2, .int .u32 0), (3, .int .u32 x1), (6, .int .i64 (a0.size : Int)), (7, .int .i64 x2)] (Sat w Z [] [] Glob)
  refine WP.seq ?_
  refine WP.run [] [0, 2, 3, 6, 7, 8] (fun _ => [(0, .string a0), (2, .int .u32 0), (3, .int .u32 x1), (6, .int .i64 (a0.size : Int)), (7, .int .i64 x2), (8, .bool (decide (x2 < (a0.size : Int))))]) (fun _ => []) (fun _ => []) (fun _ => by kernel_rfl) (fun _ => ?_)
  refine WP.seq ?_
  refine WP.cond (decide (x2 < (a0.size : Int))) rfl rfl (fun c3 => ?_) (fun c3 => ?_)
  · replace hM := cond_t hM c3
    refine WP.skip ?_
    refine WP.seq ?_
    refine WP.block ?_
    refine WP.seq ?_
    refine WP.run [] [0, 2, 3, 4, 6, 7, 8, 9] (fun _ => [(0, .string a0), (2, .int .u32 0), (3, .int .u32 x1), (4, .int .i64 x2), (6, .int .i64 (a0.size : Int)), (7, .int .i64 x2), (8, .bool (decide (x2 < (a0.size : Int)))), (9, .int .i64 x2)]) (fun _ => []) (fun _ => []) (fun _ => by kernel_rfl) (fun _ => ?_)
    refine WP.region ?_
    refine WL.run 3 [] [0, 2, 3, 4, 6, 7, 8, 9, 10, 11, 12] (fun _ => [(0, .string a0), (2, .int .u32 0), (3, .int .u32 x1), (4, .int .i64 x2), (6, .int .i64 (a0.size : Int)), (7, .int .i64 x2), (8, .bool (decide (x2 < (a0.size : Int)))), (9, .int .i64 x2), (10, .int .u32 x1), (11, .string a0), (12, .int .i64 x2)]) (fun _ => []) (fun _ => []) (fun _ => by kernel_rfl) (fun _ => ?_)
    obtain ⟨t4, h5, hM⟩ := bind_some hM
    refine WL.val (fun _ => run_idxS (s := a0) (k := .i64) (i := x2) (by kernel_rfl) (by kernel_rfl) (by kernel_rfl) h5) (by kernel_rfl) (by kernel_rfl) rfl ?_
    refine WL.run 4 [] [0, 2, 3, 4, 6, 7, 8, 9, 10, 11, 12, 13, 14, 15, 16] (fun _ => [(0, .string a0), (2, .int .u32 0), (3, .int .u32 (u32 ((bXor .u32 x1 (u32 t4)) * 16777619))), (4, .int .i64 x2), (6, .int .i64 (a0.size : Int)), (7, .int .i64 x2), (8, .bool (decide (x2 < (a0.size : Int)))), (9, .int .i64 x2), (10, .int .u32 x1), (11, .string a0), (12, .int .i64 x2), (13, .int .u8 t4), (14, .int .u32 (u32 t4)), (15, .int .u32 (bXor .u32 x1 (u32 t4))), (16, .int .u32 (u32 ((bXor .u32 x1 (u32 t4)) * 16777619)))]) (fun _ => []) (fun _ => []) (fun _ => by kernel_rfl) (fun _ => ?_)
    refine WP.done ?_
    refine WP.leave ?_
    refine WP.run [] [0, 2, 3, 4, 6, 7, 8, 9, 10, 11, 12, 13, 14, 15, 16, 17] (fun _ => [(0, .string a0), (2, .int .u32 0), (3, .int .u32 (u32 ((bXor .u32 x1 (u32 t4)) * 16777619))), (4, .int .i64 x2), (6, .int .i64 (a0.size : Int)), (7, .int .i64 (i64 (x2 + 1))), (8, .bool (decide (x2 < (a0.size : Int)))), (9, .int .i64 x2), (10, .int .u32 x1), (11, .string a0), (12, .int .i64 x2), (13, .int .u8 t4), (14, .int .u32 (u32 t4)), (15, .int .u32 (bXor .u32 x1 (u32 t4))), (16, .int .u32 (u32 ((bXor .u32 x1 (u32 t4)) * 16777619))), (17, .int .i64 (i64 (x2 + 1)))]) (fun _ => []) (fun _ => []) (fun _ => by kernel_rfl) (fun _ => ?_)
    exact WP.again' [0, 2, 3, 6, 7] (u32 ((bXor .u32 x1 (u32 t4)) * 16777619), i64 (x2 + 1)) hM (by kernel_rfl) (fun _ h => h.pick [] (by kernel_rfl))
  · replace hM := cond_f hM c3
    refine WP.exit rfl ?_
    refine WP.seq ?_
    refine WP.run [] [2] (fun _ => [(2, .int .u32 x1)]) (fun _ => []) (fun _ => []) (fun _ => by kernel_rfl) (fun _ => ?_)
    obtain rfl := Option.some.inj hM
    exact WP.ret [] [] (.int .u32 x1) (by kernel_rfl) (fun w' hw => ⟨rfl, hw.pick [] rfl⟩)

end Go.Proofs.YtbodofjnfmjbpaaGreatDoor

namespace Go.Proofs.YtbodofjnfmjbpaaGreatDoor
open Go Eng
set_option linter.unusedVariables false
set_option linter.unusedSimpArgs false

/-! ### gangway/vxlan.Port: function 19 -/
def vxlan_Port.f (k : Nat) (a0 : ByteArray) : Option (Int) :=
  (sliceS a0 0 (imin (a0.size : Int) 14)).bind fun t1 =>
  (vxlan_Hash.f k t1).bind fun r3 =>
  some (i64 (49152 + (i64 (Int.tmod r3 16384))))

set_option maxRecDepth 100000 in
theorem vxlan_Port_calls (k : Nat) (a0 : ByteArray) (r : Int) (h : vxlan_Port.f k a0 = some r) : Pure Tryz.prog Glob 19 #[.string a0] (.int .i64 r) := by
  intro w Z hS
  refine calls_of (args := [.string a0]) (L := [(0, .string a0)]) (N := 12) (S := Sat w Z [] [] Glob) Tryz.func19 rfl rfl (Nat.le_of_ble_eq_true rfl) rfl hS ?_
  have hM := h
  clear h hS
  unfold vxlan_Port.f at hM
  refine WP.seq ?_
  refine WP.run [] [0, 2] (fun _ => [(0, .string a0), (2, .int .i64 0)]) (fun _ => []) (fun _ => []) (fun _ => by kernel_rfl) (fun _ => ?_)
  refine WP.seq ?_
  refine WP.region ?_
  refine WL.run 4 [] [2, 3, 6] (fun _ => [(2, .int .i64 0), (3, .string a0), (6, .int .i64 (imin (a0.size : Int) 14))]) (fun _ => []) (fun _ => []) (fun _ => by kernel_rfl) (fun _ => ?_)
  obtain ⟨t1, h2, hM⟩ := bind_some hM
  refine WL.val (fun _ => run_sliceS_hi (s := a0) (kh := .i64) (h := imin (a0.size : Int) 14) (by kernel_rfl) (by kernel_rfl) (by kernel_rfl) h2) (by kernel_rfl) (by kernel_rfl) rfl ?_
  obtain ⟨r3, h4, hM⟩ := bind_some hM
  refine WL.callP [] [] (vxlan_Hash_calls k t1 _ h4) (fun _ h => h) (by kernel_rfl) (by kernel_rfl) rfl ?_
  refine WL.run 4 [] [2] (fun _ => [(2, .int .i64 (i64 (49152 + (i64 (Int.tmod r3 16384)))))]) (fun _ => []) (fun _ => []) (fun _ => by kernel_rfl) (fun _ => ?_)
  refine WP.done ?_
  obtain rfl := Option.some.inj hM
  exact WP.ret [] [] (.int .i64 (i64 (49152 + (i64 (Int.tmod r3 16384))))) (by kernel_rfl) (fun w' hw => ⟨rfl, hw.pick [] rfl⟩)

end Go.Proofs.YtbodofjnfmjbpaaGreatDoor

namespace Go.Proofs.YtbodofjnfmjbpaaGreatDoor
open Go Eng
set_option linter.unusedVariables false
set_option linter.unusedSimpArgs false

/-! ### gangway/udp.Check$1: function 95 -/
def udp_Check_1.f (a0 : Int) : Option (Bool) :=
  some ((decide (a0 ≥ 0)) && (decide (a0 < 65536)))

set_option maxRecDepth 100000 in
theorem udp_Check_1_calls (a0 : Int) (r : Bool) (h : udp_Check_1.f a0 = some r) : Pure Tryz.prog Glob 95 #[.int .i64 a0] (.bool r) := by
  intro w Z hS
  refine calls_of (args := [.int .i64 a0]) (L := [(0, .int .i64 a0)]) (N := 9) (S := Sat w Z [] [] Glob) Tryz.func95 rfl rfl (Nat.le_of_ble_eq_true rfl) rfl hS ?_
  have hM := h
  clear h hS
  unfold udp_Check_1.f at hM
  refine WP.seq ?_
  refine WP.run [] [0, 2] (fun _ => [(0, .int .i64 a0), (2, .bool false)]) (fun _ => []) (fun _ => []) (fun _ => by kernel_rfl) (fun _ => ?_)
  refine WP.seq ?_
  refine WP.region ?_
  refine WL.run 3 [] [0, 2, 5] (fun _ => [(0, .int .i64 a0), (2, .bool false), (5, .bool (decide (a0 ≥ 0)))]) (fun _ => []) (fun _ => []) (fun _ => by kernel_rfl) (fun _ => ?_)
  refine WL.sub [0, 2, 5] (L' := [(0, .int .i64 a0), (2, .bool false), (5, .bool (decide (a0 ≥ 0)))]) (by kernel_rfl) ?_
  refine WL.both (fun b' => [(0, .int .i64 a0), (2, .bool false), (5, .bool b')]) (decide (a0 ≥ 0)) 3 [] [] [2, 8] (fun b' => [(2, .bool false), (8, .bool (b' && (decide (a0 < 65536))))]) [] [] (fun _ => by kernel_rfl) (fun _ => by kernel_rfl) ?_
  refine WL.run 1 [] [2] (fun _ => [(2, .bool ((decide (a0 ≥ 0)) && (decide (a0 < 65536))))]) (fun _ => []) (fun _ => []) (fun _ => by kernel_rfl) (fun _ => ?_)
  refine WP.done ?_
  obtain rfl := Option.some.inj hM
  exact WP.ret [] [] (.bool ((decide (a0 ≥ 0)) && (decide (a0 < 65536)))) (by kernel_rfl) (fun w' hw => ⟨rfl, hw.pick [] rfl⟩)

end Go.Proofs.YtbodofjnfmjbpaaGreatDoor

namespace Go.Proofs.YtbodofjnfmjbpaaGreatDoor
open Go Eng
set_option linter.unusedVariables false
set_option linter.unusedSimpArgs false

/-! ### gangway/udp.Check: function 65 -/
def udp_Check.k1 (a0 : api_Udp) (x7 : Bool) : Option (Int) :=
  bif (x7 && (decide ((a0.Body.size : Int) ≤ 65507))) then
    some 0
  else
    some 71

def udp_Check.f (a0 : api_Udp) : Option (Int) :=
  (udp_Check_1.f a0.Src).bind fun r2 =>
  bif r2 then
    (udp_Check_1.f a0.Dst).bind fun r5 =>
    udp_Check.k1 a0 r5
  else
    udp_Check.k1 a0 false

set_option maxRecDepth 100000 in
theorem udp_Check_calls (a0 : api_Udp) (r : Int) (h : udp_Check.f a0 = some r) : Pure Tryz.prog Glob 65 #[.agg #[.int .i64 a0.Src, .int .i64 a0.Dst, .bool a0.NoSum, .string a0.Body]] (.int .i64 r) := by
  intro w Z hS
  refine calls_of (args := [.agg #[.int .i64 a0.Src, .int .i64 a0.Dst, .bool a0.NoSum, .string a0.Body]]) (L := [(0, .agg #[.int .i64 a0.Src, .int .i64 a0.Dst, .bool a0.NoSum, .string a0.Body])]) (N := 20) (S := Sat w Z [] [] Glob) Tryz.func65 rfl rfl (Nat.le_of_ble_eq_true rfl) rfl hS ?_
  have hM := h
  clear h hS
  unfold udp_Check.f at hM
  refine WP.seq ?_
  refine WP.run [] [1, 2] (fun b1 => [(1, .pointer (some ⟨b1, 0, none⟩)), (2, .int .i64 0)]) (fun b1 => [(b1, .cells #[.int .i64 a0.Src, .int .i64 a0.Dst, .bool a0.NoSum, .string a0.Body] 40 (0, 0))]) (fun b1 => []) (fun b1 => by kernel_rfl) (fun b1 => ?_)
  refine WP.seq ?_
  refine WP.run [] [1, 2, 3] (fun _ => [(1, .pointer (some ⟨b1, 0, none⟩)), (2, .int .i64 0), (3, .func (.func 95) #[] #[])]) (fun _ => [(b1, .cells #[.int .i64 a0.Src, .int .i64 a0.Dst, .bool a0.NoSum, .string a0.Body] 40 (0, 0))]) (fun _ => []) (fun _ => by kernel_rfl) (fun _ => ?_)
  refine WP.seq ?_
  refine WP.seq ?_
  refine WP.region ?_
  refine WL.run 3 [0] [1, 2, 3, 4, 6] (fun _ => [(1, .pointer (some ⟨b1, 0, none⟩)), (2, .int .i64 0), (3, .func (.func 95) #[] #[]), (4, .func (.func 95) #[] #[]), (6, .int .i64 a0.Src)]) (fun _ => [(b1, .cells #[.int .i64 a0.Src, .int .i64 a0.Dst, .bool a0.NoSum, .string a0.Body] 40 (0, 0))]) (fun _ => [b1]) (fun _ => by kernel_rfl) (fun _ => ?_)
  obtain ⟨r2, h3, hM⟩ := bind_some hM
  refine WL.callP [] [] (udp_Check_1_calls a0.Src _ h3) (fun _ h => h) (by kernel_rfl) (by kernel_rfl) rfl ?_
  refine WL.run 1 [] [1, 2, 3, 8] (fun _ => [(1, .pointer (some ⟨b1, 0, none⟩)), (2, .int .i64 0), (3, .func (.func 95) #[] #[]), (8, .bool r2)]) (fun _ => [(b1, .cells #[.int .i64 a0.Src, .int .i64 a0.Dst, .bool a0.NoSum, .string a0.Body] 40 (0, 0))]) (fun _ => []) (fun _ => by kernel_rfl) (fun _ => ?_)
  refine WL.sub [1, 2, 3, 8] (L' := [(1, .pointer (some ⟨b1, 0, none⟩)), (2, .int .i64 0), (3, .func (.func 95) #[] #[]), (8, .bool r2)]) (by kernel_rfl) ?_
  refine WL.join (σ := Bool) 5 (fun st => udp_Check.k1 a0 st = some r) (fun st => [(1, .pointer (some ⟨b1, 0, none⟩)), (2, .int .i64 0), (13, .bool st)]) (fun st => Sat w Z [(b1, .cells #[.int .i64 a0.Src, .int .i64 a0.Dst, .bool a0.NoSum, .string a0.Body] 40 (0, 0))] [] Glob) (fun st hM => ?_) (fun K1 => ?_)
  ·
    obtain ⟨x7, rfl⟩ : ∃ y, y = st := ⟨st, rfl⟩
    replace hM : udp_Check.k1 a0 x7 = some r := hM
    unfold udp_Check.k1 at hM
    show WL _ _ _ _ _ [(1, .pointer (some ⟨b1, 0, none⟩)), (2, .int .i64 0), (13, .bool x7)] (Sat w Z [(b1, .cells #[.int .i64 a0.Src, .int .i64 a0.Dst, .bool a0.NoSum, .string a0.Body] 40 (0, 0))] [] Glob)
    refine WL.run 1 [] [1, 2, 14] (fun _ => [(1, .pointer (some ⟨b1, 0, none⟩)), (2, .int .i64 0), (14, .bool x7)]) (fun _ => [(b1, .cells #[.int .i64 a0.Src, .int .i64 a0.Dst, .bool a0.NoSum, .string a0.Body] 40 (0, 0))]) (fun _ => []) (fun _ => by kernel_rfl) (fun _ => ?_)
    refine WL.sub [1, 2, 14] (L' := [(1, .pointer (some ⟨b1, 0, none⟩)), (2, .int .i64 0), (14, .bool x7)]) (by kernel_rfl) ?_
    refine WL.both (fun b' => [(1, .pointer (some ⟨b1, 0, none⟩)), (2, .int .i64 0), (14, .bool b')]) x7 5 [0] [] [2, 19] (fun b' => [(2, .int .i64 0), (19, .bool (b' && (decide ((a0.Body.size : Int) ≤ 65507))))]) [b1] [] (fun _ => by kernel_rfl) (fun _ => by kernel_rfl) ?_
    refine WP.done ?_
    refine WP.keep [false] (by kernel_rfl : _ = []) ?_
    refine WP.cond (x7 && (decide ((a0.Body.size : Int) ≤ 65507))) rfl rfl (fun c8 => ?_) (fun c8 => ?_)
    · replace hM := cond_t hM c8
      refine WP.seq ?_
      refine WP.run [] [2] (fun _ => [(2, .int .i64 0)]) (fun _ => []) (fun _ => []) (fun _ => by kernel_rfl) (fun _ => ?_)
      obtain rfl := Option.some.inj hM
      exact WP.ret [] [] (.int .i64 0) (by kernel_rfl) (fun w' hw => ⟨rfl, hw.pick [] rfl⟩)
    · replace hM := cond_f hM c8
      refine WP.skip ?_
      refine WP.seq ?_
      refine WP.run [] [2] (fun _ => [(2, .int .i64 71)]) (fun _ => []) (fun _ => []) (fun _ => by kernel_rfl) (fun _ => ?_)
      obtain rfl := Option.some.inj hM
      exact WP.ret [] [] (.int .i64 71) (by kernel_rfl) (fun w' hw => ⟨rfl, hw.pick [] rfl⟩)
  ·
    refine WL.split (fun b' => [(1, .pointer (some ⟨b1, 0, none⟩)), (2, .int .i64 0), (3, .func (.func 95) #[] #[]), (8, .bool b')]) r2 (fun c4 => ?_) (fun c4 => ?_)
    · replace hM := cond_t hM c4
      refine WL.run 3 [0] [1, 2, 8, 9, 11] (fun _ => [(1, .pointer (some ⟨b1, 0, none⟩)), (2, .int .i64 0), (8, .bool true), (9, .func (.func 95) #[] #[]), (11, .int .i64 a0.Dst)]) (fun _ => [(b1, .cells #[.int .i64 a0.Src, .int .i64 a0.Dst, .bool a0.NoSum, .string a0.Body] 40 (0, 0))]) (fun _ => [b1]) (fun _ => by kernel_rfl) (fun _ => ?_)
      obtain ⟨r5, h6, hM⟩ := bind_some hM
      refine WL.callP [] [] (udp_Check_1_calls a0.Dst _ h6) (fun _ h => h) (by kernel_rfl) (by kernel_rfl) rfl ?_
      refine WL.run 1 [] [1, 2, 13] (fun _ => [(1, .pointer (some ⟨b1, 0, none⟩)), (2, .int .i64 0), (13, .bool r5)]) (fun _ => [(b1, .cells #[.int .i64 a0.Src, .int .i64 a0.Dst, .bool a0.NoSum, .string a0.Body] 40 (0, 0))]) (fun _ => []) (fun _ => by kernel_rfl) (fun _ => ?_)
      exact WL.sub [1, 2, 13] (by kernel_rfl) (WL.pick [0] (by kernel_rfl) (by kernel_rfl) (K1 r5 hM))
    · replace hM := cond_f hM c4
      refine WL.run 5 [] [1, 2, 13] (fun _ => [(1, .pointer (some ⟨b1, 0, none⟩)), (2, .int .i64 0), (13, .bool false)]) (fun _ => [(b1, .cells #[.int .i64 a0.Src, .int .i64 a0.Dst, .bool a0.NoSum, .string a0.Body] 40 (0, 0))]) (fun _ => []) (fun _ => by kernel_rfl) (fun _ => ?_)
      exact WL.sub [1, 2, 13] (by kernel_rfl) (WL.pick [0] (by kernel_rfl) (by kernel_rfl) (K1 false hM))

end Go.Proofs.YtbodofjnfmjbpaaGreatDoor

namespace Go.Proofs.YtbodofjnfmjbpaaGreatDoor
open Go Eng
set_option linter.unusedVariables false
set_option linter.unusedSimpArgs false

/-! ### gangway/udp.word: function 66 -/
def udp_word.f (k : Nat) (a0 : Int) : Option (ByteArray) :=
  (octets_Put.f k (u64 a0) 2).bind fun (r1, r2) =>
  some r1

set_option maxRecDepth 100000 in
theorem udp_word_calls (k : Nat) (a0 : Int) (r : ByteArray) (h : udp_word.f k a0 = some r) : Pure Tryz.prog Glob 66 #[.int .i64 a0] (.string r) := by
  intro w Z hS
  refine calls_of (args := [.int .i64 a0]) (L := [(0, .int .i64 a0)]) (N := 12) (S := Sat w Z [] [] Glob) Tryz.func66 rfl rfl (Nat.le_of_ble_eq_true rfl) rfl hS ?_
  have hM := h
  clear h hS
  unfold udp_word.f at hM
  refine WP.seq ?_
  refine WP.run [] [0, 2] (fun _ => [(0, .int .i64 a0), (2, .string (⟨#[]⟩ : ByteArray))]) (fun _ => []) (fun _ => []) (fun _ => by kernel_rfl) (fun _ => ?_)
  refine WP.seq ?_
  refine WP.region ?_
  refine WL.run 2 [] [2, 7] (fun _ => [(2, .string (⟨#[]⟩ : ByteArray)), (7, .int .u64 (u64 a0))]) (fun _ => []) (fun _ => []) (fun _ => by kernel_rfl) (fun _ => ?_)
  obtain ⟨⟨r1, r2⟩, h3, hM⟩ := bind_some hM
  dsimp only at hM
  refine WL.callP [] [] (octets_Put_calls k (u64 a0) 2 _ h3) (fun _ h => h) (by kernel_rfl) (by kernel_rfl) rfl ?_
  refine WL.run 5 [] [2, 3] (fun _ => [(2, .string (⟨#[]⟩ : ByteArray)), (3, .string r1)]) (fun _ => []) (fun _ => []) (fun _ => by kernel_rfl) (fun _ => ?_)
  refine WP.done ?_
  refine WP.seq ?_
  refine WP.run [] [2] (fun _ => [(2, .string r1)]) (fun _ => []) (fun _ => []) (fun _ => by kernel_rfl) (fun _ => ?_)
  obtain rfl := Option.some.inj hM
  exact WP.ret [] [] (.string r1) (by kernel_rfl) (fun w' hw => ⟨rfl, hw.pick [] rfl⟩)

end Go.Proofs.YtbodofjnfmjbpaaGreatDoor

namespace Go.Proofs.YtbodofjnfmjbpaaGreatDoor
open Go Eng
set_option linter.unusedVariables false
set_option linter.unusedSimpArgs false

/-! ### gangway/csum.Head: function 68 -/
def csum_Head.f (k : Nat) (a0 : Int) (a1 : Int) (a2 : Int) (a3 : Int) : Option (ByteArray) :=
  (octets_Put.f k (u64 a0) 4).bind fun (r1, r2) =>
  (octets_Put.f k (u64 a1) 4).bind fun (r4, r5) =>
  (octets_Put.f k (u64 (bAnd .i64 a3 65535)) 2).bind fun (r7, r8) =>
  (catS r1 r4).bind fun t10 =>
  (catS t10 (ByteArray.push (ByteArray.push ByteArray.empty (UInt8.ofNat (Int.toNat 0))) (UInt8.ofNat (Int.toNat (u8 a2))))).bind fun t13 =>
  (catS t13 r7).bind fun t15 =>
  some t15

set_option maxRecDepth 100000 in
theorem csum_Head_calls (k : Nat) (a0 : Int) (a1 : Int) (a2 : Int) (a3 : Int) (r : ByteArray) (h : csum_Head.f k a0 a1 a2 a3 = some r) : Pure Tryz.prog Glob 68 #[.int .u32 a0, .int .u32 a1, .int .i64 a2, .int .i64 a3] (.string r) := by
  intro w Z hS
  refine calls_of (args := [.int .u32 a0, .int .u32 a1, .int .i64 a2, .int .i64 a3]) (L := [(0, .int .u32 a0), (1, .int .u32 a1), (2, .int .i64 a2), (3, .int .i64 a3)]) (N := 44) (S := Sat w Z [] [] Glob) Tryz.func68 rfl rfl (Nat.le_of_ble_eq_true rfl) rfl hS ?_
  have hM := h
  clear h hS
  unfold csum_Head.f at hM
  refine WP.seq ?_
  refine WP.run [] [0, 1, 2, 3, 8] (fun _ => [(0, .int .u32 a0), (1, .int .u32 a1), (2, .int .i64 a2), (3, .int .i64 a3), (8, .string (⟨#[]⟩ : ByteArray))]) (fun _ => []) (fun _ => []) (fun _ => by kernel_rfl) (fun _ => ?_)
  refine WP.seq ?_
  refine WP.region ?_
  refine WL.run 2 [] [1, 2, 3, 8, 17] (fun _ => [(1, .int .u32 a1), (2, .int .i64 a2), (3, .int .i64 a3), (8, .string (⟨#[]⟩ : ByteArray)), (17, .int .u64 (u64 a0))]) (fun _ => []) (fun _ => []) (fun _ => by kernel_rfl) (fun _ => ?_)
  obtain ⟨⟨r1, r2⟩, h3, hM⟩ := bind_some hM
  dsimp only at hM
  refine WL.callP [] [] (octets_Put_calls k (u64 a0) 4 _ h3) (fun _ h => h) (by kernel_rfl) (by kernel_rfl) rfl ?_
  refine WL.run 5 [] [1, 2, 3, 8, 9] (fun _ => [(1, .int .u32 a1), (2, .int .i64 a2), (3, .int .i64 a3), (8, .string (⟨#[]⟩ : ByteArray)), (9, .string r1)]) (fun _ => []) (fun _ => []) (fun _ => by kernel_rfl) (fun _ => ?_)
  refine WP.done ?_
  refine WP.seq ?_
  refine WP.region ?_
  refine WL.run 2 [] [2, 3, 8, 9, 23] (fun _ => [(2, .int .i64 a2), (3, .int .i64 a3), (8, .string (⟨#[]⟩ : ByteArray)), (9, .string r1), (23, .int .u64 (u64 a1))]) (fun _ => []) (fun _ => []) (fun _ => by kernel_rfl) (fun _ => ?_)
  obtain ⟨⟨r4, r5⟩, h6, hM⟩ := bind_some hM
  dsimp only at hM
  refine WL.callP [] [] (octets_Put_calls k (u64 a1) 4 _ h6) (fun _ h => h) (by kernel_rfl) (by kernel_rfl) rfl ?_
  refine WL.run 5 [] [2, 3, 8, 9, 11] (fun _ => [(2, .int .i64 a2), (3, .int .i64 a3), (8, .string (⟨#[]⟩ : ByteArray)), (9, .string r1), (11, .string r4)]) (fun _ => []) (fun _ => []) (fun _ => by kernel_rfl) (fun _ => ?_)
  refine WP.done ?_
  refine WP.seq ?_
  refine WP.region ?_
  refine WL.run 3 [] [2, 8, 9, 11, 30] (fun _ => [(2, .int .i64 a2), (8, .string (⟨#[]⟩ : ByteArray)), (9, .string r1), (11, .string r4), (30, .int .u64 (u64 (bAnd .i64 a3 65535)))]) (fun _ => []) (fun _ => []) (fun _ => by kernel_rfl) (fun _ => ?_)
  obtain ⟨⟨r7, r8⟩, h9, hM⟩ := bind_some hM
  dsimp only at hM
  refine WL.callP [] [] (octets_Put_calls k (u64 (bAnd .i64 a3 65535)) 2 _ h9) (fun _ h => h) (by kernel_rfl) (by kernel_rfl) rfl ?_
  refine WL.run 5 [] [2, 8, 9, 11, 13] (fun _ => [(2, .int .i64 a2), (8, .string (⟨#[]⟩ : ByteArray)), (9, .string r1), (11, .string r4), (13, .string r7)]) (fun _ => []) (fun _ => []) (fun _ => by kernel_rfl) (fun _ => ?_)
  refine WP.done ?_
  refine WP.seq ?_
  refine WP.region ?_
  refine WL.run 2 [] [2, 8, 13, 34, 35] (fun _ => [(2, .int .i64 a2), (8, .string (⟨#[]⟩ : ByteArray)), (13, .string r7), (34, .string r1), (35, .string r4)]) (fun _ => []) (fun _ => []) (fun _ => by kernel_rfl) (fun _ => ?_)
  obtain ⟨t10, h11, hM⟩ := bind_some hM
  refine WL.val (fun _ => run_catS (a := r1) (b := r4) (by kernel_rfl) (by kernel_rfl) h11) (by kernel_rfl) (by kernel_rfl) rfl ?_
  refine WL.run 4 [0, 0] [8, 13, 36, 40] (fun b12 => [(8, .string (⟨#[]⟩ : ByteArray)), (13, .string r7), (36, .string t10), (40, .string (ByteArray.push (ByteArray.push ByteArray.empty (UInt8.ofNat (Int.toNat 0))) (UInt8.ofNat (Int.toNat (u8 a2)))))]) (fun b12 => [(b12, .cells #[.int .u8 0, .int .u8 (u8 a2)] 5 (0, 0))]) (fun b12 => [b12, b12]) (fun b12 => by kernel_rfl) (fun b12 => ?_)
  obtain ⟨t13, h14, hM⟩ := bind_some hM
  refine WL.val (fun _ => run_catS (a := t10) (b := (ByteArray.push (ByteArray.push ByteArray.empty (UInt8.ofNat (Int.toNat 0))) (UInt8.ofNat (Int.toNat (u8 a2))))) (by kernel_rfl) (by kernel_rfl) h14) (by kernel_rfl) (by kernel_rfl) rfl ?_
  refine WL.run 1 [] [8, 41, 42] (fun _ => [(8, .string (⟨#[]⟩ : ByteArray)), (41, .string t13), (42, .string r7)]) (fun _ => [(b12, .cells #[.int .u8 0, .int .u8 (u8 a2)] 5 (0, 0))]) (fun _ => []) (fun _ => by kernel_rfl) (fun _ => ?_)
  obtain ⟨t15, h16, hM⟩ := bind_some hM
  refine WL.val (fun _ => run_catS (a := t13) (b := r7) (by kernel_rfl) (by kernel_rfl) h16) (by kernel_rfl) (by kernel_rfl) rfl ?_
  refine WL.run 1 [] [8] (fun _ => [(8, .string t15)]) (fun _ => [(b12, .cells #[.int .u8 0, .int .u8 (u8 a2)] 5 (0, 0))]) (fun _ => []) (fun _ => by kernel_rfl) (fun _ => ?_)
  refine WP.done ?_
  refine WP.keep [false] (by kernel_rfl : _ = []) ?_
  obtain rfl := Option.some.inj hM
  exact WP.ret [] [] (.string t15) (by kernel_rfl) (fun w' hw => ⟨rfl, hw.pick [] rfl⟩)

end Go.Proofs.YtbodofjnfmjbpaaGreatDoor

namespace Go.Proofs.YtbodofjnfmjbpaaGreatDoor
open Go Eng
set_option linter.unusedVariables false
set_option linter.unusedSimpArgs false

/-! ### strings.Join: function 114 -/
def strings_Join.ren : Go.Shelf.Ren where
  f := fun | 156 => 114 | 165 => 118 | 166 => 119 | 169 => 120 | 240 => 121 | 241 => 122 | 276 => 123 | 277 => 124 | n => n
  t := fun | 0 => 0 | 3 => 3 | 4 => 4 | 5 => 5 | 9 => 9 | 20 => 20 | 31 => 161 | 37 => 87 | 70 => 191 | 72 => 193 | 75 => 73 | 76 => 170 | 80 => 196 | 127 => 197 | 164 => 103 | n => n
  g := fun n => n
set_option maxRecDepth 100000 in
theorem strings_Join.lays : Go.Proofs.Lays.n156 Tryz.prog strings_Join.ren where
  mixed := by kernel_rfl
  f156 := by kernel_rfl
  f165 := by kernel_rfl
  f166 := by kernel_rfl
  f169 := by kernel_rfl
  f240 := by kernel_rfl
  f241 := by kernel_rfl
  f276 := by kernel_rfl
  f277 := by kernel_rfl
  t0 := by kernel_rfl
  a0 := (fun _ => by kernel_rfl)
  z0 := (fun _ => by kernel_rfl)
  v0 := (fun _ => by kernel_rfl)
  t3 := by kernel_rfl
  a3 := (fun _ => by kernel_rfl)
  z3 := (fun _ => by kernel_rfl)
  v3 := (fun _ => by kernel_rfl)
  t4 := by kernel_rfl
  a4 := (fun _ => by kernel_rfl)
  z4 := (fun _ => by kernel_rfl)
  v4 := (fun _ => by kernel_rfl)
  t9 := by kernel_rfl
  a9 := (fun _ => by kernel_rfl)
  z9 := (fun _ => by kernel_rfl)
  v9 := (fun _ => by kernel_rfl)
  t20 := by kernel_rfl
  a20 := (fun _ => by kernel_rfl)
  z20 := (fun _ => by kernel_rfl)
  v20 := (fun _ => by kernel_rfl)
  t31 := by kernel_rfl
  a31 := (fun _ => by kernel_rfl)
  z31 := (fun _ => by kernel_rfl)
  v31 := (fun _ => by kernel_rfl)
  t37 := by kernel_rfl
  a37 := (fun _ => by kernel_rfl)
  z37 := (fun _ => by kernel_rfl)
  v37 := (fun _ => by kernel_rfl)
  t70 := by kernel_rfl
  a70 := (fun _ => by kernel_rfl)
  z70 := (fun _ => by kernel_rfl)
  v70 := (fun _ => by kernel_rfl)
  t72 := by kernel_rfl
  a72 := (fun _ => by kernel_rfl)
  z72 := (fun _ => by kernel_rfl)
  v72 := (fun _ => by kernel_rfl)
  t75 := by kernel_rfl
  a75 := (fun _ => by kernel_rfl)
  z75 := (fun _ => by kernel_rfl)
  v75 := (fun _ => by kernel_rfl)
  t76 := by kernel_rfl
  a76 := (fun _ => by kernel_rfl)
  z76 := (fun _ => by kernel_rfl)
  v76 := (fun _ => by kernel_rfl)
  t127 := by kernel_rfl
  a127 := (fun _ => by kernel_rfl)
  z127 := (fun _ => by kernel_rfl)
  v127 := (fun _ => by kernel_rfl)
  t164 := by kernel_rfl
  a164 := (fun _ => by kernel_rfl)
  z164 := (fun _ => by kernel_rfl)
  v164 := (fun _ => by kernel_rfl)
set_option maxRecDepth 100000 in
theorem strings_Join.extra : Go.Proofs.Builder.Extra Tryz.prog strings_Join.ren where
  sizeBuilder := by kernel_rfl
  liesBuilder := by kernel_rfl
  t5 := by kernel_rfl
  a5 := fun _ => by kernel_rfl
  z5 := fun _ => by kernel_rfl
  v5 := fun _ => by kernel_rfl
  infoByte := by kernel_rfl
  cellsByte := by kernel_rfl
  sizeByte := by kernel_rfl
  neB5 := by decide

def strings_Join.f (a0 : List ByteArray) (a1 : ByteArray) : Option ByteArray := if a0.length ≤ 140737488355328 ∧ (Lib.join (a0.map (·.data.toList)) a1.data.toList).length ≤ 140737488355328 then some ⟨(Lib.join (a0.map (·.data.toList)) a1.data.toList).toArray⟩ else none

set_option maxRecDepth 100000 in
theorem strings_Join_calls (A00 : SkL Unit) (a0 : List ByteArray) (a1 : ByteArray) (r : ByteArray) (h : strings_Join.f a0 a1 = some r) : Pure Tryz.prog ([Row 1 (pl encS) noK A00 a0] ++ Glob) 114 #[slcV A00 a0.length, .string a1] (.string r) := by
  intro w Z hS
  unfold strings_Join.f at h
  split at h
  · rename_i hb
    obtain rfl := Option.some.inj h
    have hR := hS.fact (φ := Row 1 (pl encS) noK A00 a0) (fact_at 0 rfl)
    have hback : ∀ w' : World, Go.RowKit.Below w.heap.size w w' → Sat w Z [] [] ([Row 1 (pl encS) noK A00 a0] ++ Glob) w' := fun w' hb' => hS.away hb'.os hb'.tape hb'.output hb'.size hb'.block
    cases hA : A00.a with
    | none =>
      obtain ⟨h1, h2⟩ := hR.nil hA
      subst h1
      have hv : slcV A00 ([] : List ByteArray).length = .slice none 0 0 := by simp [slcV, SkL.addr, hA, h2]
      rw [hv]
      refine (Any.strings_Join_none strings_Join.lays strings_Join.extra none 0 a1 w).mono fun e w' ⟨he, hw⟩ => ⟨he, ?_⟩
      subst hw
      exact hS
    | some q =>
      obtain ⟨b, o⟩ := q
      have hv : slcV A00 a0.length = .slice (some ⟨b, o, none⟩) a0.length A00.c := by simp [slcV, SkL.addr, hA]
      rw [hv]
      have hcell : ∀ (j : Nat) x, a0[j]? = some x → w.cell? ⟨b, o + j, none⟩ = some (.string x) := fun j x hx => by
        have := hR.cells b o hA j x hx 0 (.string x) rfl
        rwa [Nat.mul_one, Nat.add_zero] at this
      cases hl : a0 with
      | nil =>
        subst hl
        refine (Any.strings_Join_none strings_Join.lays strings_Join.extra _ _ a1 w).mono fun e w' ⟨he, hw⟩ => ⟨he, ?_⟩
        subst hw
        exact hS
      | cons x0 xr =>
        have hlt : b < w.heap.size := by
          have := hcell 0 x0 (by rw [hl]; rfl)
          exact World.block_lt_of_cell? w _ this
        rw [← hl]
        exact (Any.strings_Join strings_Join.lays strings_Join.extra b o A00.c a0 a1 w hcell hlt hb.1 hR.le hb.2).mono fun e w' ⟨he, hw⟩ => ⟨he, hback w' hw⟩
  · cases h

end Go.Proofs.YtbodofjnfmjbpaaGreatDoor

namespace Go.Proofs.YtbodofjnfmjbpaaGreatDoor
open Go Eng
set_option linter.unusedVariables false
set_option linter.unusedSimpArgs false

/-! ### gangway/csum.fold: function 115 -/
def csum_fold.l1 : Nat → Int → Option (Int)
  | 0, _ => none
  | n + 1, x1 =>
    bif decide (x1 > 65535) then
      csum_fold.l1 n (i64 ((bAnd .i64 x1 65535) + (Int.fdiv x1 65536)))
    else
      some x1

def csum_fold.f (k : Nat) (a0 : Int) : Option (Int) :=
  csum_fold.l1 k a0

set_option maxRecDepth 100000 in
theorem csum_fold_calls (k : Nat) (a0 : Int) (r : Int) (h : csum_fold.f k a0 = some r) : Pure Tryz.prog Glob 115 #[.int .i64 a0] (.int .i64 r) := by
  intro w Z hS
  refine calls_of (args := [.int .i64 a0]) (L := [(0, .int .i64 a0)]) (N := 11) (S := Sat w Z [] [] Glob) Tryz.func115 rfl rfl (Nat.le_of_ble_eq_true rfl) rfl hS ?_
  have hM := h
  clear h hS
  unfold csum_fold.f at hM
  refine WP.seq ?_
  refine WP.run [] [0, 2] (fun _ => [(0, .int .i64 a0), (2, .int .i64 0)]) (fun _ => []) (fun _ => []) (fun _ => by kernel_rfl) (fun _ => ?_)
  refine WP.seq ?_
  refine WP.block ?_
  refine WP.sub [0, 2] (L' := [(0, .int .i64 a0), (2, .int .i64 0)]) (by kernel_rfl) ?_
  refine WP.loop (σ := Int) (fun n st => csum_fold.l1 n st) r (fun st => [(0, .int .i64 st), (2, .int .i64 0)]) (fun st => Sat w Z [] [] Glob) (st := a0) (fun n st hM => ?_) hM
  rcases n with _ | n
  · exact nomatch (show (none : Option _) = some r from hM)
  obtain ⟨x1, rfl⟩ : ∃ y, y = st := ⟨st, rfl⟩
  replace hM : csum_fold.l1 (n + 1) x1 = some r := hM
  rw [csum_fold.l1] at hM
  show WP _ _ _ _ _ [(0, .int .i64 x1), (2, .int .i64 0)] (Sat w Z [] [] Glob)
  refine WP.seq ?_
  refine WP.seq ?_
  refine WP.run [] [0, 2, 3, 4] (fun _ => [(0, .int .i64 x1), (2, .int .i64 0), (3, .int .i64 x1), (4, .bool (decide (x1 > 65535)))]) (fun _ => []) (fun _ => []) (fun _ => by kernel_rfl) (fun _ => ?_)
  refine WP.cond (decide (x1 > 65535)) rfl rfl (fun c2 => ?_) (fun c2 => ?_)
  · replace hM := cond_t hM c2
    refine WP.skip ?_
    refine WP.block ?_
    refine WP.run [] [0, 2, 3, 4, 5, 6, 7, 8, 9] (fun _ => [(0, .int .i64 (i64 ((bAnd .i64 x1 65535) + (Int.fdiv x1 65536)))), (2, .int .i64 0), (3, .int .i64 x1), (4, .bool (decide (x1 > 65535))), (5, .int .i64 x1), (6, .int .i64 (bAnd .i64 x1 65535)), (7, .int .i64 x1), (8, .int .i64 (Int.fdiv x1 65536)), (9, .int .i64 (i64 ((bAnd .i64 x1 65535) + (Int.fdiv x1 65536))))]) (fun _ => []) (fun _ => []) (fun _ => by kernel_rfl) (fun _ => ?_)
    refine WP.leave ?_
    exact WP.again' [0, 2] (i64 ((bAnd .i64 x1 65535) + (Int.fdiv x1 65536))) hM (by kernel_rfl) (fun _ h => h.pick [] (by kernel_rfl))
  · replace hM := cond_f hM c2
    refine WP.exit rfl ?_
    refine WP.seq ?_
    refine WP.run [] [2] (fun _ => [(2, .int .i64 x1)]) (fun _ => []) (fun _ => []) (fun _ => by kernel_rfl) (fun _ => ?_)
    obtain rfl := Option.some.inj hM
    exact WP.ret [] [] (.int .i64 x1) (by kernel_rfl) (fun w' hw => ⟨rfl, hw.pick [] rfl⟩)

end Go.Proofs.YtbodofjnfmjbpaaGreatDoor

namespace Go.Proofs.YtbodofjnfmjbpaaGreatDoor
open Go Eng
set_option linter.unusedVariables false
set_option linter.unusedSimpArgs false

/-! ### gangway/csum.total: function 96 -/
def csum_total.l1 (x6 : ByteArray) (k : Nat) : Nat → Int → Int → Option (Int)
  | 0, _, _ => none
  | n + 1, x7, x8 =>
    bif decide (x8 < (x6.size : Int)) then
      (idxS x6 x8).bind fun t10 =>
      (idxS x6 (i64 (x8 + 1))).bind fun t12 =>
      (csum_fold.f k (i64 ((i64 (x7 + (i64 ((i64 t10) * 256)))) + (i64 t12)))).bind fun r14 =>
      csum_total.l1 x6 k n r14 (i64 (x8 + 2))
    else
      some x7

def csum_total.k2 (k : Nat) (x6 : ByteArray) : Option (Int) :=
  csum_total.l1 x6 k k 0 0

def csum_total.f (k : Nat) (a0 : (List ByteArray)) : Option (Int) :=
  (strings_Join.f a0 (⟨#[]⟩ : ByteArray)).bind fun r1 =>
  bif ((Int.tmod (r1.size : Int) 2) == 1) then
    (catS r1 (⟨#[0]⟩ : ByteArray)).bind fun t4 =>
    csum_total.k2 k t4
  else
    csum_total.k2 k r1

set_option maxRecDepth 100000 in
theorem csum_total_calls (k : Nat) (A00 : SkL Unit) (a0 : (List ByteArray)) (r : Int) (h : csum_total.f k a0 = some r) : Pure Tryz.prog ([Row 1 (pl encS) noK A00 a0] ++ Glob) 96 #[slcV A00 a0.length] (.int .i64 r) := by
  intro w Z hS
  refine calls_of (args := [slcV A00 a0.length]) (L := [(0, slcV A00 a0.length)]) (N := 35) (S := Sat w Z [] [] ([Row 1 (pl encS) noK A00 a0] ++ Glob)) Tryz.func96 rfl rfl (Nat.le_of_ble_eq_true rfl) rfl hS ?_
  have hM := h
  clear h hS
  unfold csum_total.f at hM
  refine WP.seq ?_
  refine WP.run [] [0, 2] (fun _ => [(0, slcV A00 a0.length), (2, .int .i64 0)]) (fun _ => []) (fun _ => []) (fun _ => by kernel_rfl) (fun _ => ?_)
  refine WP.seq ?_
  refine WP.region ?_
  refine WL.run 1 [] [2, 6] (fun _ => [(2, .int .i64 0), (6, slcV A00 a0.length)]) (fun _ => []) (fun _ => []) (fun _ => by kernel_rfl) (fun _ => ?_)
  obtain ⟨r1, h2, hM⟩ := bind_some hM
  refine WL.callP [] [] (strings_Join_calls A00 a0 (⟨#[]⟩ : ByteArray) _ h2) (sub_pick [0] (by kernel_rfl)) (by kernel_rfl) (by kernel_rfl) rfl ?_
  refine WL.run 1 [] [2, 3] (fun _ => [(2, .int .i64 0), (3, .string r1)]) (fun _ => []) (fun _ => []) (fun _ => by kernel_rfl) (fun _ => ?_)
  refine WP.done ?_
  refine WP.seqJoin (σ := ByteArray) (fun st => csum_total.k2 k st = some r) (fun st => [(2, .int .i64 0), (3, .string st)]) (fun st => Sat w Z [] [] ([Row 1 (pl encS) noK A00 a0] ++ Glob)) (fun st hM => ?_) (fun K2 => ?_)
  ·
    obtain ⟨x6, rfl⟩ : ∃ y, y = st := ⟨st, rfl⟩
    replace hM : csum_total.k2 k x6 = some r := hM
    unfold csum_total.k2 at hM
    show WP _ _ _ _ _ [(2, .int .i64 0), (3, .string x6)] (Sat w Z [] [] ([Row 1 (pl encS) noK A00 a0] ++ Glob))
    refine WP.seq ?_
    refine WP.run [] [2, 3, 4] (fun _ => [(2, .int .i64 0), (3, .string x6), (4, .int .i64 0)]) (fun _ => []) (fun _ => []) (fun _ => by kernel_rfl) (fun _ => ?_)
    refine WP.seq ?_
    refine WP.seq ?_
    refine WP.run [] [2, 3, 4, 5] (fun _ => [(2, .int .i64 0), (3, .string x6), (4, .int .i64 0), (5, .int .i64 0)]) (fun _ => []) (fun _ => []) (fun _ => by kernel_rfl) (fun _ => ?_)
    refine WP.block ?_
    refine WP.sub [2, 3, 4, 5] (L' := [(2, .int .i64 0), (3, .string x6), (4, .int .i64 0), (5, .int .i64 0)]) (by kernel_rfl) ?_
    refine WP.lessF [0] (F' := [Row 1 (pl encS) noK A00 a0]) (by kernel_rfl) ?_
    refine WP.loop (σ := Int × Int) (fun n st => csum_total.l1 x6 k n st.1 st.2) r (fun st => [(2, .int .i64 0), (3, .string x6), (4, .int .i64 st.1), (5, .int .i64 st.2)]) (fun st => Sat w Z [] [] ([Row 1 (pl encS) noK A00 a0] ++ Glob)) (st := (0, 0)) (fun n st hM => ?_) hM
    rcases n with _ | n
    · exact nomatch (show (none : Option _) = some r from hM)
    obtain ⟨x7, x8⟩ := st
    replace hM : csum_total.l1 x6 k (n + 1) x7 x8 = some r := hM
    rw [csum_total.l1] at hM
    show WP _ _ _ _ _ [(2, .int .i64 0), (3, .string x6), (4, .int .i64 x7), (5, .int .i64 x8)] (Sat w Z [] [] ([Row 1 (pl encS) noK A00 a0] ++ Glob))
    refine WP.seq ?_
    refine WP.seq ?_
    refine WP.run [] [2, 3, 4, 5, 14, 15, 16, 17] (fun _ => [(2, .int .i64 0), (3, .string x6), (4, .int .i64 x7), (5, .int .i64 x8), (14, .int .i64 x8), (15, .string x6), (16, .int .i64 (x6.size : Int)), (17, .bool (decide (x8 < (x6.size : Int))))]) (fun _ => []) (fun _ => []) (fun _ => by kernel_rfl) (fun _ => ?_)
    refine WP.cond (decide (x8 < (x6.size : Int))) rfl rfl (fun c9 => ?_) (fun c9 => ?_)
    · replace hM := cond_t hM c9
      refine WP.skip ?_
      refine WP.seq ?_
      refine WP.block ?_
      refine WP.quiet (by kernel_rfl) (by kernel_rfl) ?_
      refine QL.run 3 [] [2, 3, 4, 5, 14, 15, 16, 17, 20, 21, 22] [] [(2, .int .i64 0), (3, .string x6), (4, .int .i64 x7), (5, .int .i64 x8), (14, .int .i64 x8), (15, .string x6), (16, .int .i64 (x6.size : Int)), (17, .bool (decide (x8 < (x6.size : Int)))), (20, .int .i64 x7), (21, .string x6), (22, .int .i64 x8)] (by kernel_rfl) ?_
      obtain ⟨t10, h11, hM⟩ := bind_some hM
      refine QL.val (fun _ => run_idxS (s := x6) (k := .i64) (i := x8) (by kernel_rfl) (by kernel_rfl) (by kernel_rfl) h11) (by kernel_rfl) (by kernel_rfl) rfl ?_
      refine QL.run 6 [] [2, 3, 4, 5, 14, 15, 16, 17, 20, 21, 22, 23, 24, 25, 26, 27, 28, 29] [] [(2, .int .i64 0), (3, .string x6), (4, .int .i64 x7), (5, .int .i64 x8), (14, .int .i64 x8), (15, .string x6), (16, .int .i64 (x6.size : Int)), (17, .bool (decide (x8 < (x6.size : Int)))), (20, .int .i64 x7), (21, .string x6), (22, .int .i64 x8), (23, .int .u8 t10), (24, .int .i64 (i64 t10)), (25, .int .i64 (i64 ((i64 t10) * 256))), (26, .int .i64 (i64 (x7 + (i64 ((i64 t10) * 256))))), (27, .string x6), (28, .int .i64 x8), (29, .int .i64 (i64 (x8 + 1)))] (by kernel_rfl) ?_
      obtain ⟨t12, h13, hM⟩ := bind_some hM
      refine QL.val (fun _ => run_idxS (s := x6) (k := .i64) (i := i64 (x8 + 1)) (by kernel_rfl) (by kernel_rfl) (by kernel_rfl) h13) (by kernel_rfl) (by kernel_rfl) rfl ?_
      refine QL.run 2 [] [2, 3, 4, 5, 14, 15, 16, 17, 20, 21, 22, 23, 24, 25, 26, 27, 28, 29, 30, 31, 32] [] [(2, .int .i64 0), (3, .string x6), (4, .int .i64 x7), (5, .int .i64 x8), (14, .int .i64 x8), (15, .string x6), (16, .int .i64 (x6.size : Int)), (17, .bool (decide (x8 < (x6.size : Int)))), (20, .int .i64 x7), (21, .string x6), (22, .int .i64 x8), (23, .int .u8 t10), (24, .int .i64 (i64 t10)), (25, .int .i64 (i64 ((i64 t10) * 256))), (26, .int .i64 (i64 (x7 + (i64 ((i64 t10) * 256))))), (27, .string x6), (28, .int .i64 x8), (29, .int .i64 (i64 (x8 + 1))), (30, .int .u8 t12), (31, .int .i64 (i64 t12)), (32, .int .i64 (i64 ((i64 (x7 + (i64 ((i64 t10) * 256)))) + (i64 t12))))] (by kernel_rfl) ?_
      obtain ⟨r14, h15, hM⟩ := bind_some hM
      refine QL.callP [] [] (csum_fold_calls k (i64 ((i64 (x7 + (i64 ((i64 t10) * 256)))) + (i64 t12))) _ h15) (fun _ h => List.mem_append_right _ h) (by kernel_rfl) (by kernel_rfl) rfl ?_
      refine QL.run 1 [] [2, 3, 4, 5, 14, 15, 16, 17, 20, 21, 22, 23, 24, 25, 26, 27, 28, 29, 30, 31, 32, 33] [] [(2, .int .i64 0), (3, .string x6), (4, .int .i64 r14), (5, .int .i64 x8), (14, .int .i64 x8), (15, .string x6), (16, .int .i64 (x6.size : Int)), (17, .bool (decide (x8 < (x6.size : Int)))), (20, .int .i64 x7), (21, .string x6), (22, .int .i64 x8), (23, .int .u8 t10), (24, .int .i64 (i64 t10)), (25, .int .i64 (i64 ((i64 t10) * 256))), (26, .int .i64 (i64 (x7 + (i64 ((i64 t10) * 256))))), (27, .string x6), (28, .int .i64 x8), (29, .int .i64 (i64 (x8 + 1))), (30, .int .u8 t12), (31, .int .i64 (i64 t12)), (32, .int .i64 (i64 ((i64 (x7 + (i64 ((i64 t10) * 256)))) + (i64 t12)))), (33, .int .i64 r14)] (by kernel_rfl) ?_
      refine QL.done ?_
      refine WP.leave ?_
      refine WP.run [] [2, 3, 4, 5, 14, 15, 16, 17, 18, 19, 20, 21, 22, 23, 24, 25, 26, 27, 28, 29, 30, 31, 32, 33] (fun _ => [(2, .int .i64 0), (3, .string x6), (4, .int .i64 r14), (5, .int .i64 (i64 (x8 + 2))), (14, .int .i64 x8), (15, .string x6), (16, .int .i64 (x6.size : Int)), (17, .bool (decide (x8 < (x6.size : Int)))), (18, .int .i64 x8), (19, .int .i64 (i64 (x8 + 2))), (20, .int .i64 x7), (21, .string x6), (22, .int .i64 x8), (23, .int .u8 t10), (24, .int .i64 (i64 t10)), (25, .int .i64 (i64 ((i64 t10) * 256))), (26, .int .i64 (i64 (x7 + (i64 ((i64 t10) * 256))))), (27, .string x6), (28, .int .i64 x8), (29, .int .i64 (i64 (x8 + 1))), (30, .int .u8 t12), (31, .int .i64 (i64 t12)), (32, .int .i64 (i64 ((i64 (x7 + (i64 ((i64 t10) * 256)))) + (i64 t12)))), (33, .int .i64 r14)]) (fun _ => []) (fun _ => []) (fun _ => by kernel_rfl) (fun _ => ?_)
      exact WP.again' [2, 3, 4, 5] (r14, i64 (x8 + 2)) hM (by kernel_rfl) (fun _ h => (h.pick [] (by kernel_rfl)).lessF [0] (by kernel_rfl))
    · replace hM := cond_f hM c9
      refine WP.exit rfl ?_
      refine WP.seq ?_
      refine WP.run [] [2] (fun _ => [(2, .int .i64 x7)]) (fun _ => []) (fun _ => []) (fun _ => by kernel_rfl) (fun _ => ?_)
      obtain rfl := Option.some.inj hM
      exact WP.ret [] [] (.int .i64 x7) (by kernel_rfl) (fun w' hw => ⟨rfl, (hw.pick [] rfl).lessF [0] (by kernel_rfl)⟩)
  ·
    refine WP.seq ?_
    refine WP.run [] [2, 3, 11] (fun _ => [(2, .int .i64 0), (3, .string r1), (11, .bool ((Int.tmod (r1.size : Int) 2) == 1))]) (fun _ => []) (fun _ => []) (fun _ => by kernel_rfl) (fun _ => ?_)
    refine WP.cond ((Int.tmod (r1.size : Int) 2) == 1) rfl rfl (fun c3 => ?_) (fun c3 => ?_)
    · replace hM := cond_t hM c3
      refine WP.region ?_
      refine WL.run 1 [] [2, 3, 12] (fun _ => [(2, .int .i64 0), (3, .string r1), (12, .string r1)]) (fun _ => []) (fun _ => []) (fun _ => by kernel_rfl) (fun _ => ?_)
      obtain ⟨t4, h5, hM⟩ := bind_some hM
      refine WL.val (fun _ => run_catS (a := r1) (b := (⟨#[0]⟩ : ByteArray)) (by kernel_rfl) (by kernel_rfl) h5) (by kernel_rfl) (by kernel_rfl) rfl ?_
      refine WL.run 1 [] [2, 3] (fun _ => [(2, .int .i64 0), (3, .string t4)]) (fun _ => []) (fun _ => []) (fun _ => by kernel_rfl) (fun _ => ?_)
      refine WP.done ?_
      exact WP.sub [2, 3] (by kernel_rfl) (WP.pick [] (by kernel_rfl) (by kernel_rfl) (WP.lessF [0] (by kernel_rfl) (K2 t4 hM)))
    · replace hM := cond_f hM c3
      refine WP.skip ?_
      exact WP.sub [2, 3] (by kernel_rfl) (WP.pick [] (by kernel_rfl) (by kernel_rfl) (WP.lessF [0] (by kernel_rfl) (K2 r1 hM)))

end Go.Proofs.YtbodofjnfmjbpaaGreatDoor

namespace Go.Proofs.YtbodofjnfmjbpaaGreatDoor
open Go Eng
set_option linter.unusedVariables false
set_option linter.unusedSimpArgs false

/-! ### gangway/csum.Of: function 67 -/
def csum_Of.f (k : Nat) (a0 : (List ByteArray)) : Option (Int) :=
  (csum_total.f k a0).bind fun r1 =>
  some (i64 (65535 - r1))

set_option maxRecDepth 100000 in
theorem csum_Of_calls (k : Nat) (A00 : SkL Unit) (a0 : (List ByteArray)) (r : Int) (h : csum_Of.f k a0 = some r) : Pure Tryz.prog ([Row 1 (pl encS) noK A00 a0] ++ Glob) 67 #[slcV A00 a0.length] (.int .i64 r) := by
  intro w Z hS
  refine calls_of (args := [slcV A00 a0.length]) (L := [(0, slcV A00 a0.length)]) (N := 6) (S := Sat w Z [] [] ([Row 1 (pl encS) noK A00 a0] ++ Glob)) Tryz.func67 rfl rfl (Nat.le_of_ble_eq_true rfl) rfl hS ?_
  have hM := h
  clear h hS
  unfold csum_Of.f at hM
  refine WP.seq ?_
  refine WP.run [] [0, 2] (fun _ => [(0, slcV A00 a0.length), (2, .int .i64 0)]) (fun _ => []) (fun _ => []) (fun _ => by kernel_rfl) (fun _ => ?_)
  refine WP.seq ?_
  refine WP.region ?_
  refine WL.run 1 [] [2, 3] (fun _ => [(2, .int .i64 0), (3, slcV A00 a0.length)]) (fun _ => []) (fun _ => []) (fun _ => by kernel_rfl) (fun _ => ?_)
  obtain ⟨r1, h2, hM⟩ := bind_some hM
  refine WL.callP [] [] (csum_total_calls k A00 a0 _ h2) (sub_pick [0] (by kernel_rfl)) (by kernel_rfl) (by kernel_rfl) rfl ?_
  refine WL.run 2 [] [2] (fun _ => [(2, .int .i64 (i64 (65535 - r1)))]) (fun _ => []) (fun _ => []) (fun _ => by kernel_rfl) (fun _ => ?_)
  refine WP.done ?_
  obtain rfl := Option.some.inj hM
  exact WP.ret [] [] (.int .i64 (i64 (65535 - r1))) (by kernel_rfl) (fun w' hw => ⟨rfl, (hw.pick [] rfl).lessF [0] (by kernel_rfl)⟩)

end Go.Proofs.YtbodofjnfmjbpaaGreatDoor

namespace Go.Proofs.YtbodofjnfmjbpaaGreatDoor
open Go Eng
set_option linter.unusedVariables false
set_option linter.unusedSimpArgs false

/-! ### gangway/udp.Build: function 40 -/
def udp_Build.k1 (k : Nat) (t13 : ByteArray) (a2 : api_Udp) (x23 : Int) : Option (ByteArray × Int) :=
  (udp_word.f k x23).bind fun r24 =>
  (catS t13 r24).bind fun t26 =>
  (catS t26 a2.Body).bind fun t28 =>
  some (t28, 0)

def udp_Build.f (k : Nat) (a0 : Int) (a1 : Int) (a2 : api_Udp) : Option (ByteArray × Int) :=
  (udp_Check.f a2).bind fun r2 =>
  bif (r2 != 0) then
    some ((⟨#[]⟩ : ByteArray), r2)
  else
    (udp_word.f k a2.Src).bind fun r5 =>
    (udp_word.f k a2.Dst).bind fun r7 =>
    (catS r5 r7).bind fun t9 =>
    (udp_word.f k (i64 (8 + (a2.Body.size : Int)))).bind fun r11 =>
    (catS t9 r11).bind fun t13 =>
    bif !a2.NoSum then
      (csum_Head.f k a0 a1 17 (i64 (8 + (a2.Body.size : Int)))).bind fun r17 =>
      (csum_Of.f k ([r17, t13, a2.Body] : List ByteArray)).bind fun r20 =>
      bif (r20 == 0) then
        udp_Build.k1 k t13 a2 65535
      else
        udp_Build.k1 k t13 a2 r20
    else
      udp_Build.k1 k t13 a2 0

set_option maxRecDepth 100000 in
theorem udp_Build_calls (k : Nat) (a0 : Int) (a1 : Int) (a2 : api_Udp) (r : ByteArray × Int) (h : udp_Build.f k a0 a1 a2 = some r) : Pure Tryz.prog Glob 40 #[.int .u32 a0, .int .u32 a1, .agg #[.int .i64 a2.Src, .int .i64 a2.Dst, .bool a2.NoSum, .string a2.Body]] (.tuple #[.string r.1, .int .i64 r.2]) := by
  intro w Z hS
  refine calls_of (args := [.int .u32 a0, .int .u32 a1, .agg #[.int .i64 a2.Src, .int .i64 a2.Dst, .bool a2.NoSum, .string a2.Body]]) (L := [(0, .int .u32 a0), (1, .int .u32 a1), (2, .agg #[.int .i64 a2.Src, .int .i64 a2.Dst, .bool a2.NoSum, .string a2.Body])]) (N := 52) (S := Sat w Z [] [] Glob) Tryz.func40 rfl rfl (Nat.le_of_ble_eq_true rfl) rfl hS ?_
  have hM := h
  clear h hS
  unfold udp_Build.f at hM
  refine WP.less (Φ' := [] ++ Glob) (fun _ h => h) ?_
  refine WP.seq ?_
  refine WP.run [] [0, 1, 5, 6, 7] (fun b1 => [(0, .int .u32 a0), (1, .int .u32 a1), (5, .pointer (some ⟨b1, 0, none⟩)), (6, .string (⟨#[]⟩ : ByteArray)), (7, .int .i64 0)]) (fun b1 => [(b1, .cells #[.int .i64 a2.Src, .int .i64 a2.Dst, .bool a2.NoSum, .string a2.Body] 40 (0, 0))]) (fun b1 => []) (fun b1 => by kernel_rfl) (fun b1 => ?_)
  refine WP.seq ?_
  refine WP.seq ?_
  refine WP.region ?_
  refine WL.run 1 [0, 0, 0, 0] [0, 1, 5, 6, 7, 12] (fun _ => [(0, .int .u32 a0), (1, .int .u32 a1), (5, .pointer (some ⟨b1, 0, none⟩)), (6, .string (⟨#[]⟩ : ByteArray)), (7, .int .i64 0), (12, .agg #[.int .i64 a2.Src, .int .i64 a2.Dst, .bool a2.NoSum, .string a2.Body])]) (fun _ => [(b1, .cells #[.int .i64 a2.Src, .int .i64 a2.Dst, .bool a2.NoSum, .string a2.Body] 40 (0, 0))]) (fun _ => [b1, b1, b1, b1]) (fun _ => by kernel_rfl) (fun _ => ?_)
  obtain ⟨r2, h3, hM⟩ := bind_some hM
  refine WL.callP [] [] (udp_Check_calls a2 _ h3) (fun _ h => List.mem_append_right _ h) (by kernel_rfl) (by kernel_rfl) rfl ?_
  refine WL.run 1 [] [0, 1, 5, 6, 7, 8] (fun _ => [(0, .int .u32 a0), (1, .int .u32 a1), (5, .pointer (some ⟨b1, 0, none⟩)), (6, .string (⟨#[]⟩ : ByteArray)), (7, .int .i64 0), (8, .int .i64 r2)]) (fun _ => [(b1, .cells #[.int .i64 a2.Src, .int .i64 a2.Dst, .bool a2.NoSum, .string a2.Body] 40 (0, 0))]) (fun _ => []) (fun _ => by kernel_rfl) (fun _ => ?_)
  refine WP.done ?_
  refine WP.seq ?_
  refine WP.run [] [0, 1, 5, 6, 7, 8, 15] (fun _ => [(0, .int .u32 a0), (1, .int .u32 a1), (5, .pointer (some ⟨b1, 0, none⟩)), (6, .string (⟨#[]⟩ : ByteArray)), (7, .int .i64 0), (8, .int .i64 r2), (15, .bool (r2 != 0))]) (fun _ => [(b1, .cells #[.int .i64 a2.Src, .int .i64 a2.Dst, .bool a2.NoSum, .string a2.Body] 40 (0, 0))]) (fun _ => []) (fun _ => by kernel_rfl) (fun _ => ?_)
  refine WP.cond (r2 != 0) rfl rfl (fun c4 => ?_) (fun c4 => ?_)
  · replace hM := cond_t hM c4
    refine WP.seq ?_
    refine WP.run [] [0, 1, 5, 6, 7] (fun _ => [(0, .int .u32 a0), (1, .int .u32 a1), (5, .pointer (some ⟨b1, 0, none⟩)), (6, .string (⟨#[]⟩ : ByteArray)), (7, .int .i64 r2)]) (fun _ => [(b1, .cells #[.int .i64 a2.Src, .int .i64 a2.Dst, .bool a2.NoSum, .string a2.Body] 40 (0, 0))]) (fun _ => []) (fun _ => by kernel_rfl) (fun _ => ?_)
    obtain rfl := Option.some.inj hM
    exact WP.ret [] [] (.tuple #[.string (⟨#[]⟩ : ByteArray), .int .i64 r2]) (by kernel_rfl) (fun w' hw => ⟨rfl, (hw.pick [] rfl).less (fun _ h => List.mem_append_right _ h)⟩)
  · replace hM := cond_f hM c4
    refine WP.skip ?_
    refine WP.seq ?_
    refine WP.run [0] [0, 1, 5, 6, 7, 9] (fun _ => [(0, .int .u32 a0), (1, .int .u32 a1), (5, .pointer (some ⟨b1, 0, none⟩)), (6, .string (⟨#[]⟩ : ByteArray)), (7, .int .i64 0), (9, .int .i64 (i64 (8 + (a2.Body.size : Int))))]) (fun _ => [(b1, .cells #[.int .i64 a2.Src, .int .i64 a2.Dst, .bool a2.NoSum, .string a2.Body] 40 (0, 0))]) (fun _ => [b1]) (fun _ => by kernel_rfl) (fun _ => ?_)
    refine WP.seq ?_
    refine WP.quiet (by kernel_rfl) (by kernel_rfl) ?_
    refine QL.run 2 [0] [0, 1, 5, 6, 7, 9, 22] [b1] [(0, .int .u32 a0), (1, .int .u32 a1), (5, .pointer (some ⟨b1, 0, none⟩)), (6, .string (⟨#[]⟩ : ByteArray)), (7, .int .i64 0), (9, .int .i64 (i64 (8 + (a2.Body.size : Int)))), (22, .int .i64 a2.Src)] (by kernel_rfl) ?_
    obtain ⟨r5, h6, hM⟩ := bind_some hM
    refine QL.callP [] [] (udp_word_calls k a2.Src _ h6) (fun _ h => List.mem_append_right _ h) (by kernel_rfl) (by kernel_rfl) rfl ?_
    refine QL.run 2 [0] [0, 1, 5, 6, 7, 9, 23, 25] [b1] [(0, .int .u32 a0), (1, .int .u32 a1), (5, .pointer (some ⟨b1, 0, none⟩)), (6, .string (⟨#[]⟩ : ByteArray)), (7, .int .i64 0), (9, .int .i64 (i64 (8 + (a2.Body.size : Int)))), (23, .string r5), (25, .int .i64 a2.Dst)] (by kernel_rfl) ?_
    obtain ⟨r7, h8, hM⟩ := bind_some hM
    refine QL.callP [] [] (udp_word_calls k a2.Dst _ h8) (fun _ h => List.mem_append_right _ h) (by kernel_rfl) (by kernel_rfl) rfl ?_
    obtain ⟨t9, h10, hM⟩ := bind_some hM
    refine QL.val (fun _ => run_catS (a := r5) (b := r7) (by kernel_rfl) (by kernel_rfl) h10) (by kernel_rfl) (by kernel_rfl) rfl ?_
    refine QL.run 1 [] [0, 1, 5, 6, 7, 9, 27, 28] [] [(0, .int .u32 a0), (1, .int .u32 a1), (5, .pointer (some ⟨b1, 0, none⟩)), (6, .string (⟨#[]⟩ : ByteArray)), (7, .int .i64 0), (9, .int .i64 (i64 (8 + (a2.Body.size : Int)))), (27, .string t9), (28, .int .i64 (i64 (8 + (a2.Body.size : Int))))] (by kernel_rfl) ?_
    obtain ⟨r11, h12, hM⟩ := bind_some hM
    refine QL.callP [] [] (udp_word_calls k (i64 (8 + (a2.Body.size : Int))) _ h12) (fun _ h => List.mem_append_right _ h) (by kernel_rfl) (by kernel_rfl) rfl ?_
    obtain ⟨t13, h14, hM⟩ := bind_some hM
    refine QL.val (fun _ => run_catS (a := t9) (b := r11) (by kernel_rfl) (by kernel_rfl) h14) (by kernel_rfl) (by kernel_rfl) rfl ?_
    refine QL.run 1 [] [0, 1, 5, 6, 7, 9, 10] [] [(0, .int .u32 a0), (1, .int .u32 a1), (5, .pointer (some ⟨b1, 0, none⟩)), (6, .string (⟨#[]⟩ : ByteArray)), (7, .int .i64 0), (9, .int .i64 (i64 (8 + (a2.Body.size : Int)))), (10, .string t13)] (by kernel_rfl) ?_
    refine QL.done ?_
    refine WP.seq ?_
    refine WP.run [] [0, 1, 5, 6, 7, 9, 10, 11] (fun _ => [(0, .int .u32 a0), (1, .int .u32 a1), (5, .pointer (some ⟨b1, 0, none⟩)), (6, .string (⟨#[]⟩ : ByteArray)), (7, .int .i64 0), (9, .int .i64 (i64 (8 + (a2.Body.size : Int)))), (10, .string t13), (11, .int .i64 0)]) (fun _ => [(b1, .cells #[.int .i64 a2.Src, .int .i64 a2.Dst, .bool a2.NoSum, .string a2.Body] 40 (0, 0))]) (fun _ => []) (fun _ => by kernel_rfl) (fun _ => ?_)
    refine WP.seqJoin (σ := Int) (fun st => udp_Build.k1 k t13 a2 st = some r) (fun st => [(5, .pointer (some ⟨b1, 0, none⟩)), (6, .string (⟨#[]⟩ : ByteArray)), (7, .int .i64 0), (10, .string t13), (11, .int .i64 st)]) (fun st => Sat w Z [(b1, .cells #[.int .i64 a2.Src, .int .i64 a2.Dst, .bool a2.NoSum, .string a2.Body] 40 (0, 0))] [] ([] ++ Glob)) (fun st hM => ?_) (fun K1 => ?_)
    ·
      obtain ⟨x23, rfl⟩ : ∃ y, y = st := ⟨st, rfl⟩
      replace hM : udp_Build.k1 k t13 a2 x23 = some r := hM
      unfold udp_Build.k1 at hM
      show WP _ _ _ _ _ [(5, .pointer (some ⟨b1, 0, none⟩)), (6, .string (⟨#[]⟩ : ByteArray)), (7, .int .i64 0), (10, .string t13), (11, .int .i64 x23)] (Sat w Z [(b1, .cells #[.int .i64 a2.Src, .int .i64 a2.Dst, .bool a2.NoSum, .string a2.Body] 40 (0, 0))] [] ([] ++ Glob))
      refine WP.seq ?_
      refine WP.quiet (by kernel_rfl) (by kernel_rfl) ?_
      refine QL.run 2 [] [5, 6, 7, 45, 46] [] [(5, .pointer (some ⟨b1, 0, none⟩)), (6, .string (⟨#[]⟩ : ByteArray)), (7, .int .i64 0), (45, .string t13), (46, .int .i64 x23)] (by kernel_rfl) ?_
      obtain ⟨r24, h25, hM⟩ := bind_some hM
      refine QL.callP [] [] (udp_word_calls k x23 _ h25) (fun _ h => List.mem_append_right _ h) (by kernel_rfl) (by kernel_rfl) rfl ?_
      obtain ⟨t26, h27, hM⟩ := bind_some hM
      refine QL.val (fun _ => run_catS (a := t13) (b := r24) (by kernel_rfl) (by kernel_rfl) h27) (by kernel_rfl) (by kernel_rfl) rfl ?_
      refine QL.run 2 [0] [6, 7, 48, 50] [b1] [(6, .string (⟨#[]⟩ : ByteArray)), (7, .int .i64 0), (48, .string t26), (50, .string a2.Body)] (by kernel_rfl) ?_
      obtain ⟨t28, h29, hM⟩ := bind_some hM
      refine QL.val (fun _ => run_catS (a := t26) (b := a2.Body) (by kernel_rfl) (by kernel_rfl) h29) (by kernel_rfl) (by kernel_rfl) rfl ?_
      refine QL.run 2 [] [6, 7] [] [(6, .string t28), (7, .int .i64 0)] (by kernel_rfl) ?_
      refine QL.done ?_
      refine WP.keep [false] (by kernel_rfl : _ = []) ?_
      obtain rfl := Option.some.inj hM
      exact WP.ret [] [] (.tuple #[.string t28, .int .i64 0]) (by kernel_rfl) (fun w' hw => ⟨rfl, (hw.pick [] rfl).less (fun _ h => List.mem_append_right _ h)⟩)
    ·
      refine WP.seq ?_
      refine WP.run [0] [0, 1, 5, 6, 7, 9, 10, 11, 33] (fun _ => [(0, .int .u32 a0), (1, .int .u32 a1), (5, .pointer (some ⟨b1, 0, none⟩)), (6, .string (⟨#[]⟩ : ByteArray)), (7, .int .i64 0), (9, .int .i64 (i64 (8 + (a2.Body.size : Int)))), (10, .string t13), (11, .int .i64 0), (33, .bool (!a2.NoSum))]) (fun _ => [(b1, .cells #[.int .i64 a2.Src, .int .i64 a2.Dst, .bool a2.NoSum, .string a2.Body] 40 (0, 0))]) (fun _ => [b1]) (fun _ => by kernel_rfl) (fun _ => ?_)
      refine WP.cond (!a2.NoSum) rfl rfl (fun c15 => ?_) (fun c15 => ?_)
      · replace hM := cond_t hM c15
        refine WP.seq ?_
        obtain ⟨r17, h18, hM⟩ := bind_some hM
        refine WP.sub [0, 1, 5, 6, 7, 9, 10, 11] (L' := [(0, .int .u32 a0), (1, .int .u32 a1), (5, .pointer (some ⟨b1, 0, none⟩)), (6, .string (⟨#[]⟩ : ByteArray)), (7, .int .i64 0), (9, .int .i64 (i64 (8 + (a2.Body.size : Int)))), (10, .string t13), (11, .int .i64 0)]) (by kernel_rfl) ?_
        refine WP.mixed (X := Unit) 7 [.val (.int .u32 a0), .val (.int .u32 a1), .val (.int .i64 (i64 (8 + (a2.Body.size : Int)))), .val (.string r17), .val (.string t13), .val (.pointer (some ⟨b1, 3, none⟩)), .val (.string a2.Body)] [(b1, .cells #[.int .i64 a2.Src, .int .i64 a2.Dst, .bool a2.NoSum, .string a2.Body] 40 (0, 0))] [] (by kernel_rfl) (by kernel_rfl) (by kernel_rfl) (by kernel_rfl) (Heads.val (fun tt Ψ => OpV.run [] [] (by kernel_rfl) (fun _ => by kernel_rfl)) (Heads.val (fun tt Ψ => OpV.run [] [] (by kernel_rfl) (fun _ => by kernel_rfl)) (Heads.val (fun tt Ψ => OpV.run [] [] (by kernel_rfl) (fun _ => by kernel_rfl)) (Heads.val (fun tt Ψ => OpV.callF [] [] (fun _ h => (List.mem_append_right _ (List.mem_append_right _ h))) (csum_Head_calls k a0 a1 17 (i64 (8 + (a2.Body.size : Int))) _ h18)  (fun _ => by kernel_rfl)) (Heads.val (fun tt Ψ => OpV.run [] [] (by kernel_rfl) (fun _ => by kernel_rfl)) (Heads.val (fun tt Ψ => OpV.run [] [] (by kernel_rfl) (fun _ => by kernel_rfl)) (Heads.val (fun tt Ψ => OpV.run [0] [b1] (by kernel_rfl) (fun _ => by kernel_rfl)) Heads.nil))))))) (fun s16 tt => [(34, .int .u32 a0), (35, .int .u32 a1), (36, .int .i64 (i64 (8 + (a2.Body.size : Int)))), (37, .string r17), (38, .string t13), (39, .pointer (some ⟨b1, 3, none⟩)), (40, .string a2.Body), (0, .int .u32 a0), (1, .int .u32 a1), (5, .pointer (some ⟨b1, 0, none⟩)), (6, .string (⟨#[]⟩ : ByteArray)), (7, .int .i64 0), (9, .int .i64 (i64 (8 + (a2.Body.size : Int)))), (10, .string t13), (11, .int .i64 0)]) (fun s16 tt => [(b1, .cells #[.int .i64 a2.Src, .int .i64 a2.Dst, .bool a2.NoSum, .string a2.Body] 40 (0, 0))]) (fun tt => ([] ++ []) ++ Glob) (fun _ _ => by kernel_rfl) (fun _ _ => by kernel_rfl) (fun _ => by kernel_rfl) (fun s16 tt => ?_)
        refine WL.run 1 [] [5, 6, 7, 10, 11, 41] (fun b19 => [(5, .pointer (some ⟨b1, 0, none⟩)), (6, .string (⟨#[]⟩ : ByteArray)), (7, .int .i64 0), (10, .string t13), (11, .int .i64 0), (41, .slice (some ⟨b19, 0, none⟩) 3 3)]) (fun b19 => [(b1, .cells #[.int .i64 a2.Src, .int .i64 a2.Dst, .bool a2.NoSum, .string a2.Body] 40 (0, 0)), (b19, .cells #[.string r17, .string t13, .string a2.Body] 9 (0, 0))]) (fun b19 => []) (fun b19 => by kernel_rfl) (fun b19 => ?_)
        refine WL.ice (H' := [(b1, .cells #[.int .i64 a2.Src, .int .i64 a2.Dst, .bool a2.NoSum, .string a2.Body] 40 (0, 0))]) (Row 1 (pl encS) noK (SkL.at b19 3 (fun _ => ())) ([r17, t13, a2.Body] : List ByteArray)) 1 (b := b19) (ob := .cells #[.string r17, .string t13, .string a2.Body] 9 (0, 0)) (by kernel_rfl) [] [] (by kernel_rfl) (fun w hb hψ => row_of_block hb (fun _ _ => rfl) ⟨[], by kernel_rfl⟩ (Nat.le_of_ble_eq_true rfl) (InK.no _ _)) (by kernel_rfl) ?_
        obtain ⟨r20, h21, hM⟩ := bind_some hM
        refine WL.callP [] [] (csum_Of_calls k (SkL.at b19 3 (fun _ => ())) ([r17, t13, a2.Body] : List ByteArray) _ h21) (sub_pick [0] (by kernel_rfl)) (by kernel_rfl) (by kernel_rfl) rfl ?_
        refine WL.run 1 [] [5, 6, 7, 10, 11] (fun _ => [(5, .pointer (some ⟨b1, 0, none⟩)), (6, .string (⟨#[]⟩ : ByteArray)), (7, .int .i64 0), (10, .string t13), (11, .int .i64 r20)]) (fun _ => [(b1, .cells #[.int .i64 a2.Src, .int .i64 a2.Dst, .bool a2.NoSum, .string a2.Body] 40 (0, 0))]) (fun _ => []) (fun _ => by kernel_rfl) (fun _ => ?_)
        refine WP.done ?_
        refine WP.seq ?_
        refine WP.run [] [5, 6, 7, 10, 11, 44] (fun _ => [(5, .pointer (some ⟨b1, 0, none⟩)), (6, .string (⟨#[]⟩ : ByteArray)), (7, .int .i64 0), (10, .string t13), (11, .int .i64 r20), (44, .bool (r20 == 0))]) (fun _ => [(b1, .cells #[.int .i64 a2.Src, .int .i64 a2.Dst, .bool a2.NoSum, .string a2.Body] 40 (0, 0))]) (fun _ => []) (fun _ => by kernel_rfl) (fun _ => ?_)
        refine WP.cond (r20 == 0) rfl rfl (fun c22 => ?_) (fun c22 => ?_)
        · replace hM := cond_t hM c22
          refine WP.run [] [5, 6, 7, 10, 11] (fun _ => [(5, .pointer (some ⟨b1, 0, none⟩)), (6, .string (⟨#[]⟩ : ByteArray)), (7, .int .i64 0), (10, .string t13), (11, .int .i64 65535)]) (fun _ => [(b1, .cells #[.int .i64 a2.Src, .int .i64 a2.Dst, .bool a2.NoSum, .string a2.Body] 40 (0, 0))]) (fun _ => []) (fun _ => by kernel_rfl) (fun _ => ?_)
          exact WP.sub [5, 6, 7, 10, 11] (by kernel_rfl) (WP.pick [0] (by kernel_rfl) (by kernel_rfl) (WP.lessF [] (by kernel_rfl) (K1 65535 hM)))
        · replace hM := cond_f hM c22
          refine WP.skip ?_
          exact WP.sub [5, 6, 7, 10, 11] (by kernel_rfl) (WP.pick [0] (by kernel_rfl) (by kernel_rfl) (WP.lessF [] (by kernel_rfl) (K1 r20 hM)))
      · replace hM := cond_f hM c15
        refine WP.skip ?_
        exact WP.sub [5, 6, 7, 10, 11] (by kernel_rfl) (WP.pick [0] (by kernel_rfl) (by kernel_rfl) (WP.lessF [] (by kernel_rfl) (K1 0 hM)))

end Go.Proofs.YtbodofjnfmjbpaaGreatDoor

namespace Go.Proofs.YtbodofjnfmjbpaaGreatDoor
open Go Eng
set_option linter.unusedVariables false
set_option linter.unusedSimpArgs false

/-! ### gangway/inet.below: function 97 -/
def inet_below.f (a0 : Int) (a1 : Int) : Option (Bool) :=
  some ((decide (a0 ≥ 0)) && (decide (a0 < a1)))

set_option maxRecDepth 100000 in
theorem inet_below_calls (a0 : Int) (a1 : Int) (r : Bool) (h : inet_below.f a0 a1 = some r) : Pure Tryz.prog Glob 97 #[.int .i64 a0, .int .i64 a1] (.bool r) := by
  intro w Z hS
  refine calls_of (args := [.int .i64 a0, .int .i64 a1]) (L := [(0, .int .i64 a0), (1, .int .i64 a1)]) (N := 12) (S := Sat w Z [] [] Glob) Tryz.func97 rfl rfl (Nat.le_of_ble_eq_true rfl) rfl hS ?_
  have hM := h
  clear h hS
  unfold inet_below.f at hM
  refine WP.seq ?_
  refine WP.run [] [0, 1, 4] (fun _ => [(0, .int .i64 a0), (1, .int .i64 a1), (4, .bool false)]) (fun _ => []) (fun _ => []) (fun _ => by kernel_rfl) (fun _ => ?_)
  refine WP.seq ?_
  refine WP.region ?_
  refine WL.run 3 [] [0, 1, 4, 7] (fun _ => [(0, .int .i64 a0), (1, .int .i64 a1), (4, .bool false), (7, .bool (decide (a0 ≥ 0)))]) (fun _ => []) (fun _ => []) (fun _ => by kernel_rfl) (fun _ => ?_)
  refine WL.sub [0, 1, 4, 7] (L' := [(0, .int .i64 a0), (1, .int .i64 a1), (4, .bool false), (7, .bool (decide (a0 ≥ 0)))]) (by kernel_rfl) ?_
  refine WL.both (fun b' => [(0, .int .i64 a0), (1, .int .i64 a1), (4, .bool false), (7, .bool b')]) (decide (a0 ≥ 0)) 4 [] [] [4, 11] (fun b' => [(4, .bool false), (11, .bool (b' && (decide (a0 < a1))))]) [] [] (fun _ => by kernel_rfl) (fun _ => by kernel_rfl) ?_
  refine WL.run 1 [] [4] (fun _ => [(4, .bool ((decide (a0 ≥ 0)) && (decide (a0 < a1))))]) (fun _ => []) (fun _ => []) (fun _ => by kernel_rfl) (fun _ => ?_)
  refine WP.done ?_
  obtain rfl := Option.some.inj hM
  exact WP.ret [] [] (.bool ((decide (a0 ≥ 0)) && (decide (a0 < a1)))) (by kernel_rfl) (fun w' hw => ⟨rfl, hw.pick [] rfl⟩)

end Go.Proofs.YtbodofjnfmjbpaaGreatDoor
