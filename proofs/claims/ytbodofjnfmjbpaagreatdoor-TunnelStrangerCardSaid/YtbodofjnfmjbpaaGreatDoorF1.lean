/- The walks of the functions that the laws reach: each shows that a call returns what its plain model says, wherever the model gives an answer. -/
import Derived.Test.YtbodofjnfmjbpaaGreatDoorProg
import Derived.Shelf.Strings.OnBuilder
import Derived.Test.YtbodofjnfmjbpaaGreatDoorE2

namespace Go.Proofs.YtbodofjnfmjbpaaGreatDoor
open Go Eng
set_option linter.unusedVariables false

/-- What is known of the package-level variables. -/
def Glob : List Pr := [fun w => w.cell? ⟨0, 0, none⟩ = some (.iface 148 (.agg #[.pointer (some ⟨2, 73, none⟩)]))]

structure api_Udp where
  Src : Int
  Dst : Int
  NoSum : Bool
  Body : ByteArray

structure api_Seg where
  Vid : Int
  Vni : Int
  Peers : (List Int)

def api_Seg.encS (x : api_Seg) (s : (SkL Unit)) : List Value := [.int .i64 x.Vid, .int .i64 x.Vni, slcV s x.Peers.length]
def api_Seg.inK (x : api_Seg) (s : (SkL Unit)) : Pr := Row 1 (pl (encI .u32)) noK s x.Peers

abbrev Un0 : Type := (Option (Int × Int))
def Un0.v : Un0 → Value
  | none => .nilIface
  | some (q1, q2) => .iface 181 (.agg #[.int .i64 q1, .iface 30 (.int .i64 q2)])

structure ether_reader where
  s : ByteArray
  at_ : Int

abbrev Un1 : Type := (Option (ByteArray × Int))
def Un1.v : Un1 → Value
  | none => .nilIface
  | some (q1, q2) => .iface 183 (.agg #[.string q1, .iface 30 (.int .i64 q2)])

structure api_Tag where
  Has : Bool
  Pri : Int
  Dei : Bool
  Vid : Int

structure api_Frame where
  Dst : Int
  Src : Int
  Tag : api_Tag
  Type_ : Int
  Body : ByteArray

structure api_Ip where
  Tos : Int
  Id : Int
  Whole : Bool
  More : Bool
  Off : Int
  Ttl : Int
  Proto : Int
  Src : Int
  Dst : Int
  Body : ByteArray

structure station_why where
  n : Int

abbrev Un2 : Type := (Option (ByteArray × station_why))
def Un2.v : Un2 → Value
  | none => .nilIface
  | some (q1, q2) => .iface 138 (.agg #[.string q1, .iface 80 (.agg #[.int .i64 q2.n])])

structure api_Arp where
  Op : Int
  SMac : Int
  SIp : Int
  TMac : Int
  TIp : Int

structure inet_odd where
  err : Int

abbrev Un3 : Type := (Option inet_odd)
def Un3.v : Un3 → Value
  | none => .nilIface
  | some q1 => .iface 188 (.agg #[.int .i64 q1.err])

structure api_Got where
  Why : Int
  Src : Int
  U : api_Udp

structure gangwaylaw22_Way where
  Src : Int
  Dst : Int
  Id : Int
  Most : Int

end Go.Proofs.YtbodofjnfmjbpaaGreatDoor

namespace Go.Proofs.YtbodofjnfmjbpaaGreatDoor
open Go Eng
set_option linter.unusedVariables false
set_option linter.unusedSimpArgs false

/-! ### gangway/octets.part: function 101 -/
def octets_part.f (a0 : ByteArray) (a1 : Int) (a2 : Int) : Option (ByteArray × Un0) :=
  bif ((decide (a1 < 0)) || (decide (a2 < 0))) then
    some ((⟨#[]⟩ : ByteArray), some (a1, 1))
  else
    bif ((decide (a1 > (a0.size : Int))) || (decide (a2 > (i64 ((a0.size : Int) - a1))))) then
      some ((⟨#[]⟩ : ByteArray), some (a1, 10))
    else
      (sliceS a0 a1 (i64 (a1 + a2))).bind fun t3 =>
      some (t3, none)

set_option maxRecDepth 100000 in
theorem octets_part_calls (a0 : ByteArray) (a1 : Int) (a2 : Int) (r : ByteArray × Un0) (h : octets_part.f a0 a1 a2 = some r) : Pure Tryz.prog Glob 101 #[.string a0, .int .i64 a1, .int .i64 a2] (.tuple #[.string r.1, Un0.v r.2]) := by
  intro w Z hS
  refine calls_of (args := [.string a0, .int .i64 a1, .int .i64 a2]) (L := [(0, .string a0), (1, .int .i64 a1), (2, .int .i64 a2)]) (N := 42) (S := Sat w Z [] [] Glob) Tryz.func101 rfl rfl (Nat.le_of_ble_eq_true rfl) rfl hS ?_
  have hM := h
  clear h hS
  unfold octets_part.f at hM
  refine WP.seq ?_
  refine WP.run [] [0, 1, 2, 6, 7] (fun _ => [(0, .string a0), (1, .int .i64 a1), (2, .int .i64 a2), (6, .string (⟨#[]⟩ : ByteArray)), (7, .nilIface)]) (fun _ => []) (fun _ => []) (fun _ => by kernel_rfl) (fun _ => ?_)
  refine WP.seq ?_
  refine WP.block ?_
  refine WP.seq ?_
  refine WP.region ?_
  refine WL.run 3 [] [0, 1, 2, 6, 7, 11] (fun _ => [(0, .string a0), (1, .int .i64 a1), (2, .int .i64 a2), (6, .string (⟨#[]⟩ : ByteArray)), (7, .nilIface), (11, .bool (decide (a1 < 0)))]) (fun _ => []) (fun _ => []) (fun _ => by kernel_rfl) (fun _ => ?_)
  refine WL.sub [0, 1, 2, 6, 7, 11] (L' := [(0, .string a0), (1, .int .i64 a1), (2, .int .i64 a2), (6, .string (⟨#[]⟩ : ByteArray)), (7, .nilIface), (11, .bool (decide (a1 < 0)))]) (by kernel_rfl) ?_
  refine WL.both (fun b' => [(0, .string a0), (1, .int .i64 a1), (2, .int .i64 a2), (6, .string (⟨#[]⟩ : ByteArray)), (7, .nilIface), (11, .bool b')]) (decide (a1 < 0)) 3 [] [] [0, 1, 2, 6, 7, 14] (fun b' => [(0, .string a0), (1, .int .i64 a1), (2, .int .i64 a2), (6, .string (⟨#[]⟩ : ByteArray)), (7, .nilIface), (14, .bool (b' || (decide (a2 < 0))))]) [] [] (fun _ => by kernel_rfl) (fun _ => by kernel_rfl) ?_
  refine WL.run 1 [] [0, 1, 2, 6, 7, 8] (fun _ => [(0, .string a0), (1, .int .i64 a1), (2, .int .i64 a2), (6, .string (⟨#[]⟩ : ByteArray)), (7, .nilIface), (8, .bool ((decide (a1 < 0)) || (decide (a2 < 0))))]) (fun _ => []) (fun _ => []) (fun _ => by kernel_rfl) (fun _ => ?_)
  refine WP.done ?_
  refine WP.cond ((decide (a1 < 0)) || (decide (a2 < 0))) rfl rfl (fun c1 => ?_) (fun c1 => ?_)
  · replace hM := cond_t hM c1
    refine WP.seq ?_
    refine WP.run [] [0, 1, 2, 6, 7] (fun _ => [(0, .string a0), (1, .int .i64 a1), (2, .int .i64 a2), (6, .string (⟨#[]⟩ : ByteArray)), (7, .iface 181 (.agg #[.int .i64 a1, .iface 30 (.int .i64 1)]))]) (fun _ => []) (fun _ => []) (fun _ => by kernel_rfl) (fun _ => ?_)
    obtain rfl := Option.some.inj hM
    exact WP.ret [] [] (.tuple #[.string (⟨#[]⟩ : ByteArray), .iface 181 (.agg #[.int .i64 a1, .iface 30 (.int .i64 1)])]) (by kernel_rfl) (fun w' hw => ⟨rfl, hw.pick [] rfl⟩)
  · replace hM := cond_f hM c1
    refine WP.seq ?_
    refine WP.region ?_
    refine WL.run 5 [] [0, 1, 2, 6, 7, 24] (fun _ => [(0, .string a0), (1, .int .i64 a1), (2, .int .i64 a2), (6, .string (⟨#[]⟩ : ByteArray)), (7, .nilIface), (24, .bool (decide (a1 > (a0.size : Int))))]) (fun _ => []) (fun _ => []) (fun _ => by kernel_rfl) (fun _ => ?_)
    refine WL.sub [0, 1, 2, 6, 7, 24] (L' := [(0, .string a0), (1, .int .i64 a1), (2, .int .i64 a2), (6, .string (⟨#[]⟩ : ByteArray)), (7, .nilIface), (24, .bool (decide (a1 > (a0.size : Int))))]) (by kernel_rfl) ?_
    refine WL.both (fun b' => [(0, .string a0), (1, .int .i64 a1), (2, .int .i64 a2), (6, .string (⟨#[]⟩ : ByteArray)), (7, .nilIface), (24, .bool b')]) (decide (a1 > (a0.size : Int))) 7 [] [] [0, 1, 2, 6, 7, 31] (fun b' => [(0, .string a0), (1, .int .i64 a1), (2, .int .i64 a2), (6, .string (⟨#[]⟩ : ByteArray)), (7, .nilIface), (31, .bool (b' || (decide (a2 > (i64 ((a0.size : Int) - a1))))))]) [] [] (fun _ => by kernel_rfl) (fun _ => by kernel_rfl) ?_
    refine WL.run 1 [] [0, 1, 2, 6, 7, 19] (fun _ => [(0, .string a0), (1, .int .i64 a1), (2, .int .i64 a2), (6, .string (⟨#[]⟩ : ByteArray)), (7, .nilIface), (19, .bool ((decide (a1 > (a0.size : Int))) || (decide (a2 > (i64 ((a0.size : Int) - a1))))))]) (fun _ => []) (fun _ => []) (fun _ => by kernel_rfl) (fun _ => ?_)
    refine WP.done ?_
    refine WP.cond ((decide (a1 > (a0.size : Int))) || (decide (a2 > (i64 ((a0.size : Int) - a1))))) rfl rfl (fun c2 => ?_) (fun c2 => ?_)
    · replace hM := cond_t hM c2
      refine WP.seq ?_
      refine WP.run [] [0, 1, 2, 6, 7] (fun _ => [(0, .string a0), (1, .int .i64 a1), (2, .int .i64 a2), (6, .string (⟨#[]⟩ : ByteArray)), (7, .iface 181 (.agg #[.int .i64 a1, .iface 30 (.int .i64 10)]))]) (fun _ => []) (fun _ => []) (fun _ => by kernel_rfl) (fun _ => ?_)
      obtain rfl := Option.some.inj hM
      exact WP.ret [] [] (.tuple #[.string (⟨#[]⟩ : ByteArray), .iface 181 (.agg #[.int .i64 a1, .iface 30 (.int .i64 10)])]) (by kernel_rfl) (fun w' hw => ⟨rfl, hw.pick [] rfl⟩)
    · replace hM := cond_f hM c2
      refine WP.skip ?_
      refine WP.leave ?_
      refine WP.seq ?_
      refine WP.region ?_
      refine WL.run 5 [] [6, 7, 36, 37, 40] (fun _ => [(6, .string (⟨#[]⟩ : ByteArray)), (7, .nilIface), (36, .string a0), (37, .int .i64 a1), (40, .int .i64 (i64 (a1 + a2)))]) (fun _ => []) (fun _ => []) (fun _ => by kernel_rfl) (fun _ => ?_)
      obtain ⟨t3, h4, hM⟩ := bind_some hM
      refine WL.val (fun _ => run_sliceS (s := a0) (kl := .i64) (kh := .i64) (l := a1) (h := i64 (a1 + a2)) (by kernel_rfl) (by kernel_rfl) (by kernel_rfl) (by kernel_rfl) h4) (by kernel_rfl) (by kernel_rfl) rfl ?_
      refine WL.run 2 [] [6, 7] (fun _ => [(6, .string t3), (7, .nilIface)]) (fun _ => []) (fun _ => []) (fun _ => by kernel_rfl) (fun _ => ?_)
      refine WP.done ?_
      obtain rfl := Option.some.inj hM
      exact WP.ret [] [] (.tuple #[.string t3, .nilIface]) (by kernel_rfl) (fun w' hw => ⟨rfl, hw.pick [] rfl⟩)

end Go.Proofs.YtbodofjnfmjbpaaGreatDoor

namespace Go.Proofs.YtbodofjnfmjbpaaGreatDoor
open Go Eng
set_option linter.unusedVariables false
set_option linter.unusedSimpArgs false

/-! ### (gangway/octets.at).Unwrap: function 161 -/
def octets_at_Unwrap.f (a0 : Int) (a0_1 : Int) : Option (Int) :=
  some a0_1

set_option maxRecDepth 100000 in
theorem octets_at_Unwrap_calls (a0 : Int) (a0_1 : Int) (r : Int) (h : octets_at_Unwrap.f a0 a0_1 = some r) : Pure Tryz.prog Glob 161 #[.agg #[.int .i64 a0, .iface 30 (.int .i64 a0_1)]] (.iface 30 (.int .i64 r)) := by
  intro w Z hS
  refine calls_of (args := [.agg #[.int .i64 a0, .iface 30 (.int .i64 a0_1)]]) (L := [(0, .agg #[.int .i64 a0, .iface 30 (.int .i64 a0_1)])]) (N := 5) (S := Sat w Z [] [] Glob) Tryz.func161 rfl rfl (Nat.le_of_ble_eq_true rfl) rfl hS ?_
  have hM := h
  clear h hS
  unfold octets_at_Unwrap.f at hM
  refine WP.seq ?_
  refine WP.run [] [1, 2] (fun b1 => [(1, .pointer (some ⟨b1, 0, none⟩)), (2, .nilIface)]) (fun b1 => [(b1, .cells #[.int .i64 a0, .iface 30 (.int .i64 a0_1)] 181 (0, 0))]) (fun b1 => []) (fun b1 => by kernel_rfl) (fun b1 => ?_)
  refine WP.seq ?_
  refine WP.run [0] [2] (fun _ => [(2, .iface 30 (.int .i64 a0_1))]) (fun _ => [(b1, .cells #[.int .i64 a0, .iface 30 (.int .i64 a0_1)] 181 (0, 0))]) (fun _ => [b1]) (fun _ => by kernel_rfl) (fun _ => ?_)
  refine WP.keep [false] (by kernel_rfl : _ = []) ?_
  obtain rfl := Option.some.inj hM
  exact WP.ret [] [] (.iface 30 (.int .i64 a0_1)) (by kernel_rfl) (fun w' hw => ⟨rfl, hw.pick [] rfl⟩)

end Go.Proofs.YtbodofjnfmjbpaaGreatDoor

namespace Go.Proofs.YtbodofjnfmjbpaaGreatDoor
open Go Eng
set_option linter.unusedVariables false
set_option linter.unusedSimpArgs false

/-! ### errors.as: function 62 -/
def errors_as.f (a0 : Int) (a0_1 : Int) (a1 : Int) : Option (Bool × Int) :=
  (octets_at_Unwrap.f a0 a0_1).bind fun r3 =>
  some (true, r3)

set_option maxRecDepth 100000 in
theorem errors_as_calls (b_0 : Nat) (b_1 : Nat) (a0 : Int) (a0_1 : Int) (a1 : Int) (r : Bool × Int) (h : errors_as.f a0 a0_1 a1 = some r) : Does Tryz.prog 62 #[.iface 181 (.agg #[.int .i64 a0, .iface 30 (.int .i64 a0_1)]), .iface 175 (.pointer (some ⟨b_0, 0, none⟩)), .agg #[.pointer (some ⟨2, 175, none⟩), .pointer (some ⟨b_1, 0, none⟩), .int .u64 150], .iface 148 (.agg #[.pointer (some ⟨2, 30, none⟩)])] [(b_0, .cells #[.int .i64 a1] 30 (0, 0)), (b_1, .cells #[.pointer (some ⟨b_0, 0, none⟩)] 175 (0, 0))] Glob (fun _ : Unit => .bool r.1) (fun _ => [(b_0, .cells #[.int .i64 r.2] 30 (0, 0)), (b_1, .cells #[.pointer (some ⟨b_0, 0, none⟩)] 175 (0, 0))]) (fun _ => []) (fun _ => Glob) := by
  intro w Z hS
  refine calls_of (args := [.iface 181 (.agg #[.int .i64 a0, .iface 30 (.int .i64 a0_1)]), .iface 175 (.pointer (some ⟨b_0, 0, none⟩)), .agg #[.pointer (some ⟨2, 175, none⟩), .pointer (some ⟨b_1, 0, none⟩), .int .u64 150], .iface 148 (.agg #[.pointer (some ⟨2, 30, none⟩)])]) (L := [(0, .iface 181 (.agg #[.int .i64 a0, .iface 30 (.int .i64 a0_1)])), (1, .iface 175 (.pointer (some ⟨b_0, 0, none⟩))), (2, .agg #[.pointer (some ⟨2, 175, none⟩), .pointer (some ⟨b_1, 0, none⟩), .int .u64 150]), (3, .iface 148 (.agg #[.pointer (some ⟨2, 30, none⟩)]))]) (N := 62) (S := Sat w Z [(b_0, .cells #[.int .i64 a1] 30 (0, 0)), (b_1, .cells #[.pointer (some ⟨b_0, 0, none⟩)] 175 (0, 0))] [] Glob) Tryz.func62 rfl rfl (Nat.le_of_ble_eq_true rfl) rfl hS ?_
  have hM := h
  clear h hS
  unfold errors_as.f at hM
  refine WP.seq ?_
  refine WP.run [] [0, 1, 3, 6, 8] (fun b1 => [(0, .iface 181 (.agg #[.int .i64 a0, .iface 30 (.int .i64 a0_1)])), (1, .iface 175 (.pointer (some ⟨b_0, 0, none⟩))), (3, .iface 148 (.agg #[.pointer (some ⟨2, 30, none⟩)])), (6, .pointer (some ⟨b1, 0, none⟩)), (8, .bool false)]) (fun b1 => [(b_0, .cells #[.int .i64 a1] 30 (0, 0)), (b_1, .cells #[.pointer (some ⟨b_0, 0, none⟩)] 175 (0, 0)), (b1, .cells #[.pointer (some ⟨2, 175, none⟩), .pointer (some ⟨b_1, 0, none⟩), .int .u64 150] 106 (0, 0))]) (fun b1 => []) (fun b1 => by kernel_rfl) (fun b1 => ?_)
  refine WP.block ?_
  refine WP.unroll 40 ?_
  refine WP.block ?_
  refine WP.seq ?_
  refine WP.seq ?_
  refine WP.run [] [0, 1, 3, 6, 8, 16, 17, 18, 19] (fun _ => [(0, .iface 181 (.agg #[.int .i64 a0, .iface 30 (.int .i64 a0_1)])), (1, .iface 175 (.pointer (some ⟨b_0, 0, none⟩))), (3, .iface 148 (.agg #[.pointer (some ⟨2, 30, none⟩)])), (6, .pointer (some ⟨b1, 0, none⟩)), (8, .bool false), (16, .iface 181 (.agg #[.int .i64 a0, .iface 30 (.int .i64 a0_1)])), (17, .iface 148 (.agg #[.pointer (some ⟨2, 181, none⟩)])), (18, .iface 148 (.agg #[.pointer (some ⟨2, 30, none⟩)])), (19, .bool false)]) (fun _ => [(b_0, .cells #[.int .i64 a1] 30 (0, 0)), (b_1, .cells #[.pointer (some ⟨b_0, 0, none⟩)] 175 (0, 0)), (b1, .cells #[.pointer (some ⟨2, 175, none⟩), .pointer (some ⟨b_1, 0, none⟩), .int .u64 150] 106 (0, 0))]) (fun _ => []) (fun _ => by kernel_rfl) (fun _ => ?_)
  refine WP.no rfl rfl ?_
  refine WP.skip ?_
  refine WP.seq ?_
  refine WP.seq ?_
  refine WP.region ?_
  refine WL.run 1 [] [0, 1, 3, 6, 8, 16, 17, 18, 19, 26] (fun _ => [(0, .iface 181 (.agg #[.int .i64 a0, .iface 30 (.int .i64 a0_1)])), (1, .iface 175 (.pointer (some ⟨b_0, 0, none⟩))), (3, .iface 148 (.agg #[.pointer (some ⟨2, 30, none⟩)])), (6, .pointer (some ⟨b1, 0, none⟩)), (8, .bool false), (16, .iface 181 (.agg #[.int .i64 a0, .iface 30 (.int .i64 a0_1)])), (17, .iface 148 (.agg #[.pointer (some ⟨2, 181, none⟩)])), (18, .iface 148 (.agg #[.pointer (some ⟨2, 30, none⟩)])), (19, .bool false), (26, .iface 181 (.agg #[.int .i64 a0, .iface 30 (.int .i64 a0_1)]))]) (fun _ => [(b_0, .cells #[.int .i64 a1] 30 (0, 0)), (b_1, .cells #[.pointer (some ⟨b_0, 0, none⟩)] 175 (0, 0)), (b1, .cells #[.pointer (some ⟨2, 175, none⟩), .pointer (some ⟨b_1, 0, none⟩), .int .u64 150] 106 (0, 0))]) (fun _ => []) (fun _ => by kernel_rfl) (fun _ => ?_)
  refine WL.val (fun _ => run_assertLacks (t := 181) (v := .agg #[.int .i64 a0, .iface 30 (.int .i64 a0_1)]) (z := .nilIface) (by kernel_rfl) (by kernel_rfl) (by kernel_rfl)) (by kernel_rfl) (by kernel_rfl) rfl ?_
  refine WL.run 5 [] [0, 1, 3, 6, 8, 9, 10, 16, 17, 18, 19, 25, 26, 27, 28, 29] (fun _ => [(0, .iface 181 (.agg #[.int .i64 a0, .iface 30 (.int .i64 a0_1)])), (1, .iface 175 (.pointer (some ⟨b_0, 0, none⟩))), (3, .iface 148 (.agg #[.pointer (some ⟨2, 30, none⟩)])), (6, .pointer (some ⟨b1, 0, none⟩)), (8, .bool false), (9, .nilIface), (10, .bool false), (16, .iface 181 (.agg #[.int .i64 a0, .iface 30 (.int .i64 a0_1)])), (17, .iface 148 (.agg #[.pointer (some ⟨2, 181, none⟩)])), (18, .iface 148 (.agg #[.pointer (some ⟨2, 30, none⟩)])), (19, .bool false), (25, .tuple #[.nilIface, .bool false]), (26, .iface 181 (.agg #[.int .i64 a0, .iface 30 (.int .i64 a0_1)])), (27, .tuple #[.nilIface, .bool false]), (28, .nilIface), (29, .bool false)]) (fun _ => [(b_0, .cells #[.int .i64 a1] 30 (0, 0)), (b_1, .cells #[.pointer (some ⟨b_0, 0, none⟩)] 175 (0, 0)), (b1, .cells #[.pointer (some ⟨2, 175, none⟩), .pointer (some ⟨b_1, 0, none⟩), .int .u64 150] 106 (0, 0))]) (fun _ => []) (fun _ => by kernel_rfl) (fun _ => ?_)
  refine WP.done ?_
  refine WP.seq ?_
  refine WP.run [] [0, 1, 3, 6, 8, 9, 10, 16, 17, 18, 19, 25, 26, 27, 28, 29, 30, 31, 32, 33, 34, 35] (fun _ => [(0, .iface 181 (.agg #[.int .i64 a0, .iface 30 (.int .i64 a0_1)])), (1, .iface 175 (.pointer (some ⟨b_0, 0, none⟩))), (3, .iface 148 (.agg #[.pointer (some ⟨2, 30, none⟩)])), (6, .pointer (some ⟨b1, 0, none⟩)), (8, .bool false), (9, .nilIface), (10, .bool false), (16, .iface 181 (.agg #[.int .i64 a0, .iface 30 (.int .i64 a0_1)])), (17, .iface 148 (.agg #[.pointer (some ⟨2, 181, none⟩)])), (18, .iface 148 (.agg #[.pointer (some ⟨2, 30, none⟩)])), (19, .bool false), (25, .tuple #[.nilIface, .bool false]), (26, .iface 181 (.agg #[.int .i64 a0, .iface 30 (.int .i64 a0_1)])), (27, .tuple #[.nilIface, .bool false]), (28, .nilIface), (29, .bool false), (30, .bool false), (31, .bool false), (32, .tuple #[]), (33, .tuple #[]), (34, .tuple #[]), (35, .bool false)]) (fun _ => [(b_0, .cells #[.int .i64 a1] 30 (0, 0)), (b_1, .cells #[.pointer (some ⟨b_0, 0, none⟩)] 175 (0, 0)), (b1, .cells #[.pointer (some ⟨2, 175, none⟩), .pointer (some ⟨b_1, 0, none⟩), .int .u64 150] 106 (0, 0))]) (fun _ => []) (fun _ => by kernel_rfl) (fun _ => ?_)
  refine WP.no rfl rfl ?_
  refine WP.skip ?_
  refine WP.seq ?_
  refine WP.run [] [0, 1, 3, 6, 8, 9, 10, 16, 17, 18, 19, 25, 26, 27, 28, 29, 30, 31, 32, 33, 34, 35, 36] (fun _ => [(0, .iface 181 (.agg #[.int .i64 a0, .iface 30 (.int .i64 a0_1)])), (1, .iface 175 (.pointer (some ⟨b_0, 0, none⟩))), (3, .iface 148 (.agg #[.pointer (some ⟨2, 30, none⟩)])), (6, .pointer (some ⟨b1, 0, none⟩)), (8, .bool false), (9, .nilIface), (10, .bool false), (16, .iface 181 (.agg #[.int .i64 a0, .iface 30 (.int .i64 a0_1)])), (17, .iface 148 (.agg #[.pointer (some ⟨2, 181, none⟩)])), (18, .iface 148 (.agg #[.pointer (some ⟨2, 30, none⟩)])), (19, .bool false), (25, .tuple #[.nilIface, .bool false]), (26, .iface 181 (.agg #[.int .i64 a0, .iface 30 (.int .i64 a0_1)])), (27, .tuple #[.nilIface, .bool false]), (28, .nilIface), (29, .bool false), (30, .bool false), (31, .bool false), (32, .tuple #[]), (33, .tuple #[]), (34, .tuple #[]), (35, .bool false), (36, .iface 181 (.agg #[.int .i64 a0, .iface 30 (.int .i64 a0_1)]))]) (fun _ => [(b_0, .cells #[.int .i64 a1] 30 (0, 0)), (b_1, .cells #[.pointer (some ⟨b_0, 0, none⟩)] 175 (0, 0)), (b1, .cells #[.pointer (some ⟨2, 175, none⟩), .pointer (some ⟨b_1, 0, none⟩), .int .u64 150] 106 (0, 0))]) (fun _ => []) (fun _ => by kernel_rfl) (fun _ => ?_)
  refine WP.block ?_
  refine WP.seq ?_
  refine WP.region ?_
  refine WL.val (fun _ => run_assertHas (t := 181) (v := .agg #[.int .i64 a0, .iface 30 (.int .i64 a0_1)]) (by kernel_rfl) (by kernel_rfl)) (by kernel_rfl) (by kernel_rfl) rfl ?_
  refine WL.run 2 [] [0, 1, 3, 6, 8, 9, 10, 16, 17, 18, 19, 25, 26, 27, 28, 29, 30, 31, 32, 33, 34, 35, 36, 37, 38, 39] (fun _ => [(0, .iface 181 (.agg #[.int .i64 a0, .iface 30 (.int .i64 a0_1)])), (1, .iface 175 (.pointer (some ⟨b_0, 0, none⟩))), (3, .iface 148 (.agg #[.pointer (some ⟨2, 30, none⟩)])), (6, .pointer (some ⟨b1, 0, none⟩)), (8, .bool false), (9, .nilIface), (10, .bool false), (16, .iface 181 (.agg #[.int .i64 a0, .iface 30 (.int .i64 a0_1)])), (17, .iface 148 (.agg #[.pointer (some ⟨2, 181, none⟩)])), (18, .iface 148 (.agg #[.pointer (some ⟨2, 30, none⟩)])), (19, .bool false), (25, .tuple #[.nilIface, .bool false]), (26, .iface 181 (.agg #[.int .i64 a0, .iface 30 (.int .i64 a0_1)])), (27, .tuple #[.nilIface, .bool false]), (28, .nilIface), (29, .bool false), (30, .bool false), (31, .bool false), (32, .tuple #[]), (33, .tuple #[]), (34, .tuple #[]), (35, .bool false), (36, .iface 181 (.agg #[.int .i64 a0, .iface 30 (.int .i64 a0_1)])), (37, .tuple #[.iface 181 (.agg #[.int .i64 a0, .iface 30 (.int .i64 a0_1)]), .bool true]), (38, .bool true), (39, .iface 181 (.agg #[.int .i64 a0, .iface 30 (.int .i64 a0_1)]))]) (fun _ => [(b_0, .cells #[.int .i64 a1] 30 (0, 0)), (b_1, .cells #[.pointer (some ⟨b_0, 0, none⟩)] 175 (0, 0)), (b1, .cells #[.pointer (some ⟨2, 175, none⟩), .pointer (some ⟨b_1, 0, none⟩), .int .u64 150] 106 (0, 0))]) (fun _ => []) (fun _ => by kernel_rfl) (fun _ => ?_)
  refine WP.done ?_
  refine WP.yes rfl rfl ?_
  refine WP.seq ?_
  refine WP.run [] [0, 1, 3, 6, 8, 9, 10, 11, 16, 17, 18, 19, 25, 26, 27, 28, 29, 30, 31, 32, 33, 34, 35, 36, 37, 38, 39] (fun _ => [(0, .iface 181 (.agg #[.int .i64 a0, .iface 30 (.int .i64 a0_1)])), (1, .iface 175 (.pointer (some ⟨b_0, 0, none⟩))), (3, .iface 148 (.agg #[.pointer (some ⟨2, 30, none⟩)])), (6, .pointer (some ⟨b1, 0, none⟩)), (8, .bool false), (9, .nilIface), (10, .bool false), (11, .iface 181 (.agg #[.int .i64 a0, .iface 30 (.int .i64 a0_1)])), (16, .iface 181 (.agg #[.int .i64 a0, .iface 30 (.int .i64 a0_1)])), (17, .iface 148 (.agg #[.pointer (some ⟨2, 181, none⟩)])), (18, .iface 148 (.agg #[.pointer (some ⟨2, 30, none⟩)])), (19, .bool false), (25, .tuple #[.nilIface, .bool false]), (26, .iface 181 (.agg #[.int .i64 a0, .iface 30 (.int .i64 a0_1)])), (27, .tuple #[.nilIface, .bool false]), (28, .nilIface), (29, .bool false), (30, .bool false), (31, .bool false), (32, .tuple #[]), (33, .tuple #[]), (34, .tuple #[]), (35, .bool false), (36, .iface 181 (.agg #[.int .i64 a0, .iface 30 (.int .i64 a0_1)])), (37, .tuple #[.iface 181 (.agg #[.int .i64 a0, .iface 30 (.int .i64 a0_1)]), .bool true]), (38, .bool true), (39, .iface 181 (.agg #[.int .i64 a0, .iface 30 (.int .i64 a0_1)]))]) (fun _ => [(b_0, .cells #[.int .i64 a1] 30 (0, 0)), (b_1, .cells #[.pointer (some ⟨b_0, 0, none⟩)] 175 (0, 0)), (b1, .cells #[.pointer (some ⟨2, 175, none⟩), .pointer (some ⟨b_1, 0, none⟩), .int .u64 150] 106 (0, 0))]) (fun _ => []) (fun _ => by kernel_rfl) (fun _ => ?_)
  refine WP.seq ?_
  refine WP.region ?_
  refine WL.run 1 [] [0, 1, 3, 6, 8, 9, 10, 11, 16, 17, 18, 19, 25, 26, 27, 28, 29, 30, 31, 32, 33, 34, 35, 36, 37, 38, 39, 40] (fun _ => [(0, .iface 181 (.agg #[.int .i64 a0, .iface 30 (.int .i64 a0_1)])), (1, .iface 175 (.pointer (some ⟨b_0, 0, none⟩))), (3, .iface 148 (.agg #[.pointer (some ⟨2, 30, none⟩)])), (6, .pointer (some ⟨b1, 0, none⟩)), (8, .bool false), (9, .nilIface), (10, .bool false), (11, .iface 181 (.agg #[.int .i64 a0, .iface 30 (.int .i64 a0_1)])), (16, .iface 181 (.agg #[.int .i64 a0, .iface 30 (.int .i64 a0_1)])), (17, .iface 148 (.agg #[.pointer (some ⟨2, 181, none⟩)])), (18, .iface 148 (.agg #[.pointer (some ⟨2, 30, none⟩)])), (19, .bool false), (25, .tuple #[.nilIface, .bool false]), (26, .iface 181 (.agg #[.int .i64 a0, .iface 30 (.int .i64 a0_1)])), (27, .tuple #[.nilIface, .bool false]), (28, .nilIface), (29, .bool false), (30, .bool false), (31, .bool false), (32, .tuple #[]), (33, .tuple #[]), (34, .tuple #[]), (35, .bool false), (36, .iface 181 (.agg #[.int .i64 a0, .iface 30 (.int .i64 a0_1)])), (37, .tuple #[.iface 181 (.agg #[.int .i64 a0, .iface 30 (.int .i64 a0_1)]), .bool true]), (38, .bool true), (39, .iface 181 (.agg #[.int .i64 a0, .iface 30 (.int .i64 a0_1)])), (40, .iface 181 (.agg #[.int .i64 a0, .iface 30 (.int .i64 a0_1)]))]) (fun _ => [(b_0, .cells #[.int .i64 a1] 30 (0, 0)), (b_1, .cells #[.pointer (some ⟨b_0, 0, none⟩)] 175 (0, 0)), (b1, .cells #[.pointer (some ⟨2, 175, none⟩), .pointer (some ⟨b_1, 0, none⟩), .int .u64 150] 106 (0, 0))]) (fun _ => []) (fun _ => by kernel_rfl) (fun _ => ?_)
  obtain ⟨r3, h4, hM⟩ := bind_some hM
  refine WL.callP [] [] (octets_at_Unwrap_calls a0 a0_1 _ h4) (fun _ h => h) (by kernel_rfl) (by kernel_rfl) rfl ?_
  refine WL.run 1 [] [0, 1, 3, 6, 8, 9, 10, 11, 16, 17, 18, 19, 25, 26, 27, 28, 29, 30, 31, 32, 33, 34, 35, 36, 37, 38, 39, 40, 41] (fun _ => [(0, .iface 30 (.int .i64 r3)), (1, .iface 175 (.pointer (some ⟨b_0, 0, none⟩))), (3, .iface 148 (.agg #[.pointer (some ⟨2, 30, none⟩)])), (6, .pointer (some ⟨b1, 0, none⟩)), (8, .bool false), (9, .nilIface), (10, .bool false), (11, .iface 181 (.agg #[.int .i64 a0, .iface 30 (.int .i64 a0_1)])), (16, .iface 181 (.agg #[.int .i64 a0, .iface 30 (.int .i64 a0_1)])), (17, .iface 148 (.agg #[.pointer (some ⟨2, 181, none⟩)])), (18, .iface 148 (.agg #[.pointer (some ⟨2, 30, none⟩)])), (19, .bool false), (25, .tuple #[.nilIface, .bool false]), (26, .iface 181 (.agg #[.int .i64 a0, .iface 30 (.int .i64 a0_1)])), (27, .tuple #[.nilIface, .bool false]), (28, .nilIface), (29, .bool false), (30, .bool false), (31, .bool false), (32, .tuple #[]), (33, .tuple #[]), (34, .tuple #[]), (35, .bool false), (36, .iface 181 (.agg #[.int .i64 a0, .iface 30 (.int .i64 a0_1)])), (37, .tuple #[.iface 181 (.agg #[.int .i64 a0, .iface 30 (.int .i64 a0_1)]), .bool true]), (38, .bool true), (39, .iface 181 (.agg #[.int .i64 a0, .iface 30 (.int .i64 a0_1)])), (40, .iface 181 (.agg #[.int .i64 a0, .iface 30 (.int .i64 a0_1)])), (41, .iface 30 (.int .i64 r3))]) (fun _ => [(b_0, .cells #[.int .i64 a1] 30 (0, 0)), (b_1, .cells #[.pointer (some ⟨b_0, 0, none⟩)] 175 (0, 0)), (b1, .cells #[.pointer (some ⟨2, 175, none⟩), .pointer (some ⟨b_1, 0, none⟩), .int .u64 150] 106 (0, 0))]) (fun _ => []) (fun _ => by kernel_rfl) (fun _ => ?_)
  refine WP.done ?_
  refine WP.seq ?_
  refine WP.run [] [0, 1, 3, 6, 8, 9, 10, 11, 16, 17, 18, 19, 25, 26, 27, 28, 29, 30, 31, 32, 33, 34, 35, 36, 37, 38, 39, 40, 41, 42, 43] (fun _ => [(0, .iface 30 (.int .i64 r3)), (1, .iface 175 (.pointer (some ⟨b_0, 0, none⟩))), (3, .iface 148 (.agg #[.pointer (some ⟨2, 30, none⟩)])), (6, .pointer (some ⟨b1, 0, none⟩)), (8, .bool false), (9, .nilIface), (10, .bool false), (11, .iface 181 (.agg #[.int .i64 a0, .iface 30 (.int .i64 a0_1)])), (16, .iface 181 (.agg #[.int .i64 a0, .iface 30 (.int .i64 a0_1)])), (17, .iface 148 (.agg #[.pointer (some ⟨2, 181, none⟩)])), (18, .iface 148 (.agg #[.pointer (some ⟨2, 30, none⟩)])), (19, .bool false), (25, .tuple #[.nilIface, .bool false]), (26, .iface 181 (.agg #[.int .i64 a0, .iface 30 (.int .i64 a0_1)])), (27, .tuple #[.nilIface, .bool false]), (28, .nilIface), (29, .bool false), (30, .bool false), (31, .bool false), (32, .tuple #[]), (33, .tuple #[]), (34, .tuple #[]), (35, .bool false), (36, .iface 181 (.agg #[.int .i64 a0, .iface 30 (.int .i64 a0_1)])), (37, .tuple #[.iface 181 (.agg #[.int .i64 a0, .iface 30 (.int .i64 a0_1)]), .bool true]), (38, .bool true), (39, .iface 181 (.agg #[.int .i64 a0, .iface 30 (.int .i64 a0_1)])), (40, .iface 181 (.agg #[.int .i64 a0, .iface 30 (.int .i64 a0_1)])), (41, .iface 30 (.int .i64 r3)), (42, .iface 30 (.int .i64 r3)), (43, .bool false)]) (fun _ => [(b_0, .cells #[.int .i64 a1] 30 (0, 0)), (b_1, .cells #[.pointer (some ⟨b_0, 0, none⟩)] 175 (0, 0)), (b1, .cells #[.pointer (some ⟨2, 175, none⟩), .pointer (some ⟨b_1, 0, none⟩), .int .u64 150] 106 (0, 0))]) (fun _ => []) (fun _ => by kernel_rfl) (fun _ => ?_)
  refine WP.no rfl rfl ?_
  refine WP.skip ?_
  refine WP.leave ?_
  refine WP.leave ?_
  refine WP.round ?_
  refine WP.block ?_
  refine WP.seq ?_
  refine WP.seq ?_
  refine WP.run [] [0, 1, 3, 6, 8, 9, 10, 11, 16, 17, 18, 19, 25, 26, 27, 28, 29, 30, 31, 32, 33, 34, 35, 36, 37, 38, 39, 40, 41, 42, 43] (fun _ => [(0, .iface 30 (.int .i64 r3)), (1, .iface 175 (.pointer (some ⟨b_0, 0, none⟩))), (3, .iface 148 (.agg #[.pointer (some ⟨2, 30, none⟩)])), (6, .pointer (some ⟨b1, 0, none⟩)), (8, .bool false), (9, .nilIface), (10, .bool false), (11, .iface 181 (.agg #[.int .i64 a0, .iface 30 (.int .i64 a0_1)])), (16, .iface 30 (.int .i64 r3)), (17, .iface 148 (.agg #[.pointer (some ⟨2, 30, none⟩)])), (18, .iface 148 (.agg #[.pointer (some ⟨2, 30, none⟩)])), (19, .bool true), (25, .tuple #[.nilIface, .bool false]), (26, .iface 181 (.agg #[.int .i64 a0, .iface 30 (.int .i64 a0_1)])), (27, .tuple #[.nilIface, .bool false]), (28, .nilIface), (29, .bool false), (30, .bool false), (31, .bool false), (32, .tuple #[]), (33, .tuple #[]), (34, .tuple #[]), (35, .bool false), (36, .iface 181 (.agg #[.int .i64 a0, .iface 30 (.int .i64 a0_1)])), (37, .tuple #[.iface 181 (.agg #[.int .i64 a0, .iface 30 (.int .i64 a0_1)]), .bool true]), (38, .bool true), (39, .iface 181 (.agg #[.int .i64 a0, .iface 30 (.int .i64 a0_1)])), (40, .iface 181 (.agg #[.int .i64 a0, .iface 30 (.int .i64 a0_1)])), (41, .iface 30 (.int .i64 r3)), (42, .iface 30 (.int .i64 r3)), (43, .bool false)]) (fun _ => [(b_0, .cells #[.int .i64 a1] 30 (0, 0)), (b_1, .cells #[.pointer (some ⟨b_0, 0, none⟩)] 175 (0, 0)), (b1, .cells #[.pointer (some ⟨2, 175, none⟩), .pointer (some ⟨b_1, 0, none⟩), .int .u64 150] 106 (0, 0))]) (fun _ => []) (fun _ => by kernel_rfl) (fun _ => ?_)
  refine WP.yes rfl rfl ?_
  refine WP.seq ?_
  refine WP.run [2, 2, 2, 1, 3, 0] [0, 1, 3, 6, 8, 9, 10, 11, 16, 17, 18, 19, 20, 21, 22, 23, 25, 26, 27, 28, 29, 30, 31, 32, 33, 34, 35, 36, 37, 38, 39, 40, 41, 42, 43] (fun b5 => [(0, .iface 30 (.int .i64 r3)), (1, .iface 175 (.pointer (some ⟨b_0, 0, none⟩))), (3, .iface 148 (.agg #[.pointer (some ⟨2, 30, none⟩)])), (6, .pointer (some ⟨b1, 0, none⟩)), (8, .bool false), (9, .nilIface), (10, .bool false), (11, .iface 181 (.agg #[.int .i64 a0, .iface 30 (.int .i64 a0_1)])), (16, .iface 30 (.int .i64 r3)), (17, .iface 148 (.agg #[.pointer (some ⟨2, 30, none⟩)])), (18, .iface 148 (.agg #[.pointer (some ⟨2, 30, none⟩)])), (19, .bool true), (20, .agg #[.pointer (some ⟨2, 175, none⟩), .pointer (some ⟨b_1, 0, none⟩), .int .u64 150]), (21, .agg #[.pointer (some ⟨2, 30, none⟩), .pointer (some ⟨b_0, 0, none⟩), .int .u64 386]), (22, .iface 30 (.int .i64 r3)), (23, .agg #[.pointer (some ⟨2, 30, none⟩), .pointer (some ⟨b5, 0, none⟩), .int .u64 130]), (25, .tuple #[.nilIface, .bool false]), (26, .iface 181 (.agg #[.int .i64 a0, .iface 30 (.int .i64 a0_1)])), (27, .tuple #[.nilIface, .bool false]), (28, .nilIface), (29, .bool false), (30, .bool false), (31, .bool false), (32, .tuple #[]), (33, .tuple #[]), (34, .tuple #[]), (35, .bool false), (36, .iface 181 (.agg #[.int .i64 a0, .iface 30 (.int .i64 a0_1)])), (37, .tuple #[.iface 181 (.agg #[.int .i64 a0, .iface 30 (.int .i64 a0_1)]), .bool true]), (38, .bool true), (39, .iface 181 (.agg #[.int .i64 a0, .iface 30 (.int .i64 a0_1)])), (40, .iface 181 (.agg #[.int .i64 a0, .iface 30 (.int .i64 a0_1)])), (41, .iface 30 (.int .i64 r3)), (42, .iface 30 (.int .i64 r3)), (43, .bool false)]) (fun b5 => [(b_0, .cells #[.int .i64 r3] 30 (0, 0)), (b_1, .cells #[.pointer (some ⟨b_0, 0, none⟩)] 175 (0, 0)), (b1, .cells #[.pointer (some ⟨2, 175, none⟩), .pointer (some ⟨b_1, 0, none⟩), .int .u64 150] 106 (0, 0)), (b5, .cells #[.int .i64 r3] 30 (0, 0))]) (fun b5 => [b_0, b5, b_1, b1, b1, b1]) (fun b5 => by kernel_rfl) (fun b5 => ?_)
  refine WP.seq ?_
  refine WP.run [] [0, 1, 3, 6, 8, 9, 10, 11, 16, 17, 18, 19, 20, 21, 22, 23, 25, 26, 27, 28, 29, 30, 31, 32, 33, 34, 35, 36, 37, 38, 39, 40, 41, 42, 43] (fun _ => [(0, .iface 30 (.int .i64 r3)), (1, .iface 175 (.pointer (some ⟨b_0, 0, none⟩))), (3, .iface 148 (.agg #[.pointer (some ⟨2, 30, none⟩)])), (6, .pointer (some ⟨b1, 0, none⟩)), (8, .bool true), (9, .nilIface), (10, .bool false), (11, .iface 181 (.agg #[.int .i64 a0, .iface 30 (.int .i64 a0_1)])), (16, .iface 30 (.int .i64 r3)), (17, .iface 148 (.agg #[.pointer (some ⟨2, 30, none⟩)])), (18, .iface 148 (.agg #[.pointer (some ⟨2, 30, none⟩)])), (19, .bool true), (20, .agg #[.pointer (some ⟨2, 175, none⟩), .pointer (some ⟨b_1, 0, none⟩), .int .u64 150]), (21, .agg #[.pointer (some ⟨2, 30, none⟩), .pointer (some ⟨b_0, 0, none⟩), .int .u64 386]), (22, .iface 30 (.int .i64 r3)), (23, .agg #[.pointer (some ⟨2, 30, none⟩), .pointer (some ⟨b5, 0, none⟩), .int .u64 130]), (25, .tuple #[.nilIface, .bool false]), (26, .iface 181 (.agg #[.int .i64 a0, .iface 30 (.int .i64 a0_1)])), (27, .tuple #[.nilIface, .bool false]), (28, .nilIface), (29, .bool false), (30, .bool false), (31, .bool false), (32, .tuple #[]), (33, .tuple #[]), (34, .tuple #[]), (35, .bool false), (36, .iface 181 (.agg #[.int .i64 a0, .iface 30 (.int .i64 a0_1)])), (37, .tuple #[.iface 181 (.agg #[.int .i64 a0, .iface 30 (.int .i64 a0_1)]), .bool true]), (38, .bool true), (39, .iface 181 (.agg #[.int .i64 a0, .iface 30 (.int .i64 a0_1)])), (40, .iface 181 (.agg #[.int .i64 a0, .iface 30 (.int .i64 a0_1)])), (41, .iface 30 (.int .i64 r3)), (42, .iface 30 (.int .i64 r3)), (43, .bool false)]) (fun _ => [(b_0, .cells #[.int .i64 r3] 30 (0, 0)), (b_1, .cells #[.pointer (some ⟨b_0, 0, none⟩)] 175 (0, 0)), (b1, .cells #[.pointer (some ⟨2, 175, none⟩), .pointer (some ⟨b_1, 0, none⟩), .int .u64 150] 106 (0, 0)), (b5, .cells #[.int .i64 r3] 30 (0, 0))]) (fun _ => []) (fun _ => by kernel_rfl) (fun _ => ?_)
  obtain rfl := Option.some.inj hM
  exact WP.ret [] [] (.bool true) (by kernel_rfl) (fun w' hw => ⟨(), rfl, hw.pick [0, 1] (by kernel_rfl)⟩)

end Go.Proofs.YtbodofjnfmjbpaaGreatDoor

namespace Go.Proofs.YtbodofjnfmjbpaaGreatDoor
open Go Eng
set_option linter.unusedVariables false
set_option linter.unusedSimpArgs false

/-! ### errors.As: function 34 -/
def errors_As.f (a0 : Int) (a0_1 : Int) (a1 : Int) : Option (Bool × Int) :=
  (errors_as.f a0 a0_1 a1).bind fun (r2, r3) =>
  some (r2, r3)

set_option maxRecDepth 100000 in
theorem errors_As_calls (b_0 : Nat) (a0 : Int) (a0_1 : Int) (a1 : Int) (r : Bool × Int) (h : errors_As.f a0 a0_1 a1 = some r) : Does Tryz.prog 34 #[.iface 181 (.agg #[.int .i64 a0, .iface 30 (.int .i64 a0_1)]), .iface 175 (.pointer (some ⟨b_0, 0, none⟩))] [(b_0, .cells #[.int .i64 a1] 30 (0, 0))] Glob (fun _ : Unit => .bool r.1) (fun _ => [(b_0, .cells #[.int .i64 r.2] 30 (0, 0))]) (fun _ => []) (fun _ => Glob) := by
  intro w Z hS
  refine calls_of (args := [.iface 181 (.agg #[.int .i64 a0, .iface 30 (.int .i64 a0_1)]), .iface 175 (.pointer (some ⟨b_0, 0, none⟩))]) (L := [(0, .iface 181 (.agg #[.int .i64 a0, .iface 30 (.int .i64 a0_1)])), (1, .iface 175 (.pointer (some ⟨b_0, 0, none⟩)))]) (N := 42) (S := Sat w Z [(b_0, .cells #[.int .i64 a1] 30 (0, 0))] [] Glob) Tryz.func34 rfl rfl (Nat.le_of_ble_eq_true rfl) rfl hS ?_
  have hM := h
  clear h hS
  unfold errors_As.f at hM
  refine WP.seq ?_
  refine WP.run [] [0, 1, 4] (fun _ => [(0, .iface 181 (.agg #[.int .i64 a0, .iface 30 (.int .i64 a0_1)])), (1, .iface 175 (.pointer (some ⟨b_0, 0, none⟩))), (4, .bool false)]) (fun _ => [(b_0, .cells #[.int .i64 a1] 30 (0, 0))]) (fun _ => []) (fun _ => by kernel_rfl) (fun _ => ?_)
  refine WP.seq ?_
  refine WP.seq ?_
  refine WP.run [] [0, 1, 4, 9] (fun _ => [(0, .iface 181 (.agg #[.int .i64 a0, .iface 30 (.int .i64 a0_1)])), (1, .iface 175 (.pointer (some ⟨b_0, 0, none⟩))), (4, .bool false), (9, .bool false)]) (fun _ => [(b_0, .cells #[.int .i64 a1] 30 (0, 0))]) (fun _ => []) (fun _ => by kernel_rfl) (fun _ => ?_)
  refine WP.no rfl rfl ?_
  refine WP.skip ?_
  refine WP.seq ?_
  refine WP.seq ?_
  refine WP.run [] [0, 1, 4, 11] (fun _ => [(0, .iface 181 (.agg #[.int .i64 a0, .iface 30 (.int .i64 a0_1)])), (1, .iface 175 (.pointer (some ⟨b_0, 0, none⟩))), (4, .bool false), (11, .bool false)]) (fun _ => [(b_0, .cells #[.int .i64 a1] 30 (0, 0))]) (fun _ => []) (fun _ => by kernel_rfl) (fun _ => ?_)
  refine WP.no rfl rfl ?_
  refine WP.skip ?_
  refine WP.seq ?_
  refine WP.run [2, 2, 2] [0, 1, 4, 5] (fun b1 => [(0, .iface 181 (.agg #[.int .i64 a0, .iface 30 (.int .i64 a0_1)])), (1, .iface 175 (.pointer (some ⟨b_0, 0, none⟩))), (4, .bool false), (5, .pointer (some ⟨(b1 + 1), 0, none⟩))]) (fun b1 => [(b_0, .cells #[.int .i64 a1] 30 (0, 0)), (b1, .cells #[.pointer (some ⟨b_0, 0, none⟩)] 175 (0, 0)), ((b1 + 1), .cells #[.pointer (some ⟨2, 175, none⟩), .pointer (some ⟨b1, 0, none⟩), .int .u64 150] 106 (0, 0))]) (fun b1 => [(b1 + 1), (b1 + 1), (b1 + 1)]) (fun b1 => by kernel_rfl) (fun b1 => ?_)
  refine WP.seq ?_
  refine WP.run [2, 2, 2] [0, 1, 4, 5, 6] (fun _ => [(0, .iface 181 (.agg #[.int .i64 a0, .iface 30 (.int .i64 a0_1)])), (1, .iface 175 (.pointer (some ⟨b_0, 0, none⟩))), (4, .bool false), (5, .pointer (some ⟨(b1 + 1), 0, none⟩)), (6, .iface 148 (.agg #[.pointer (some ⟨2, 175, none⟩)]))]) (fun _ => [(b_0, .cells #[.int .i64 a1] 30 (0, 0)), (b1, .cells #[.pointer (some ⟨b_0, 0, none⟩)] 175 (0, 0)), ((b1 + 1), .cells #[.pointer (some ⟨2, 175, none⟩), .pointer (some ⟨b1, 0, none⟩), .int .u64 150] 106 (0, 0))]) (fun _ => [(b1 + 1), (b1 + 1), (b1 + 1)]) (fun _ => by kernel_rfl) (fun _ => ?_)
  refine WP.seq ?_
  refine WP.seq ?_
  refine WP.run [2, 2, 2, 1] [0, 1, 4, 5, 6, 23] (fun _ => [(0, .iface 181 (.agg #[.int .i64 a0, .iface 30 (.int .i64 a0_1)])), (1, .iface 175 (.pointer (some ⟨b_0, 0, none⟩))), (4, .bool false), (5, .pointer (some ⟨(b1 + 1), 0, none⟩)), (6, .iface 148 (.agg #[.pointer (some ⟨2, 175, none⟩)])), (23, .bool false)]) (fun _ => [(b_0, .cells #[.int .i64 a1] 30 (0, 0)), (b1, .cells #[.pointer (some ⟨b_0, 0, none⟩)] 175 (0, 0)), ((b1 + 1), .cells #[.pointer (some ⟨2, 175, none⟩), .pointer (some ⟨b1, 0, none⟩), .int .u64 150] 106 (0, 0))]) (fun _ => [b1, (b1 + 1), (b1 + 1), (b1 + 1)]) (fun _ => by kernel_rfl) (fun _ => ?_)
  refine WP.no rfl rfl ?_
  refine WP.skip ?_
  refine WP.seq ?_
  refine WP.run [] [0, 1, 4, 5, 7] (fun _ => [(0, .iface 181 (.agg #[.int .i64 a0, .iface 30 (.int .i64 a0_1)])), (1, .iface 175 (.pointer (some ⟨b_0, 0, none⟩))), (4, .bool false), (5, .pointer (some ⟨(b1 + 1), 0, none⟩)), (7, .iface 148 (.agg #[.pointer (some ⟨2, 30, none⟩)]))]) (fun _ => [(b_0, .cells #[.int .i64 a1] 30 (0, 0)), (b1, .cells #[.pointer (some ⟨b_0, 0, none⟩)] 175 (0, 0)), ((b1 + 1), .cells #[.pointer (some ⟨2, 175, none⟩), .pointer (some ⟨b1, 0, none⟩), .int .u64 150] 106 (0, 0))]) (fun _ => []) (fun _ => by kernel_rfl) (fun _ => ?_)
  refine WP.seq ?_
  refine WP.seq ?_
  refine WP.region ?_
  refine WL.run 5 [] [0, 1, 4, 5, 7, 30, 31] (fun _ => [(0, .iface 181 (.agg #[.int .i64 a0, .iface 30 (.int .i64 a0_1)])), (1, .iface 175 (.pointer (some ⟨b_0, 0, none⟩))), (4, .bool false), (5, .pointer (some ⟨(b1 + 1), 0, none⟩)), (7, .iface 148 (.agg #[.pointer (some ⟨2, 30, none⟩)])), (30, .bool true), (31, .iface 148 (.agg #[.pointer (some ⟨2, 30, none⟩)]))]) (fun _ => [(b_0, .cells #[.int .i64 a1] 30 (0, 0)), (b1, .cells #[.pointer (some ⟨b_0, 0, none⟩)] 175 (0, 0)), ((b1 + 1), .cells #[.pointer (some ⟨2, 175, none⟩), .pointer (some ⟨b1, 0, none⟩), .int .u64 150] 106 (0, 0))]) (fun _ => []) (fun _ => by kernel_rfl) (fun _ => ?_)
  refine WL.loadGlob (v := .iface 148 (.agg #[.pointer (some ⟨2, 73, none⟩)])) (by simp [Glob]) (fun _ => by kernel_rfl) (by kernel_rfl) rfl ?_
  refine WL.run 3 [] [0, 1, 4, 5, 7, 35] (fun _ => [(0, .iface 181 (.agg #[.int .i64 a0, .iface 30 (.int .i64 a0_1)])), (1, .iface 175 (.pointer (some ⟨b_0, 0, none⟩))), (4, .bool false), (5, .pointer (some ⟨(b1 + 1), 0, none⟩)), (7, .iface 148 (.agg #[.pointer (some ⟨2, 30, none⟩)])), (35, .bool false)]) (fun _ => [(b_0, .cells #[.int .i64 a1] 30 (0, 0)), (b1, .cells #[.pointer (some ⟨b_0, 0, none⟩)] 175 (0, 0)), ((b1 + 1), .cells #[.pointer (some ⟨2, 175, none⟩), .pointer (some ⟨b1, 0, none⟩), .int .u64 150] 106 (0, 0))]) (fun _ => []) (fun _ => by kernel_rfl) (fun _ => ?_)
  refine WP.done ?_
  refine WP.no rfl rfl ?_
  refine WP.skip ?_
  refine WP.seq ?_
  refine WP.region ?_
  refine WL.run 4 [2, 2, 2] [4, 37, 38, 39, 40] (fun _ => [(4, .bool false), (37, .iface 181 (.agg #[.int .i64 a0, .iface 30 (.int .i64 a0_1)])), (38, .iface 175 (.pointer (some ⟨b_0, 0, none⟩))), (39, .agg #[.pointer (some ⟨2, 175, none⟩), .pointer (some ⟨b1, 0, none⟩), .int .u64 150]), (40, .iface 148 (.agg #[.pointer (some ⟨2, 30, none⟩)]))]) (fun _ => [(b_0, .cells #[.int .i64 a1] 30 (0, 0)), (b1, .cells #[.pointer (some ⟨b_0, 0, none⟩)] 175 (0, 0)), ((b1 + 1), .cells #[.pointer (some ⟨2, 175, none⟩), .pointer (some ⟨b1, 0, none⟩), .int .u64 150] 106 (0, 0))]) (fun _ => [(b1 + 1), (b1 + 1), (b1 + 1)]) (fun _ => by kernel_rfl) (fun _ => ?_)
  obtain ⟨⟨r2, r3⟩, h4, hM⟩ := bind_some hM
  dsimp only at hM
  refine WL.callE (X := Unit) [] [] [true, true, false] (fun _ => _) (errors_as_calls b_0 b1 a0 a0_1 a1 _ h4) rfl rfl (fun _ h => h) (by kernel_rfl) (by kernel_rfl) (fun _ => rfl) (fun _ => ?_)
  refine WL.run 1 [] [4] (fun _ => [(4, .bool r2)]) (fun _ => [(b_0, .cells #[.int .i64 r3] 30 (0, 0)), (b1, .cells #[.pointer (some ⟨b_0, 0, none⟩)] 175 (0, 0)), ((b1 + 1), .cells #[.pointer (some ⟨2, 175, none⟩), .pointer (some ⟨b1, 0, none⟩), .int .u64 150] 106 (0, 0))]) (fun _ => []) (fun _ => by kernel_rfl) (fun _ => ?_)
  refine WP.done ?_
  refine WP.keep [true, false, false] (by kernel_rfl : _ = [(b_0, .cells #[.int .i64 r3] 30 (0, 0))]) ?_
  obtain rfl := Option.some.inj hM
  exact WP.ret [] [] (.bool r2) (by kernel_rfl) (fun w' hw => ⟨(), rfl, hw.pick [0] (by kernel_rfl)⟩)

end Go.Proofs.YtbodofjnfmjbpaaGreatDoor

namespace Go.Proofs.YtbodofjnfmjbpaaGreatDoor
open Go Eng
set_option linter.unusedVariables false
set_option linter.unusedSimpArgs false

/-! ### gangway/octets.number: function 102 -/
def octets_number.f (a0 : Int) (a0_1 : Int) : Option (Int) :=
  (errors_As.f a0 a0_1 0).bind fun (r2, r3) =>
  bif r2 then
    some r3
  else
    some 0

set_option maxRecDepth 100000 in
theorem octets_number_calls (a0 : Int) (a0_1 : Int) (r : Int) (h : octets_number.f a0 a0_1 = some r) : Pure Tryz.prog Glob 102 #[.iface 181 (.agg #[.int .i64 a0, .iface 30 (.int .i64 a0_1)])] (.int .i64 r) := by
  intro w Z hS
  refine calls_of (args := [.iface 181 (.agg #[.int .i64 a0, .iface 30 (.int .i64 a0_1)])]) (L := [(0, .iface 181 (.agg #[.int .i64 a0, .iface 30 (.int .i64 a0_1)]))]) (N := 12) (S := Sat w Z [] [] Glob) Tryz.func102 rfl rfl (Nat.le_of_ble_eq_true rfl) rfl hS ?_
  have hM := h
  clear h hS
  unfold octets_number.f at hM
  refine WP.seq ?_
  refine WP.run [] [0, 2] (fun _ => [(0, .iface 181 (.agg #[.int .i64 a0, .iface 30 (.int .i64 a0_1)])), (2, .int .i64 0)]) (fun _ => []) (fun _ => []) (fun _ => by kernel_rfl) (fun _ => ?_)
  refine WP.seq ?_
  refine WP.run [] [0, 2, 3] (fun b1 => [(0, .iface 181 (.agg #[.int .i64 a0, .iface 30 (.int .i64 a0_1)])), (2, .int .i64 0), (3, .pointer (some ⟨b1, 0, none⟩))]) (fun b1 => [(b1, .cells #[.int .i64 0] 30 (0, 0))]) (fun b1 => []) (fun b1 => by kernel_rfl) (fun b1 => ?_)
  refine WP.seq ?_
  refine WP.seq ?_
  refine WP.region ?_
  refine WL.run 5 [] [2, 3, 6, 7, 8] (fun _ => [(2, .int .i64 0), (3, .pointer (some ⟨b1, 0, none⟩)), (6, .bool true), (7, .iface 181 (.agg #[.int .i64 a0, .iface 30 (.int .i64 a0_1)])), (8, .iface 175 (.pointer (some ⟨b1, 0, none⟩)))]) (fun _ => [(b1, .cells #[.int .i64 0] 30 (0, 0))]) (fun _ => []) (fun _ => by kernel_rfl) (fun _ => ?_)
  obtain ⟨⟨r2, r3⟩, h4, hM⟩ := bind_some hM
  dsimp only at hM
  refine WL.callE (X := Unit) [] [] [true] (fun _ => _) (errors_As_calls b1 a0 a0_1 0 _ h4) rfl rfl (fun _ h => h) (by kernel_rfl) (by kernel_rfl) (fun _ => rfl) (fun _ => ?_)
  refine WL.run 1 [] [2, 3, 10] (fun _ => [(2, .int .i64 0), (3, .pointer (some ⟨b1, 0, none⟩)), (10, .bool r2)]) (fun _ => [(b1, .cells #[.int .i64 r3] 30 (0, 0))]) (fun _ => []) (fun _ => by kernel_rfl) (fun _ => ?_)
  refine WP.done ?_
  refine WP.cond r2 rfl rfl (fun c5 => ?_) (fun c5 => ?_)
  · replace hM := cond_t hM c5
    refine WP.seq ?_
    refine WP.run [0] [2] (fun _ => [(2, .int .i64 r3)]) (fun _ => [(b1, .cells #[.int .i64 r3] 30 (0, 0))]) (fun _ => [b1]) (fun _ => by kernel_rfl) (fun _ => ?_)
    refine WP.keep [false] (by kernel_rfl : _ = []) ?_
    obtain rfl := Option.some.inj hM
    exact WP.ret [] [] (.int .i64 r3) (by kernel_rfl) (fun w' hw => ⟨rfl, hw.pick [] rfl⟩)
  · replace hM := cond_f hM c5
    refine WP.skip ?_
    refine WP.seq ?_
    refine WP.run [] [2] (fun _ => [(2, .int .i64 0)]) (fun _ => [(b1, .cells #[.int .i64 r3] 30 (0, 0))]) (fun _ => []) (fun _ => by kernel_rfl) (fun _ => ?_)
    refine WP.keep [false] (by kernel_rfl : _ = []) ?_
    obtain rfl := Option.some.inj hM
    exact WP.ret [] [] (.int .i64 0) (by kernel_rfl) (fun w' hw => ⟨rfl, hw.pick [] rfl⟩)

end Go.Proofs.YtbodofjnfmjbpaaGreatDoor

namespace Go.Proofs.YtbodofjnfmjbpaaGreatDoor
open Go Eng
set_option linter.unusedVariables false
set_option linter.unusedSimpArgs false

/-! ### gangway/octets.Get: function 78 -/
def octets_Get.l1 (a2 : Int) (r2 : ByteArray) : Nat → Int → Int → Option (Int × Int)
  | 0, _, _ => none
  | n + 1, x9, x10 =>
    bif decide (x10 < a2) then
      (idxS r2 x10).bind fun t12 =>
      octets_Get.l1 a2 r2 n (bOr .u64 (u64 (x9 * 256)) (u64 t12)) (i64 (x10 + 1))
    else
      some (x9, 0)

def octets_Get.f (k : Nat) (a0 : ByteArray) (a1 : Int) (a2 : Int) : Option (Int × Int) :=
  bif ((decide (a2 < 1)) || (decide (a2 > 8))) then
    some (0, 1)
  else
    (octets_part.f a0 a1 a2).bind fun (r2, r3) =>
    match r3 with
    | none =>
      octets_Get.l1 a2 r2 k 0 0
    | some (q5, q6) =>
      (octets_number.f q5 q6).bind fun r7 =>
      some (0, r7)

set_option maxRecDepth 100000 in
theorem octets_Get_calls (k : Nat) (a0 : ByteArray) (a1 : Int) (a2 : Int) (r : Int × Int) (h : octets_Get.f k a0 a1 a2 = some r) : Pure Tryz.prog Glob 78 #[.string a0, .int .i64 a1, .int .i64 a2] (.tuple #[.int .u64 r.1, .int .i64 r.2]) := by
  intro w Z hS
  refine calls_of (args := [.string a0, .int .i64 a1, .int .i64 a2]) (L := [(0, .string a0), (1, .int .i64 a1), (2, .int .i64 a2)]) (N := 42) (S := Sat w Z [] [] Glob) Tryz.func78 rfl rfl (Nat.le_of_ble_eq_true rfl) rfl hS ?_
  have hM := h
  clear h hS
  unfold octets_Get.f at hM
  refine WP.seq ?_
  refine WP.run [] [0, 1, 2, 6, 7] (fun _ => [(0, .string a0), (1, .int .i64 a1), (2, .int .i64 a2), (6, .int .u64 0), (7, .int .i64 0)]) (fun _ => []) (fun _ => []) (fun _ => by kernel_rfl) (fun _ => ?_)
  refine WP.seq ?_
  refine WP.seq ?_
  refine WP.region ?_
  refine WL.run 3 [] [0, 1, 2, 6, 7, 14] (fun _ => [(0, .string a0), (1, .int .i64 a1), (2, .int .i64 a2), (6, .int .u64 0), (7, .int .i64 0), (14, .bool (decide (a2 < 1)))]) (fun _ => []) (fun _ => []) (fun _ => by kernel_rfl) (fun _ => ?_)
  refine WL.sub [0, 1, 2, 6, 7, 14] (L' := [(0, .string a0), (1, .int .i64 a1), (2, .int .i64 a2), (6, .int .u64 0), (7, .int .i64 0), (14, .bool (decide (a2 < 1)))]) (by kernel_rfl) ?_
  refine WL.both (fun b' => [(0, .string a0), (1, .int .i64 a1), (2, .int .i64 a2), (6, .int .u64 0), (7, .int .i64 0), (14, .bool b')]) (decide (a2 < 1)) 3 [] [] [0, 1, 2, 6, 7, 17] (fun b' => [(0, .string a0), (1, .int .i64 a1), (2, .int .i64 a2), (6, .int .u64 0), (7, .int .i64 0), (17, .bool (b' || (decide (a2 > 8))))]) [] [] (fun _ => by kernel_rfl) (fun _ => by kernel_rfl) ?_
  refine WP.done ?_
  refine WP.cond ((decide (a2 < 1)) || (decide (a2 > 8))) rfl rfl (fun c1 => ?_) (fun c1 => ?_)
  · replace hM := cond_t hM c1
    refine WP.seq ?_
    refine WP.run [] [0, 1, 2, 6, 7] (fun _ => [(0, .string a0), (1, .int .i64 a1), (2, .int .i64 a2), (6, .int .u64 0), (7, .int .i64 1)]) (fun _ => []) (fun _ => []) (fun _ => by kernel_rfl) (fun _ => ?_)
    obtain rfl := Option.some.inj hM
    exact WP.ret [] [] (.tuple #[.int .u64 0, .int .i64 1]) (by kernel_rfl) (fun w' hw => ⟨rfl, hw.pick [] rfl⟩)
  · replace hM := cond_f hM c1
    refine WP.skip ?_
    refine WP.seq ?_
    refine WP.region ?_
    refine WL.run 3 [] [2, 6, 7, 19, 20, 21] (fun _ => [(2, .int .i64 a2), (6, .int .u64 0), (7, .int .i64 0), (19, .string a0), (20, .int .i64 a1), (21, .int .i64 a2)]) (fun _ => []) (fun _ => []) (fun _ => by kernel_rfl) (fun _ => ?_)
    obtain ⟨⟨r2, r3⟩, h4, hM⟩ := bind_some hM
    dsimp only at hM
    refine WL.callP [] [] (octets_part_calls a0 a1 a2 _ h4) (fun _ h => h) (by kernel_rfl) (by kernel_rfl) rfl ?_
    refine WL.run 5 [] [2, 6, 7, 8, 9] (fun _ => [(2, .int .i64 a2), (6, .int .u64 0), (7, .int .i64 0), (8, .string r2), (9, Un0.v r3)]) (fun _ => []) (fun _ => []) (fun _ => by kernel_rfl) (fun _ => ?_)
    refine WP.done ?_
    refine WP.seq ?_
    refine WP.seq ?_
    refine WP.region ?_
    refine WL.run 1 [] [2, 6, 7, 8, 9, 25] (fun _ => [(2, .int .i64 a2), (6, .int .u64 0), (7, .int .i64 0), (8, .string r2), (9, Un0.v r3), (25, Un0.v r3)]) (fun _ => []) (fun _ => []) (fun _ => by kernel_rfl) (fun _ => ?_)
    rcases r3 with _ | ⟨q5, q6⟩
    · dsimp only at hM
      refine WL.run 1 [] [2, 6, 7, 8, 9, 26] (fun _ => [(2, .int .i64 a2), (6, .int .u64 0), (7, .int .i64 0), (8, .string r2), (9, .nilIface), (26, .bool false)]) (fun _ => []) (fun _ => []) (fun _ => by kernel_rfl) (fun _ => ?_)
      refine WP.done ?_
      refine WP.no rfl rfl ?_
      refine WP.skip ?_
      refine WP.seq ?_
      refine WP.run [] [2, 6, 7, 8, 10] (fun _ => [(2, .int .i64 a2), (6, .int .u64 0), (7, .int .i64 0), (8, .string r2), (10, .int .u64 0)]) (fun _ => []) (fun _ => []) (fun _ => by kernel_rfl) (fun _ => ?_)
      refine WP.seq ?_
      refine WP.seq ?_
      refine WP.run [] [6, 7, 8, 10, 29, 30] (fun _ => [(6, .int .u64 0), (7, .int .i64 0), (8, .string r2), (10, .int .u64 0), (29, .int .i64 a2), (30, .int .i64 0)]) (fun _ => []) (fun _ => []) (fun _ => by kernel_rfl) (fun _ => ?_)
      refine WP.block ?_
      refine WP.sub [6, 7, 8, 10, 29, 30] (L' := [(6, .int .u64 0), (7, .int .i64 0), (8, .string r2), (10, .int .u64 0), (29, .int .i64 a2), (30, .int .i64 0)]) (by kernel_rfl) ?_
      refine WP.loop (σ := Int × Int) (fun n st => octets_Get.l1 a2 r2 n st.1 st.2) r (fun st => [(6, .int .u64 0), (7, .int .i64 0), (8, .string r2), (10, .int .u64 st.1), (29, .int .i64 a2), (30, .int .i64 st.2)]) (fun st => Sat w Z [] [] Glob) (st := (0, 0)) (fun n st hM => ?_) hM
      rcases n with _ | n
      · exact nomatch (show (none : Option _) = some r from hM)
      obtain ⟨x9, x10⟩ := st
      replace hM : octets_Get.l1 a2 r2 (n + 1) x9 x10 = some r := hM
      rw [octets_Get.l1] at hM
      show WP _ _ _ _ _ [(6, .int .u64 0), (7, .int .i64 0), (8, .string r2), (10, .int .u64 x9), (29, .int .i64 a2), (30, .int .i64 x10)] (Sat w Z [] [] Glob)
      refine WP.seq ?_
      refine WP.run [] [6, 7, 8, 10, 29, 30, 31] (fun _ => [(6, .int .u64 0), (7, .int .i64 0), (8, .string r2), (10, .int .u64 x9), (29, .int .i64 a2), (30, .int .i64 x10), (31, .bool (decide (x10 < a2)))]) (fun _ => []) (fun _ => []) (fun _ => by kernel_rfl) (fun _ => ?_)
      refine WP.seq ?_
      refine WP.cond (decide (x10 < a2)) rfl rfl (fun c11 => ?_) (fun c11 => ?_)
      · replace hM := cond_t hM c11
        refine WP.skip ?_
        refine WP.seq ?_
        refine WP.block ?_
        refine WP.seq ?_
        refine WP.run [] [6, 7, 8, 10, 11, 29, 30, 31, 32] (fun _ => [(6, .int .u64 0), (7, .int .i64 0), (8, .string r2), (10, .int .u64 x9), (11, .int .i64 x10), (29, .int .i64 a2), (30, .int .i64 x10), (31, .bool (decide (x10 < a2))), (32, .int .i64 x10)]) (fun _ => []) (fun _ => []) (fun _ => by kernel_rfl) (fun _ => ?_)
        refine WP.region ?_
        refine WL.run 4 [] [6, 7, 8, 10, 11, 29, 30, 31, 32, 33, 34, 35, 36] (fun _ => [(6, .int .u64 0), (7, .int .i64 0), (8, .string r2), (10, .int .u64 x9), (11, .int .i64 x10), (29, .int .i64 a2), (30, .int .i64 x10), (31, .bool (decide (x10 < a2))), (32, .int .i64 x10), (33, .int .u64 x9), (34, .int .u64 (u64 (x9 * 256))), (35, .string r2), (36, .int .i64 x10)]) (fun _ => []) (fun _ => []) (fun _ => by kernel_rfl) (fun _ => ?_)
        obtain ⟨t12, h13, hM⟩ := bind_some hM
        refine WL.val (fun _ => run_idxS (s := r2) (k := .i64) (i := x10) (by kernel_rfl) (by kernel_rfl) (by kernel_rfl) h13) (by kernel_rfl) (by kernel_rfl) rfl ?_
        refine WL.run 3 [] [6, 7, 8, 10, 11, 29, 30, 31, 32, 33, 34, 35, 36, 37, 38, 39] (fun _ => [(6, .int .u64 0), (7, .int .i64 0), (8, .string r2), (10, .int .u64 (bOr .u64 (u64 (x9 * 256)) (u64 t12))), (11, .int .i64 x10), (29, .int .i64 a2), (30, .int .i64 x10), (31, .bool (decide (x10 < a2))), (32, .int .i64 x10), (33, .int .u64 x9), (34, .int .u64 (u64 (x9 * 256))), (35, .string r2), (36, .int .i64 x10), (37, .int .u8 t12), (38, .int .u64 (u64 t12)), (39, .int .u64 (bOr .u64 (u64 (x9 * 256)) (u64 t12)))]) (fun _ => []) (fun _ => []) (fun _ => by kernel_rfl) (fun _ => ?_)
        refine WP.done ?_
        refine WP.leave ?_
        refine WP.run [] [6, 7, 8, 10, 11, 29, 30, 31, 32, 33, 34, 35, 36, 37, 38, 39, 40] (fun _ => [(6, .int .u64 0), (7, .int .i64 0), (8, .string r2), (10, .int .u64 (bOr .u64 (u64 (x9 * 256)) (u64 t12))), (11, .int .i64 x10), (29, .int .i64 a2), (30, .int .i64 (i64 (x10 + 1))), (31, .bool (decide (x10 < a2))), (32, .int .i64 x10), (33, .int .u64 x9), (34, .int .u64 (u64 (x9 * 256))), (35, .string r2), (36, .int .i64 x10), (37, .int .u8 t12), (38, .int .u64 (u64 t12)), (39, .int .u64 (bOr .u64 (u64 (x9 * 256)) (u64 t12))), (40, .int .i64 (i64 (x10 + 1)))]) (fun _ => []) (fun _ => []) (fun _ => by kernel_rfl) (fun _ => ?_)
        exact WP.again' [6, 7, 8, 10, 29, 30] (bOr .u64 (u64 (x9 * 256)) (u64 t12), i64 (x10 + 1)) hM (by kernel_rfl) (fun _ h => h.pick [] (by kernel_rfl))
      · replace hM := cond_f hM c11
        refine WP.exit rfl ?_
        refine WP.seq ?_
        refine WP.run [] [6, 7] (fun _ => [(6, .int .u64 x9), (7, .int .i64 0)]) (fun _ => []) (fun _ => []) (fun _ => by kernel_rfl) (fun _ => ?_)
        obtain rfl := Option.some.inj hM
        exact WP.ret [] [] (.tuple #[.int .u64 x9, .int .i64 0]) (by kernel_rfl) (fun w' hw => ⟨rfl, hw.pick [] rfl⟩)
    · dsimp only at hM
      refine WL.run 1 [] [2, 6, 7, 8, 9, 26] (fun _ => [(2, .int .i64 a2), (6, .int .u64 0), (7, .int .i64 0), (8, .string r2), (9, .iface 181 (.agg #[.int .i64 q5, .iface 30 (.int .i64 q6)])), (26, .bool true)]) (fun _ => []) (fun _ => []) (fun _ => by kernel_rfl) (fun _ => ?_)
      refine WP.done ?_
      refine WP.yes rfl rfl ?_
      refine WP.seq ?_
      refine WP.region ?_
      refine WL.run 1 [] [2, 6, 7, 8, 27] (fun _ => [(2, .int .i64 a2), (6, .int .u64 0), (7, .int .i64 0), (8, .string r2), (27, .iface 181 (.agg #[.int .i64 q5, .iface 30 (.int .i64 q6)]))]) (fun _ => []) (fun _ => []) (fun _ => by kernel_rfl) (fun _ => ?_)
      obtain ⟨r7, h8, hM⟩ := bind_some hM
      refine WL.callP [] [] (octets_number_calls q5 q6 _ h8) (fun _ h => h) (by kernel_rfl) (by kernel_rfl) rfl ?_
      refine WL.run 2 [] [2, 6, 7, 8] (fun _ => [(2, .int .i64 a2), (6, .int .u64 0), (7, .int .i64 r7), (8, .string r2)]) (fun _ => []) (fun _ => []) (fun _ => by kernel_rfl) (fun _ => ?_)
      refine WP.done ?_
      obtain rfl := Option.some.inj hM
      exact WP.ret [] [] (.tuple #[.int .u64 0, .int .i64 r7]) (by kernel_rfl) (fun w' hw => ⟨rfl, hw.pick [] rfl⟩)

end Go.Proofs.YtbodofjnfmjbpaaGreatDoor

namespace Go.Proofs.YtbodofjnfmjbpaaGreatDoor
open Go Eng
set_option linter.unusedVariables false
set_option linter.unusedSimpArgs false

/-! ### gangway/vxlan.Parse: function 47 -/
def vxlan_Parse.f (k : Nat) (a0 : ByteArray) : Option (Int × ByteArray × Int) :=
  bif decide ((a0.size : Int) < 8) then
    some (0, (⟨#[]⟩ : ByteArray), 80)
  else
    (idxS a0 0).bind fun t2 =>
    bif ((bAnd .u8 t2 8) == 0) then
      some (0, (⟨#[]⟩ : ByteArray), 81)
    else
      (octets_Get.f k a0 4 3).bind fun (r5, r6) =>
      (sliceS a0 8 (a0.size : Int)).bind fun t8 =>
      some (i64 r5, t8, 0)

set_option maxRecDepth 100000 in
theorem vxlan_Parse_calls (k : Nat) (a0 : ByteArray) (r : Int × ByteArray × Int) (h : vxlan_Parse.f k a0 = some r) : Pure Tryz.prog Glob 47 #[.string a0] (.tuple #[.int .i64 r.1, .string r.2.1, .int .i64 r.2.2]) := by
  intro w Z hS
  refine calls_of (args := [.string a0]) (L := [(0, .string a0)]) (N := 25) (S := Sat w Z [] [] Glob) Tryz.func47 rfl rfl (Nat.le_of_ble_eq_true rfl) rfl hS ?_
  have hM := h
  clear h hS
  unfold vxlan_Parse.f at hM
  refine WP.seq ?_
  refine WP.run [] [0, 2, 3, 4] (fun _ => [(0, .string a0), (2, .int .i64 0), (3, .string (⟨#[]⟩ : ByteArray)), (4, .int .i64 0)]) (fun _ => []) (fun _ => []) (fun _ => by kernel_rfl) (fun _ => ?_)
  refine WP.seq ?_
  refine WP.block ?_
  refine WP.seq ?_
  refine WP.run [] [0, 2, 3, 4, 7] (fun _ => [(0, .string a0), (2, .int .i64 0), (3, .string (⟨#[]⟩ : ByteArray)), (4, .int .i64 0), (7, .bool (decide ((a0.size : Int) < 8)))]) (fun _ => []) (fun _ => []) (fun _ => by kernel_rfl) (fun _ => ?_)
  refine WP.cond (decide ((a0.size : Int) < 8)) rfl rfl (fun c1 => ?_) (fun c1 => ?_)
  · replace hM := cond_t hM c1
    refine WP.seq ?_
    refine WP.run [] [0, 2, 3, 4] (fun _ => [(0, .string a0), (2, .int .i64 0), (3, .string (⟨#[]⟩ : ByteArray)), (4, .int .i64 80)]) (fun _ => []) (fun _ => []) (fun _ => by kernel_rfl) (fun _ => ?_)
    obtain rfl := Option.some.inj hM
    exact WP.ret [] [] (.tuple #[.int .i64 0, .string (⟨#[]⟩ : ByteArray), .int .i64 80]) (by kernel_rfl) (fun w' hw => ⟨rfl, hw.pick [] rfl⟩)
  · replace hM := cond_f hM c1
    refine WP.seq ?_
    refine WP.region ?_
    refine WL.run 1 [] [0, 2, 3, 4, 12] (fun _ => [(0, .string a0), (2, .int .i64 0), (3, .string (⟨#[]⟩ : ByteArray)), (4, .int .i64 0), (12, .string a0)]) (fun _ => []) (fun _ => []) (fun _ => by kernel_rfl) (fun _ => ?_)
    obtain ⟨t2, h3, hM⟩ := bind_some hM
    refine WL.val (fun _ => run_idxS (s := a0) (k := .i64) (i := 0) (by kernel_rfl) (by kernel_rfl) (by kernel_rfl) h3) (by kernel_rfl) (by kernel_rfl) rfl ?_
    refine WL.run 3 [] [0, 2, 3, 4, 11] (fun _ => [(0, .string a0), (2, .int .i64 0), (3, .string (⟨#[]⟩ : ByteArray)), (4, .int .i64 0), (11, .bool ((bAnd .u8 t2 8) == 0))]) (fun _ => []) (fun _ => []) (fun _ => by kernel_rfl) (fun _ => ?_)
    refine WP.done ?_
    refine WP.cond ((bAnd .u8 t2 8) == 0) rfl rfl (fun c4 => ?_) (fun c4 => ?_)
    · replace hM := cond_t hM c4
      refine WP.seq ?_
      refine WP.run [] [0, 2, 3, 4] (fun _ => [(0, .string a0), (2, .int .i64 0), (3, .string (⟨#[]⟩ : ByteArray)), (4, .int .i64 81)]) (fun _ => []) (fun _ => []) (fun _ => by kernel_rfl) (fun _ => ?_)
      obtain rfl := Option.some.inj hM
      exact WP.ret [] [] (.tuple #[.int .i64 0, .string (⟨#[]⟩ : ByteArray), .int .i64 81]) (by kernel_rfl) (fun w' hw => ⟨rfl, hw.pick [] rfl⟩)
    · replace hM := cond_f hM c4
      refine WP.skip ?_
      refine WP.leave ?_
      refine WP.seq ?_
      refine WP.region ?_
      refine WL.run 1 [] [0, 2, 3, 4, 17] (fun _ => [(0, .string a0), (2, .int .i64 0), (3, .string (⟨#[]⟩ : ByteArray)), (4, .int .i64 0), (17, .string a0)]) (fun _ => []) (fun _ => []) (fun _ => by kernel_rfl) (fun _ => ?_)
      obtain ⟨⟨r5, r6⟩, h7, hM⟩ := bind_some hM
      dsimp only at hM
      refine WL.callP [] [] (octets_Get_calls k a0 4 3 _ h7) (fun _ h => h) (by kernel_rfl) (by kernel_rfl) rfl ?_
      refine WL.run 5 [] [0, 2, 3, 4, 5] (fun _ => [(0, .string a0), (2, .int .i64 0), (3, .string (⟨#[]⟩ : ByteArray)), (4, .int .i64 0), (5, .int .u64 r5)]) (fun _ => []) (fun _ => []) (fun _ => by kernel_rfl) (fun _ => ?_)
      refine WP.done ?_
      refine WP.seq ?_
      refine WP.quiet (by kernel_rfl) (by kernel_rfl) ?_
      refine QL.run 3 [] [2, 3, 4, 22, 23] [] [(2, .int .i64 0), (3, .string (⟨#[]⟩ : ByteArray)), (4, .int .i64 0), (22, .int .i64 (i64 r5)), (23, .string a0)] (by kernel_rfl) ?_
      obtain ⟨t8, h9, hM⟩ := bind_some hM
      refine QL.val (fun _ => run_sliceS_lo (s := a0) (kl := .i64) (l := 8) (by kernel_rfl) (by kernel_rfl) (by kernel_rfl) h9) (by kernel_rfl) (by kernel_rfl) rfl ?_
      refine QL.run 3 [] [2, 3, 4] [] [(2, .int .i64 (i64 r5)), (3, .string t8), (4, .int .i64 0)] (by kernel_rfl) ?_
      refine QL.done ?_
      obtain rfl := Option.some.inj hM
      exact WP.ret [] [] (.tuple #[.int .i64 (i64 r5), .string t8, .int .i64 0]) (by kernel_rfl) (fun w' hw => ⟨rfl, hw.pick [] rfl⟩)

end Go.Proofs.YtbodofjnfmjbpaaGreatDoor

namespace Go.Proofs.YtbodofjnfmjbpaaGreatDoor
open Go Eng
set_option linter.unusedVariables false
set_option linter.unusedSimpArgs false

/-! ### gangway/vni.By$1: function 80 -/
def vni_By_1.f (a0 : Int) (a0_1 : Int) (a0_2 : (List Int)) (a1 : Int) : Option (Bool) :=
  some (a0_1 == a1)

set_option maxRecDepth 100000 in
theorem vni_By_1_calls (b_0 : Nat) (A00 : SkL Unit) (a0 : Int) (a0_1 : Int) (a0_2 : (List Int)) (a1 : Int) (r : Bool) (h : vni_By_1.f a0 a0_1 a0_2 a1 = some r) : Does Tryz.prog 80 #[.agg #[.int .i64 a0, .int .i64 a0_1, slcV A00 a0_2.length], .pointer (some ⟨b_0, 0, none⟩)] [(b_0, .cells #[.int .i64 a1] 3 (0, 0))] ([Row 1 (pl (encI .u32)) noK A00 a0_2] ++ Glob) (fun _ : Unit => .bool r) (fun _ => [(b_0, .cells #[.int .i64 a1] 3 (0, 0))]) (fun _ => []) (fun _ => ([Row 1 (pl (encI .u32)) noK A00 a0_2] ++ Glob)) := by
  intro w Z hS
  refine calls_of (args := [.agg #[.int .i64 a0, .int .i64 a0_1, slcV A00 a0_2.length], .pointer (some ⟨b_0, 0, none⟩)]) (L := [(0, .agg #[.int .i64 a0, .int .i64 a0_1, slcV A00 a0_2.length]), (1, .pointer (some ⟨b_0, 0, none⟩))]) (N := 8) (S := Sat w Z [(b_0, .cells #[.int .i64 a1] 3 (0, 0))] [] ([Row 1 (pl (encI .u32)) noK A00 a0_2] ++ Glob)) Tryz.func80 rfl rfl (Nat.le_of_ble_eq_true rfl) rfl hS ?_
  have hM := h
  clear h hS
  unfold vni_By_1.f at hM
  refine WP.seq ?_
  refine WP.run [] [1, 2, 3] (fun b1 => [(1, .pointer (some ⟨b_0, 0, none⟩)), (2, .pointer (some ⟨b1, 0, none⟩)), (3, .bool false)]) (fun b1 => [(b_0, .cells #[.int .i64 a1] 3 (0, 0)), (b1, .cells #[.int .i64 a0, .int .i64 a0_1, slcV A00 a0_2.length] 35 (0, 0))]) (fun b1 => []) (fun b1 => by kernel_rfl) (fun b1 => ?_)
  refine WP.seq ?_
  refine WP.run [1, 0] [3] (fun _ => [(3, .bool (a0_1 == a1))]) (fun _ => [(b_0, .cells #[.int .i64 a1] 3 (0, 0)), (b1, .cells #[.int .i64 a0, .int .i64 a0_1, slcV A00 a0_2.length] 35 (0, 0))]) (fun _ => [b_0, b1]) (fun _ => by kernel_rfl) (fun _ => ?_)
  refine WP.keep [true, false] (by kernel_rfl : _ = [(b_0, .cells #[.int .i64 a1] 3 (0, 0))]) ?_
  obtain rfl := Option.some.inj hM
  exact WP.ret [] [] (.bool (a0_1 == a1)) (by kernel_rfl) (fun w' hw => ⟨(), rfl, (hw.pick [0] (by kernel_rfl)).lessF [0] (by kernel_rfl)⟩)

end Go.Proofs.YtbodofjnfmjbpaaGreatDoor

namespace Go.Proofs.YtbodofjnfmjbpaaGreatDoor
open Go Eng
set_option linter.unusedVariables false
set_option linter.unusedSimpArgs false

/-! ### slices.IndexFunc[[]gangway/api.Seg,gangway/api.Seg]: function 103 -/
def api_Seg.l1 (a0 : (List api_Seg)) (a1 : Int) : Nat → Int → Int → Option (Int)
  | 0, _, _ => none
  | n + 1, x1, x2 =>
    bif decide (x2 < (a0.length : Int)) then
      (getL a0.length a0 x2).bind fun t4 =>
      (vni_By_1.f t4.Vid t4.Vni t4.Peers a1).bind fun r6 =>
      bif r6 then
        some x2
      else
        api_Seg.l1 a0 a1 n x1 (i64 (x2 + 1))
    else
      some (-1)

def api_Seg.f (k : Nat) (a0 : (List api_Seg)) (a1 : Int) : Option (Int) :=
  api_Seg.l1 a0 a1 k 0 0

set_option maxRecDepth 100000 in
theorem api_Seg_calls (k : Nat) (b_0 : Nat) (A00 : SkL (SkL Unit)) (a0 : (List api_Seg)) (a1 : Int) (r : Int) (h : api_Seg.f k a0 a1 = some r) : Does Tryz.prog 103 #[slcV A00 a0.length, .func (.func 80) #[] #[.pointer (some ⟨b_0, 0, none⟩)]] [(b_0, .cells #[.int .i64 a1] 3 (0, 0))] ([Row 3 api_Seg.encS api_Seg.inK A00 a0] ++ Glob) (fun _ : Unit => .int .i64 r) (fun _ => [(b_0, .cells #[.int .i64 a1] 3 (0, 0))]) (fun _ => []) (fun _ => ([Row 3 api_Seg.encS api_Seg.inK A00 a0] ++ Glob)) := by
  intro w Z hS
  refine calls_of (args := [slcV A00 a0.length, .func (.func 80) #[] #[.pointer (some ⟨b_0, 0, none⟩)]]) (L := [(0, slcV A00 a0.length), (1, .func (.func 80) #[] #[.pointer (some ⟨b_0, 0, none⟩)])]) (N := 19) (S := Sat w Z [(b_0, .cells #[.int .i64 a1] 3 (0, 0))] [] ([Row 3 api_Seg.encS api_Seg.inK A00 a0] ++ Glob)) Tryz.func103 rfl rfl (Nat.le_of_ble_eq_true rfl) rfl hS ?_
  have hM := h
  clear h hS
  unfold api_Seg.f at hM
  refine WP.seq ?_
  refine WP.run [] [0, 1, 4] (fun _ => [(0, slcV A00 a0.length), (1, .func (.func 80) #[] #[.pointer (some ⟨b_0, 0, none⟩)]), (4, .int .i64 0)]) (fun _ => [(b_0, .cells #[.int .i64 a1] 3 (0, 0))]) (fun _ => []) (fun _ => by kernel_rfl) (fun _ => ?_)
  refine WP.seq ?_
  refine WP.seq ?_
  refine WP.run [] [0, 1, 4, 7, 8] (fun _ => [(0, slcV A00 a0.length), (1, .func (.func 80) #[] #[.pointer (some ⟨b_0, 0, none⟩)]), (4, .int .i64 0), (7, .int .i64 (a0.length : Int)), (8, .int .i64 0)]) (fun _ => [(b_0, .cells #[.int .i64 a1] 3 (0, 0))]) (fun _ => []) (fun _ => by kernel_rfl) (fun _ => ?_)
  refine WP.block ?_
  refine WP.sub [0, 1, 4, 7, 8] (L' := [(0, slcV A00 a0.length), (1, .func (.func 80) #[] #[.pointer (some ⟨b_0, 0, none⟩)]), (4, .int .i64 0), (7, .int .i64 (a0.length : Int)), (8, .int .i64 0)]) (by kernel_rfl) ?_
  refine WP.lessF [0] (F' := [Row 3 api_Seg.encS api_Seg.inK A00 a0]) (by kernel_rfl) ?_
  refine WP.loop (σ := Int × Int) (fun n st => api_Seg.l1 a0 a1 n st.1 st.2) r (fun st => [(0, slcV A00 a0.length), (1, .func (.func 80) #[] #[.pointer (some ⟨b_0, 0, none⟩)]), (4, .int .i64 st.1), (7, .int .i64 (a0.length : Int)), (8, .int .i64 st.2)]) (fun st => Sat w Z [(b_0, .cells #[.int .i64 a1] 3 (0, 0))] [] ([Row 3 api_Seg.encS api_Seg.inK A00 a0] ++ Glob)) (st := (0, 0)) (fun n st hM => ?_) hM
  rcases n with _ | n
  · exact nomatch (show (none : Option _) = some r from hM)
  obtain ⟨x1, x2⟩ := st
  replace hM : api_Seg.l1 a0 a1 (n + 1) x1 x2 = some r := hM
  rw [api_Seg.l1] at hM
  show WP _ _ _ _ _ [(0, slcV A00 a0.length), (1, .func (.func 80) #[] #[.pointer (some ⟨b_0, 0, none⟩)]), (4, .int .i64 x1), (7, .int .i64 (a0.length : Int)), (8, .int .i64 x2)] (Sat w Z [(b_0, .cells #[.int .i64 a1] 3 (0, 0))] [] ([Row 3 api_Seg.encS api_Seg.inK A00 a0] ++ Glob))
  refine WP.seq ?_
  refine WP.run [] [0, 1, 4, 7, 8, 9] (fun _ => [(0, slcV A00 a0.length), (1, .func (.func 80) #[] #[.pointer (some ⟨b_0, 0, none⟩)]), (4, .int .i64 x1), (7, .int .i64 (a0.length : Int)), (8, .int .i64 x2), (9, .bool (decide (x2 < (a0.length : Int))))]) (fun _ => [(b_0, .cells #[.int .i64 a1] 3 (0, 0))]) (fun _ => []) (fun _ => by kernel_rfl) (fun _ => ?_)
  refine WP.seq ?_
  refine WP.cond (decide (x2 < (a0.length : Int))) rfl rfl (fun c3 => ?_) (fun c3 => ?_)
  · replace hM := cond_t hM c3
    refine WP.skip ?_
    refine WP.seq ?_
    refine WP.block ?_
    refine WP.seq ?_
    refine WP.run [] [0, 1, 4, 5, 7, 8, 9, 10] (fun _ => [(0, slcV A00 a0.length), (1, .func (.func 80) #[] #[.pointer (some ⟨b_0, 0, none⟩)]), (4, .int .i64 x1), (5, .int .i64 x2), (7, .int .i64 (a0.length : Int)), (8, .int .i64 x2), (9, .bool (decide (x2 < (a0.length : Int)))), (10, .int .i64 x2)]) (fun _ => [(b_0, .cells #[.int .i64 a1] 3 (0, 0))]) (fun _ => []) (fun _ => by kernel_rfl) (fun _ => ?_)
    refine WP.seq ?_
    refine WP.region ?_
    refine WL.run 3 [] [0, 1, 4, 5, 7, 8, 9, 10, 11, 12, 13] (fun _ => [(0, slcV A00 a0.length), (1, .func (.func 80) #[] #[.pointer (some ⟨b_0, 0, none⟩)]), (4, .int .i64 x1), (5, .int .i64 x2), (7, .int .i64 (a0.length : Int)), (8, .int .i64 x2), (9, .bool (decide (x2 < (a0.length : Int)))), (10, .int .i64 x2), (11, .func (.func 80) #[] #[.pointer (some ⟨b_0, 0, none⟩)]), (12, slcV A00 a0.length), (13, .int .i64 x2)]) (fun _ => [(b_0, .cells #[.int .i64 a1] 3 (0, 0))]) (fun _ => []) (fun _ => by kernel_rfl) (fun _ => ?_)
    obtain ⟨t4, h5, hM⟩ := bind_some hM
    refine WL.valF (φ := Row 3 api_Seg.encS api_Seg.inK A00 a0) (fact_at 0 rfl) (fun w hR => run_indexRowF (A := A00) (xs := a0) (i := x2) (k := .i64) (e := 35) (m := 3) (by kernel_rfl) (by kernel_rfl) h5 (by kernel_rfl) (by kernel_rfl) hR) (by kernel_rfl) (by kernel_rfl) rfl ?_
    refine WL.valF (φ := Row 3 api_Seg.encS api_Seg.inK A00 a0) (fact_at 0 rfl) (fun w hR => run_loadRowFA (A := A00) (xs := a0) (i := x2) (j := 0) (n := 3) (vs := [.int .i64 t4.Vid, .int .i64 t4.Vni, slcV (A00.s (Int.toNat x2)) t4.Peers.length]) h5 (fun _ => by kernel_rfl) (by kernel_rfl) (by kernel_rfl) (by kernel_rfl) rfl hR) (by kernel_rfl) (by kernel_rfl) rfl ?_
    refine WL.know (Row 1 (pl (encI .u32)) noK (A00.s (Int.toNat x2)) t4.Peers) [0] [Row 3 api_Seg.encS api_Seg.inK A00 a0] (by kernel_rfl) (fun w hψ => ((hψ _ (List.mem_singleton.2 rfl)).inner _ _ (getL_parts h5).2)) ?_
    obtain ⟨r6, h7, hM⟩ := bind_some hM
    refine WL.callE (X := Unit) [] [] [true] (fun _ => _) (vni_By_1_calls b_0 (A00.s (Int.toNat x2)) t4.Vid t4.Vni t4.Peers a1 _ h7) rfl rfl (sub_pick [0] (by kernel_rfl)) (by kernel_rfl) (by kernel_rfl) (fun _ => rfl) (fun _ => ?_)
    refine WP.done ?_
    refine WP.cond r6 rfl rfl (fun c8 => ?_) (fun c8 => ?_)
    · replace hM := cond_t hM c8
      refine WP.seq ?_
      refine WP.run [] [0, 1, 4, 5, 7, 8, 9, 10, 11, 12, 13, 14, 15, 16, 17] (fun _ => [(0, slcV A00 a0.length), (1, .func (.func 80) #[] #[.pointer (some ⟨b_0, 0, none⟩)]), (4, .int .i64 x2), (5, .int .i64 x2), (7, .int .i64 (a0.length : Int)), (8, .int .i64 x2), (9, .bool (decide (x2 < (a0.length : Int)))), (10, .int .i64 x2), (11, .func (.func 80) #[] #[.pointer (some ⟨b_0, 0, none⟩)]), (12, slcV A00 a0.length), (13, .int .i64 x2), (14, ptrV A00 (Int.toNat x2 * 3 + 0)), (15, .agg #[.int .i64 t4.Vid, .int .i64 t4.Vni, slcV (A00.s (Int.toNat x2)) t4.Peers.length]), (16, .bool r6), (17, .int .i64 x2)]) (fun _ => [(b_0, .cells #[.int .i64 a1] 3 (0, 0))]) (fun _ => []) (fun _ => by kernel_rfl) (fun _ => ?_)
      obtain rfl := Option.some.inj hM
      exact WP.ret [] [] (.int .i64 x2) (by kernel_rfl) (fun w' hw => ⟨(), rfl, (hw.pick [0] (by kernel_rfl)).lessF [1] (by kernel_rfl)⟩)
    · replace hM := cond_f hM c8
      refine WP.skip ?_
      refine WP.leave ?_
      refine WP.run [] [0, 1, 4, 5, 7, 8, 9, 10, 11, 12, 13, 14, 15, 16, 18] (fun _ => [(0, slcV A00 a0.length), (1, .func (.func 80) #[] #[.pointer (some ⟨b_0, 0, none⟩)]), (4, .int .i64 x1), (5, .int .i64 x2), (7, .int .i64 (a0.length : Int)), (8, .int .i64 (i64 (x2 + 1))), (9, .bool (decide (x2 < (a0.length : Int)))), (10, .int .i64 x2), (11, .func (.func 80) #[] #[.pointer (some ⟨b_0, 0, none⟩)]), (12, slcV A00 a0.length), (13, .int .i64 x2), (14, ptrV A00 (Int.toNat x2 * 3 + 0)), (15, .agg #[.int .i64 t4.Vid, .int .i64 t4.Vni, slcV (A00.s (Int.toNat x2)) t4.Peers.length]), (16, .bool r6), (18, .int .i64 (i64 (x2 + 1)))]) (fun _ => [(b_0, .cells #[.int .i64 a1] 3 (0, 0))]) (fun _ => []) (fun _ => by kernel_rfl) (fun _ => ?_)
      exact WP.again' [0, 1, 4, 7, 8] (x1, i64 (x2 + 1)) hM (by kernel_rfl) (fun _ h => (h.pick [0] (by kernel_rfl)).lessF [1] (by kernel_rfl))
  · replace hM := cond_f hM c3
    refine WP.exit rfl ?_
    refine WP.seq ?_
    refine WP.run [] [4] (fun _ => [(4, .int .i64 (-1))]) (fun _ => [(b_0, .cells #[.int .i64 a1] 3 (0, 0))]) (fun _ => []) (fun _ => by kernel_rfl) (fun _ => ?_)
    obtain rfl := Option.some.inj hM
    exact WP.ret [] [] (.int .i64 (-1)) (by kernel_rfl) (fun w' hw => ⟨(), rfl, (hw.pick [0] (by kernel_rfl)).lessF [0] (by kernel_rfl)⟩)

end Go.Proofs.YtbodofjnfmjbpaaGreatDoor

namespace Go.Proofs.YtbodofjnfmjbpaaGreatDoor
open Go Eng
set_option linter.unusedVariables false
set_option linter.unusedSimpArgs false

/-! ### slices.Clone[[]uint32,uint32]: function 104 -/
def slices_Clone_uint32_uint32.f (a0 : (List Int)) : Option (List Int) := (roomL 4 a0.length).bind fun _ => some a0

set_option maxRecDepth 100000 in
theorem slices_Clone_uint32_uint32_calls (A00 : SkL Unit) (a0 : (List Int)) (r : (List Int)) (h : slices_Clone_uint32_uint32.f a0 = some r) : Does Tryz.prog 104 #[slcV A00 a0.length] [] ([Row 1 (pl (encI .u32)) noK A00 a0] ++ Glob) (fun x : SkL Unit => slcV x r.length) (fun _ => []) (fun _ => []) (fun x => [Row 1 (pl (encI .u32)) noK x r] ++ ([Row 1 (pl (encI .u32)) noK A00 a0] ++ Glob)) := by
  intro w Z hS
  refine calls_of (args := [slcV A00 a0.length]) (L := [(0, slcV A00 a0.length)]) (N := 8) (S := Sat w Z [] [] ([Row 1 (pl (encI .u32)) noK A00 a0] ++ Glob)) Tryz.func104 rfl rfl (Nat.le_of_ble_eq_true rfl) rfl hS ?_
  have hM := h
  clear h hS
  unfold slices_Clone_uint32_uint32.f at hM
  refine WP.fact (Row 1 (pl (encI .u32)) noK A00 a0) (fact_at 0 rfl) (fun w hw => hw.nil) (fun hn => ?_)
  obtain ⟨a, c, s⟩ := A00
  cases a with
  | none =>
    obtain ⟨h1, h2⟩ := hn rfl
    dsimp only at h1 h2
    subst h1; subst h2
    obtain ⟨u0, hu0, hM⟩ := bind_some hM
    obtain rfl := Option.some.inj hM
    show WP _ _ _ _ _ [(0, .slice none 0 0)] (Sat _ _ _ _ ([Row 1 (pl (encI .u32)) noK (⟨none, 0, s⟩ : SkL Unit) ([] : List Int)] ++ Glob))
    refine WP.seq ?_
    refine WP.run [] [0, 2] (fun _ => [(0, .slice none 0 0), (2, .slice none 0 0)]) (fun _ => []) (fun _ => []) (fun _ => by kernel_rfl) (fun _ => ?_)
    refine WP.seq ?_
    refine WP.seq ?_
    refine WP.run [] [0, 2, 4] (fun _ => [(0, .slice none 0 0), (2, .slice none 0 0), (4, .bool true)]) (fun _ => []) (fun _ => []) (fun _ => by kernel_rfl) (fun _ => ?_)
    refine WP.yes rfl rfl ?_
    refine WP.seq ?_
    refine WP.run [] [0, 2] (fun _ => [(0, .slice none 0 0), (2, .slice none 0 0)]) (fun _ => []) (fun _ => []) (fun _ => by kernel_rfl) (fun _ => ?_)
    refine WP.know (Row 1 (pl (encI .u32)) noK (SkL.nil (fun _ => ())) ([] : List Int)) [] [] (by kernel_rfl) (fun w _ => RowP.empty (fun _ => rfl)) ?_
    exact WP.ret [] [] (slcV (SkL.nil (fun _ => ())) ([] : List Int).length) (by kernel_rfl) (fun w' hw => ⟨(SkL.nil (fun _ => ())), rfl, (hw.pick [] (by kernel_rfl)).less (sub_ret [0] [1] (by kernel_rfl) (by kernel_rfl))⟩)
  | some p =>
    obtain ⟨b, o⟩ := p
    refine WP.seq ?_
    refine WP.run [] [0, 2] (fun _ => [(0, slcV (⟨some (b, o), c, s⟩ : SkL Unit) a0.length), (2, .slice none 0 0)]) (fun _ => []) (fun _ => []) (fun _ => by kernel_rfl) (fun _ => ?_)
    refine WP.seq ?_
    refine WP.seq ?_
    refine WP.run [] [0, 2, 4] (fun _ => [(0, slcV (⟨some (b, o), c, s⟩ : SkL Unit) a0.length), (2, .slice none 0 0), (4, .bool false)]) (fun _ => []) (fun _ => []) (fun _ => by kernel_rfl) (fun _ => ?_)
    refine WP.no rfl rfl ?_
    refine WP.skip ?_
    refine WP.seq ?_
    refine WP.region ?_
    refine WL.run 2 [] [2, 5, 6] (fun b1 => [(2, .slice none 0 0), (5, .slice (some ⟨b1, 0, none⟩) 0 0), (6, slcV (⟨some (b, o), c, s⟩ : SkL Unit) a0.length)]) (fun b1 => [(b1, .cells #[] 22 (0, 0))]) (fun b1 => []) (fun b1 => by kernel_rfl) (fun b1 => ?_)
    obtain ⟨u3, h2, hM⟩ := bind_some hM
    refine WL.appendCopy (A := (SkL.at b1 0 (fun _ => ()))) (B := (⟨some (b, o), c, s⟩ : SkL Unit)) (ys := a0) (n := 0) (m := 1) (by_ := 4) (e := 22) (z := .int .u32 0) (f := (pl (encI .u32))) (K := noK) (d := 7) rfl rfl (by kernel_rfl) (by kernel_rfl) (by kernel_rfl) (fun _ _ => rfl) (by kernel_rfl) (by kernel_rfl) rfl rfl (by kernel_rfl) (fact_at 0 rfl) h2 (by kernel_rfl) (fun A4 => ?_)
    refine WL.less (Φ' := [Row 1 (pl (encI .u32)) noK A4 a0, Row 1 (pl (encI .u32)) noK (⟨some (b, o), c, s⟩ : SkL Unit) a0] ++ Glob) (fun _ h => h) ?_
    refine WL.run 1 [] [2] (fun _ => [(2, slcV A4 a0.length)]) (fun _ => [(b1, .cells #[] 22 (0, 0))]) (fun _ => []) (fun _ => by kernel_rfl) (fun _ => ?_)
    refine WP.done ?_
    refine WP.keep [false] (by kernel_rfl : _ = []) ?_
    obtain rfl := Option.some.inj hM
    exact WP.ret [] [] (slcV A4 a0.length) (by kernel_rfl) (fun w' hw => ⟨A4, rfl, (hw.pick [] (by kernel_rfl)).less (sub_ret [0] [1] (by kernel_rfl) (by kernel_rfl))⟩)

end Go.Proofs.YtbodofjnfmjbpaaGreatDoor

namespace Go.Proofs.YtbodofjnfmjbpaaGreatDoor
open Go Eng
set_option linter.unusedVariables false
set_option linter.unusedSimpArgs false

/-! ### gangway/vni.first: function 79 -/
def vni_first.f (k : Nat) (a0 : (List api_Seg)) (a1 : Int) : Option (api_Seg × Bool) :=
  (api_Seg.f k a0 a1).bind fun r2 =>
  bif decide (r2 < 0) then
    some ((api_Seg.mk 0 0 ([] : List Int)), false)
  else
    (getL a0.length a0 r2).bind fun t5 =>
    (slices_Clone_uint32_uint32.f t5.Peers).bind fun r8 =>
    some ((api_Seg.mk t5.Vid t5.Vni r8), true)

set_option maxRecDepth 100000 in
theorem vni_first_calls (k : Nat) (b_0 : Nat) (A00 : SkL (SkL Unit)) (a0 : (List api_Seg)) (a1 : Int) (r : api_Seg × Bool) (h : vni_first.f k a0 a1 = some r) : Does Tryz.prog 79 #[slcV A00 a0.length, .func (.func 80) #[] #[.pointer (some ⟨b_0, 0, none⟩)]] [(b_0, .cells #[.int .i64 a1] 3 (0, 0))] ([Row 3 api_Seg.encS api_Seg.inK A00 a0] ++ Glob) (fun x : (SkL Unit) => .tuple #[.agg #[.int .i64 r.1.Vid, .int .i64 r.1.Vni, slcV x r.1.Peers.length], .bool r.2]) (fun x => [(b_0, .cells #[.int .i64 a1] 3 (0, 0))]) (fun _ => []) (fun x => [Row 1 (pl (encI .u32)) noK x r.1.Peers] ++ ([Row 3 api_Seg.encS api_Seg.inK A00 a0] ++ Glob)) := by
  intro w Z hS
  refine calls_of (args := [slcV A00 a0.length, .func (.func 80) #[] #[.pointer (some ⟨b_0, 0, none⟩)]]) (L := [(0, slcV A00 a0.length), (1, .func (.func 80) #[] #[.pointer (some ⟨b_0, 0, none⟩)])]) (N := 23) (S := Sat w Z [(b_0, .cells #[.int .i64 a1] 3 (0, 0))] [] ([Row 3 api_Seg.encS api_Seg.inK A00 a0] ++ Glob)) Tryz.func79 rfl rfl (Nat.le_of_ble_eq_true rfl) rfl hS ?_
  have hM := h
  clear h hS
  unfold vni_first.f at hM
  refine WP.seq ?_
  refine WP.run [] [0, 1, 4, 5] (fun b1 => [(0, slcV A00 a0.length), (1, .func (.func 80) #[] #[.pointer (some ⟨b_0, 0, none⟩)]), (4, .pointer (some ⟨b1, 0, none⟩)), (5, .bool false)]) (fun b1 => [(b_0, .cells #[.int .i64 a1] 3 (0, 0)), (b1, .cells #[.int .i64 0, .int .i64 0, .slice none 0 0] 35 (0, 0))]) (fun b1 => []) (fun b1 => by kernel_rfl) (fun b1 => ?_)
  refine WP.seq ?_
  refine WP.region ?_
  refine WL.run 2 [] [0, 4, 5, 8, 9] (fun _ => [(0, slcV A00 a0.length), (4, .pointer (some ⟨b1, 0, none⟩)), (5, .bool false), (8, slcV A00 a0.length), (9, .func (.func 80) #[] #[.pointer (some ⟨b_0, 0, none⟩)])]) (fun _ => [(b_0, .cells #[.int .i64 a1] 3 (0, 0)), (b1, .cells #[.int .i64 0, .int .i64 0, .slice none 0 0] 35 (0, 0))]) (fun _ => []) (fun _ => by kernel_rfl) (fun _ => ?_)
  obtain ⟨r2, h3, hM⟩ := bind_some hM
  refine WL.callE (X := Unit) [] [] [true, false] (fun _ => _) (api_Seg_calls k b_0 A00 a0 a1 _ h3) rfl rfl (sub_pick [0] (by kernel_rfl)) (by kernel_rfl) (by kernel_rfl) (fun _ => rfl) (fun _ => ?_)
  refine WL.run 1 [] [0, 4, 5, 6] (fun _ => [(0, slcV A00 a0.length), (4, .pointer (some ⟨b1, 0, none⟩)), (5, .bool false), (6, .int .i64 r2)]) (fun _ => [(b_0, .cells #[.int .i64 a1] 3 (0, 0)), (b1, .cells #[.int .i64 0, .int .i64 0, .slice none 0 0] 35 (0, 0))]) (fun _ => []) (fun _ => by kernel_rfl) (fun _ => ?_)
  refine WP.done ?_
  refine WP.seq ?_
  refine WP.seq ?_
  refine WP.run [] [0, 4, 5, 6, 12] (fun _ => [(0, slcV A00 a0.length), (4, .pointer (some ⟨b1, 0, none⟩)), (5, .bool false), (6, .int .i64 r2), (12, .bool (decide (r2 < 0)))]) (fun _ => [(b_0, .cells #[.int .i64 a1] 3 (0, 0)), (b1, .cells #[.int .i64 0, .int .i64 0, .slice none 0 0] 35 (0, 0))]) (fun _ => []) (fun _ => by kernel_rfl) (fun _ => ?_)
  refine WP.cond (decide (r2 < 0)) rfl rfl (fun c4 => ?_) (fun c4 => ?_)
  · replace hM := cond_t hM c4
    refine WP.seq ?_
    refine WP.run [1, 1, 1] [0, 4, 5, 6] (fun _ => [(0, slcV A00 a0.length), (4, .pointer (some ⟨b1, 0, none⟩)), (5, .bool false), (6, .int .i64 r2)]) (fun _ => [(b_0, .cells #[.int .i64 a1] 3 (0, 0)), (b1, .cells #[.int .i64 0, .int .i64 0, .slice none 0 0] 35 (0, 0))]) (fun _ => [b1, b1, b1]) (fun _ => by kernel_rfl) (fun _ => ?_)
    refine WP.know (Row 1 (pl (encI .u32)) noK (SkL.nil (fun _ => ())) ([] : List Int)) [] [] (by kernel_rfl) (fun w _ => RowP.empty (fun _ => rfl)) ?_
    obtain rfl := Option.some.inj hM
    exact WP.ret [1, 1, 1] [b1, b1, b1] (.tuple #[.agg #[.int .i64 0, .int .i64 0, slcV (SkL.nil (fun _ => ())) ([] : List Int).length], .bool false]) (by kernel_rfl) (fun w' hw => ⟨(SkL.nil (fun _ => ())), rfl, (hw.pick [0] (by kernel_rfl)).less (sub_ret [0] [1] (by kernel_rfl) (by kernel_rfl))⟩)
  · replace hM := cond_f hM c4
    refine WP.skip ?_
    refine WP.seq ?_
    refine WP.region ?_
    refine WL.run 2 [] [4, 5, 14, 15] (fun _ => [(4, .pointer (some ⟨b1, 0, none⟩)), (5, .bool false), (14, slcV A00 a0.length), (15, .int .i64 r2)]) (fun _ => [(b_0, .cells #[.int .i64 a1] 3 (0, 0)), (b1, .cells #[.int .i64 0, .int .i64 0, .slice none 0 0] 35 (0, 0))]) (fun _ => []) (fun _ => by kernel_rfl) (fun _ => ?_)
    obtain ⟨t5, h6, hM⟩ := bind_some hM
    refine WL.valF (φ := Row 3 api_Seg.encS api_Seg.inK A00 a0) (fact_at 0 rfl) (fun w hR => run_indexRowF (A := A00) (xs := a0) (i := r2) (k := .i64) (e := 35) (m := 3) (by kernel_rfl) (by kernel_rfl) h6 (by kernel_rfl) (by kernel_rfl) hR) (by kernel_rfl) (by kernel_rfl) rfl ?_
    refine WL.valF (φ := Row 3 api_Seg.encS api_Seg.inK A00 a0) (fact_at 0 rfl) (fun w hR => run_loadRowFA (A := A00) (xs := a0) (i := r2) (j := 0) (n := 3) (vs := [.int .i64 t5.Vid, .int .i64 t5.Vni, slcV (A00.s (Int.toNat r2)) t5.Peers.length]) h6 (fun _ => by kernel_rfl) (by kernel_rfl) (by kernel_rfl) (by kernel_rfl) rfl hR) (by kernel_rfl) (by kernel_rfl) rfl ?_
    refine WL.know (Row 1 (pl (encI .u32)) noK (A00.s (Int.toNat r2)) t5.Peers) [0] [Row 3 api_Seg.encS api_Seg.inK A00 a0] (by kernel_rfl) (fun w hψ => ((hψ _ (List.mem_singleton.2 rfl)).inner _ _ (getL_parts h6).2)) ?_
    refine WL.run 2 [2, 2, 2] [4, 5, 7] (fun b7 => [(4, .pointer (some ⟨b1, 0, none⟩)), (5, .bool false), (7, .pointer (some ⟨b7, 0, none⟩))]) (fun b7 => [(b_0, .cells #[.int .i64 a1] 3 (0, 0)), (b1, .cells #[.int .i64 0, .int .i64 0, .slice none 0 0] 35 (0, 0)), (b7, .cells #[.int .i64 t5.Vid, .int .i64 t5.Vni, slcV (A00.s (Int.toNat r2)) t5.Peers.length] 35 (0, 0))]) (fun b7 => [b7, b7, b7]) (fun b7 => by kernel_rfl) (fun b7 => ?_)
    refine WP.done ?_
    refine WP.seq ?_
    refine WP.region ?_
    refine WL.run 2 [2] [4, 5, 7, 19] (fun _ => [(4, .pointer (some ⟨b1, 0, none⟩)), (5, .bool false), (7, .pointer (some ⟨b7, 0, none⟩)), (19, slcV (A00.s (Int.toNat r2)) t5.Peers.length)]) (fun _ => [(b_0, .cells #[.int .i64 a1] 3 (0, 0)), (b1, .cells #[.int .i64 0, .int .i64 0, .slice none 0 0] 35 (0, 0)), (b7, .cells #[.int .i64 t5.Vid, .int .i64 t5.Vni, slcV (A00.s (Int.toNat r2)) t5.Peers.length] 35 (0, 0))]) (fun _ => [b7]) (fun _ => by kernel_rfl) (fun _ => ?_)
    obtain ⟨r8, h9, hM⟩ := bind_some hM
    refine WL.callX (F0 := [Row 1 (pl (encI .u32)) noK (A00.s (Int.toNat r2)) t5.Peers]) [] [] [false, false, false] (fun _ => _) [0] (by kernel_rfl) (slices_Clone_uint32_uint32_calls (A00.s (Int.toNat r2)) t5.Peers _ h9) rfl rfl (by kernel_rfl) (by kernel_rfl) (fun _ => rfl) (fun A10 => ?_)
    refine WL.run 2 [2] [4, 5, 7] (fun _ => [(4, .pointer (some ⟨b1, 0, none⟩)), (5, .bool false), (7, .pointer (some ⟨b7, 0, none⟩))]) (fun _ => [(b_0, .cells #[.int .i64 a1] 3 (0, 0)), (b1, .cells #[.int .i64 0, .int .i64 0, .slice none 0 0] 35 (0, 0)), (b7, .cells #[.int .i64 t5.Vid, .int .i64 t5.Vni, slcV A10 r8.length] 35 (0, 0))]) (fun _ => [b7]) (fun _ => by kernel_rfl) (fun _ => ?_)
    refine WP.done ?_
    refine WP.seq ?_
    refine WP.run [2, 2, 2, 1, 1, 1] [4, 5] (fun _ => [(4, .pointer (some ⟨b1, 0, none⟩)), (5, .bool true)]) (fun _ => [(b_0, .cells #[.int .i64 a1] 3 (0, 0)), (b1, .cells #[.int .i64 t5.Vid, .int .i64 t5.Vni, slcV A10 r8.length] 35 (0, 0)), (b7, .cells #[.int .i64 t5.Vid, .int .i64 t5.Vni, slcV A10 r8.length] 35 (0, 0))]) (fun _ => [b1, b1, b1, b7, b7, b7]) (fun _ => by kernel_rfl) (fun _ => ?_)
    refine WP.keep [true, true, false] (by kernel_rfl : _ = [(b_0, .cells #[.int .i64 a1] 3 (0, 0)), (b1, .cells #[.int .i64 t5.Vid, .int .i64 t5.Vni, slcV A10 r8.length] 35 (0, 0))]) ?_
    obtain rfl := Option.some.inj hM
    exact WP.ret [1, 1, 1] [b1, b1, b1] (.tuple #[.agg #[.int .i64 t5.Vid, .int .i64 t5.Vni, slcV A10 r8.length], .bool true]) (by kernel_rfl) (fun w' hw => ⟨A10, rfl, (hw.pick [0] (by kernel_rfl)).less (sub_ret [0] [2] (by kernel_rfl) (by kernel_rfl))⟩)

end Go.Proofs.YtbodofjnfmjbpaaGreatDoor

namespace Go.Proofs.YtbodofjnfmjbpaaGreatDoor
open Go Eng
set_option linter.unusedVariables false
set_option linter.unusedSimpArgs false

/-! ### gangway/vni.By: function 48 -/
def vni_By.f (k : Nat) (a0 : (List api_Seg)) (a1 : Int) : Option (api_Seg × Bool) :=
  (vni_first.f k a0 a1).bind fun (r2, r3) =>
  some (r2, r3)

set_option maxRecDepth 100000 in
theorem vni_By_calls (k : Nat) (A00 : SkL (SkL Unit)) (a0 : (List api_Seg)) (a1 : Int) (r : api_Seg × Bool) (h : vni_By.f k a0 a1 = some r) : Does Tryz.prog 48 #[slcV A00 a0.length, .int .i64 a1] [] ([Row 3 api_Seg.encS api_Seg.inK A00 a0] ++ Glob) (fun x : (SkL Unit) => .tuple #[.agg #[.int .i64 r.1.Vid, .int .i64 r.1.Vni, slcV x r.1.Peers.length], .bool r.2]) (fun x => []) (fun _ => []) (fun x => [Row 1 (pl (encI .u32)) noK x r.1.Peers] ++ ([Row 3 api_Seg.encS api_Seg.inK A00 a0] ++ Glob)) := by
  intro w Z hS
  refine calls_of (args := [slcV A00 a0.length, .int .i64 a1]) (L := [(0, slcV A00 a0.length), (1, .int .i64 a1)]) (N := 11) (S := Sat w Z [] [] ([Row 3 api_Seg.encS api_Seg.inK A00 a0] ++ Glob)) Tryz.func48 rfl rfl (Nat.le_of_ble_eq_true rfl) rfl hS ?_
  have hM := h
  clear h hS
  unfold vni_By.f at hM
  refine WP.seq ?_
  refine WP.run [] [0, 3, 4, 5] (fun b1 => [(0, slcV A00 a0.length), (3, .pointer (some ⟨b1, 0, none⟩)), (4, .pointer (some ⟨(b1 + 1), 0, none⟩)), (5, .bool false)]) (fun b1 => [(b1, .cells #[.int .i64 a1] 3 (0, 0)), ((b1 + 1), .cells #[.int .i64 0, .int .i64 0, .slice none 0 0] 35 (0, 0))]) (fun b1 => []) (fun b1 => by kernel_rfl) (fun b1 => ?_)
  refine WP.seq ?_
  refine WP.region ?_
  refine WL.run 2 [] [4, 5, 6, 7] (fun _ => [(4, .pointer (some ⟨(b1 + 1), 0, none⟩)), (5, .bool false), (6, slcV A00 a0.length), (7, .func (.func 80) #[] #[.pointer (some ⟨b1, 0, none⟩)])]) (fun _ => [(b1, .cells #[.int .i64 a1] 3 (0, 0)), ((b1 + 1), .cells #[.int .i64 0, .int .i64 0, .slice none 0 0] 35 (0, 0))]) (fun _ => []) (fun _ => by kernel_rfl) (fun _ => ?_)
  obtain ⟨⟨r2, r3⟩, h4, hM⟩ := bind_some hM
  dsimp only at hM
  refine WL.callX (F0 := [Row 3 api_Seg.encS api_Seg.inK A00 a0]) [] [] [true, false] (fun _ => _) [0] (by kernel_rfl) (vni_first_calls k b1 A00 a0 a1 _ h4) rfl rfl (by kernel_rfl) (by kernel_rfl) (fun _ => rfl) (fun A5 => ?_)
  refine WL.run 4 [1, 1, 1] [4, 5] (fun _ => [(4, .pointer (some ⟨(b1 + 1), 0, none⟩)), (5, .bool r3)]) (fun _ => [(b1, .cells #[.int .i64 a1] 3 (0, 0)), ((b1 + 1), .cells #[.int .i64 r2.Vid, .int .i64 r2.Vni, slcV A5 r2.Peers.length] 35 (0, 0))]) (fun _ => [(b1 + 1), (b1 + 1), (b1 + 1)]) (fun _ => by kernel_rfl) (fun _ => ?_)
  refine WP.done ?_
  refine WP.keep [false, true] (by kernel_rfl : _ = [((b1 + 1), .cells #[.int .i64 r2.Vid, .int .i64 r2.Vni, slcV A5 r2.Peers.length] 35 (0, 0))]) ?_
  obtain rfl := Option.some.inj hM
  exact WP.ret [0, 0, 0] [(b1 + 1), (b1 + 1), (b1 + 1)] (.tuple #[.agg #[.int .i64 r2.Vid, .int .i64 r2.Vni, slcV A5 r2.Peers.length], .bool r3]) (by kernel_rfl) (fun w' hw => ⟨A5, rfl, (hw.pick [] (by kernel_rfl)).less (sub_ret [0] [1] (by kernel_rfl) (by kernel_rfl))⟩)

end Go.Proofs.YtbodofjnfmjbpaaGreatDoor

namespace Go.Proofs.YtbodofjnfmjbpaaGreatDoor
open Go Eng
set_option linter.unusedVariables false
set_option linter.unusedSimpArgs false

/-! ### slices.Index[[]uint32,uint32]: function 105 -/
def slices_Index_uint32_uint32.l1 (a0 : (List Int)) (a1 : Int) : Nat → Int → Int → Option (Int)
  | 0, _, _ => none
  | n + 1, x1, x2 =>
    bif decide (x2 < (a0.length : Int)) then
      (getL a0.length a0 x2).bind fun t4 =>
      bif (a1 == t4) then
        some x2
      else
        slices_Index_uint32_uint32.l1 a0 a1 n x1 (i64 (x2 + 1))
    else
      some (-1)

def slices_Index_uint32_uint32.f (k : Nat) (a0 : (List Int)) (a1 : Int) : Option (Int) :=
  slices_Index_uint32_uint32.l1 a0 a1 k 0 0

set_option maxRecDepth 100000 in
theorem slices_Index_uint32_uint32_calls (k : Nat) (A00 : SkL Unit) (a0 : (List Int)) (a1 : Int) (r : Int) (h : slices_Index_uint32_uint32.f k a0 a1 = some r) : Pure Tryz.prog ([Row 1 (pl (encI .u32)) noK A00 a0] ++ Glob) 105 #[slcV A00 a0.length, .int .u32 a1] (.int .i64 r) := by
  intro w Z hS
  refine calls_of (args := [slcV A00 a0.length, .int .u32 a1]) (L := [(0, slcV A00 a0.length), (1, .int .u32 a1)]) (N := 19) (S := Sat w Z [] [] ([Row 1 (pl (encI .u32)) noK A00 a0] ++ Glob)) Tryz.func105 rfl rfl (Nat.le_of_ble_eq_true rfl) rfl hS ?_
  have hM := h
  clear h hS
  unfold slices_Index_uint32_uint32.f at hM
  refine WP.seq ?_
  refine WP.run [] [0, 1, 4] (fun _ => [(0, slcV A00 a0.length), (1, .int .u32 a1), (4, .int .i64 0)]) (fun _ => []) (fun _ => []) (fun _ => by kernel_rfl) (fun _ => ?_)
  refine WP.seq ?_
  refine WP.seq ?_
  refine WP.run [] [0, 1, 4, 7, 8] (fun _ => [(0, slcV A00 a0.length), (1, .int .u32 a1), (4, .int .i64 0), (7, .int .i64 (a0.length : Int)), (8, .int .i64 0)]) (fun _ => []) (fun _ => []) (fun _ => by kernel_rfl) (fun _ => ?_)
  refine WP.block ?_
  refine WP.sub [0, 1, 4, 7, 8] (L' := [(0, slcV A00 a0.length), (1, .int .u32 a1), (4, .int .i64 0), (7, .int .i64 (a0.length : Int)), (8, .int .i64 0)]) (by kernel_rfl) ?_
  refine WP.lessF [0] (F' := [Row 1 (pl (encI .u32)) noK A00 a0]) (by kernel_rfl) ?_
  refine WP.loop (σ := Int × Int) (fun n st => slices_Index_uint32_uint32.l1 a0 a1 n st.1 st.2) r (fun st => [(0, slcV A00 a0.length), (1, .int .u32 a1), (4, .int .i64 st.1), (7, .int .i64 (a0.length : Int)), (8, .int .i64 st.2)]) (fun st => Sat w Z [] [] ([Row 1 (pl (encI .u32)) noK A00 a0] ++ Glob)) (st := (0, 0)) (fun n st hM => ?_) hM
  rcases n with _ | n
  · exact nomatch (show (none : Option _) = some r from hM)
  obtain ⟨x1, x2⟩ := st
  replace hM : slices_Index_uint32_uint32.l1 a0 a1 (n + 1) x1 x2 = some r := hM
  rw [slices_Index_uint32_uint32.l1] at hM
  show WP _ _ _ _ _ [(0, slcV A00 a0.length), (1, .int .u32 a1), (4, .int .i64 x1), (7, .int .i64 (a0.length : Int)), (8, .int .i64 x2)] (Sat w Z [] [] ([Row 1 (pl (encI .u32)) noK A00 a0] ++ Glob))
  refine WP.seq ?_
  refine WP.run [] [0, 1, 4, 7, 8, 9] (fun _ => [(0, slcV A00 a0.length), (1, .int .u32 a1), (4, .int .i64 x1), (7, .int .i64 (a0.length : Int)), (8, .int .i64 x2), (9, .bool (decide (x2 < (a0.length : Int))))]) (fun _ => []) (fun _ => []) (fun _ => by kernel_rfl) (fun _ => ?_)
  refine WP.seq ?_
  refine WP.cond (decide (x2 < (a0.length : Int))) rfl rfl (fun c3 => ?_) (fun c3 => ?_)
  · replace hM := cond_t hM c3
    refine WP.skip ?_
    refine WP.seq ?_
    refine WP.block ?_
    refine WP.seq ?_
    refine WP.run [] [0, 1, 4, 5, 7, 8, 9, 10] (fun _ => [(0, slcV A00 a0.length), (1, .int .u32 a1), (4, .int .i64 x1), (5, .int .i64 x2), (7, .int .i64 (a0.length : Int)), (8, .int .i64 x2), (9, .bool (decide (x2 < (a0.length : Int)))), (10, .int .i64 x2)]) (fun _ => []) (fun _ => []) (fun _ => by kernel_rfl) (fun _ => ?_)
    refine WP.seq ?_
    refine WP.region ?_
    refine WL.run 3 [] [0, 1, 4, 5, 7, 8, 9, 10, 11, 12, 13] (fun _ => [(0, slcV A00 a0.length), (1, .int .u32 a1), (4, .int .i64 x1), (5, .int .i64 x2), (7, .int .i64 (a0.length : Int)), (8, .int .i64 x2), (9, .bool (decide (x2 < (a0.length : Int)))), (10, .int .i64 x2), (11, .int .u32 a1), (12, slcV A00 a0.length), (13, .int .i64 x2)]) (fun _ => []) (fun _ => []) (fun _ => by kernel_rfl) (fun _ => ?_)
    obtain ⟨t4, h5, hM⟩ := bind_some hM
    refine WL.valF (φ := Row 1 (pl (encI .u32)) noK A00 a0) (fact_at 0 rfl) (fun w hR => run_indexRowF (A := A00) (xs := a0) (i := x2) (k := .i64) (e := 22) (m := 1) (by kernel_rfl) (by kernel_rfl) h5 (by kernel_rfl) (by kernel_rfl) hR) (by kernel_rfl) (by kernel_rfl) rfl ?_
    refine WL.valF (φ := Row 1 (pl (encI .u32)) noK A00 a0) (fact_at 0 rfl) (fun w hR => run_loadRowF (A := A00) (xs := a0) (i := x2) (j := 0) (v := .int .u32 t4) h5 (fun _ => by kernel_rfl) (by kernel_rfl) (by kernel_rfl) hR) (by kernel_rfl) (by kernel_rfl) rfl ?_
    refine WL.run 1 [] [0, 1, 4, 5, 7, 8, 9, 10, 11, 12, 13, 14, 15, 16] (fun _ => [(0, slcV A00 a0.length), (1, .int .u32 a1), (4, .int .i64 x1), (5, .int .i64 x2), (7, .int .i64 (a0.length : Int)), (8, .int .i64 x2), (9, .bool (decide (x2 < (a0.length : Int)))), (10, .int .i64 x2), (11, .int .u32 a1), (12, slcV A00 a0.length), (13, .int .i64 x2), (14, ptrV A00 (Int.toNat x2 * 1 + 0)), (15, .int .u32 t4), (16, .bool (a1 == t4))]) (fun _ => []) (fun _ => []) (fun _ => by kernel_rfl) (fun _ => ?_)
    refine WP.done ?_
    refine WP.cond (a1 == t4) rfl rfl (fun c6 => ?_) (fun c6 => ?_)
    · replace hM := cond_t hM c6
      refine WP.seq ?_
      refine WP.run [] [0, 1, 4, 5, 7, 8, 9, 10, 11, 12, 13, 14, 15, 16, 17] (fun _ => [(0, slcV A00 a0.length), (1, .int .u32 a1), (4, .int .i64 x2), (5, .int .i64 x2), (7, .int .i64 (a0.length : Int)), (8, .int .i64 x2), (9, .bool (decide (x2 < (a0.length : Int)))), (10, .int .i64 x2), (11, .int .u32 a1), (12, slcV A00 a0.length), (13, .int .i64 x2), (14, ptrV A00 (Int.toNat x2 * 1 + 0)), (15, .int .u32 t4), (16, .bool (a1 == t4)), (17, .int .i64 x2)]) (fun _ => []) (fun _ => []) (fun _ => by kernel_rfl) (fun _ => ?_)
      obtain rfl := Option.some.inj hM
      exact WP.ret [] [] (.int .i64 x2) (by kernel_rfl) (fun w' hw => ⟨rfl, (hw.pick [] rfl).lessF [0] (by kernel_rfl)⟩)
    · replace hM := cond_f hM c6
      refine WP.skip ?_
      refine WP.leave ?_
      refine WP.run [] [0, 1, 4, 5, 7, 8, 9, 10, 11, 12, 13, 14, 15, 16, 18] (fun _ => [(0, slcV A00 a0.length), (1, .int .u32 a1), (4, .int .i64 x1), (5, .int .i64 x2), (7, .int .i64 (a0.length : Int)), (8, .int .i64 (i64 (x2 + 1))), (9, .bool (decide (x2 < (a0.length : Int)))), (10, .int .i64 x2), (11, .int .u32 a1), (12, slcV A00 a0.length), (13, .int .i64 x2), (14, ptrV A00 (Int.toNat x2 * 1 + 0)), (15, .int .u32 t4), (16, .bool (a1 == t4)), (18, .int .i64 (i64 (x2 + 1)))]) (fun _ => []) (fun _ => []) (fun _ => by kernel_rfl) (fun _ => ?_)
      exact WP.again' [0, 1, 4, 7, 8] (x1, i64 (x2 + 1)) hM (by kernel_rfl) (fun _ h => (h.pick [] (by kernel_rfl)).lessF [0] (by kernel_rfl))
  · replace hM := cond_f hM c3
    refine WP.exit rfl ?_
    refine WP.seq ?_
    refine WP.run [] [4] (fun _ => [(4, .int .i64 (-1))]) (fun _ => []) (fun _ => []) (fun _ => by kernel_rfl) (fun _ => ?_)
    obtain rfl := Option.some.inj hM
    exact WP.ret [] [] (.int .i64 (-1)) (by kernel_rfl) (fun w' hw => ⟨rfl, (hw.pick [] rfl).lessF [0] (by kernel_rfl)⟩)

end Go.Proofs.YtbodofjnfmjbpaaGreatDoor

namespace Go.Proofs.YtbodofjnfmjbpaaGreatDoor
open Go Eng
set_option linter.unusedVariables false
set_option linter.unusedSimpArgs false

/-! ### slices.Contains[[]uint32,uint32]: function 81 -/
def slices_Contains_uint32_uint32.f (k : Nat) (a0 : (List Int)) (a1 : Int) : Option (Bool) :=
  (slices_Index_uint32_uint32.f k a0 a1).bind fun r1 =>
  some (decide (r1 ≥ 0))

set_option maxRecDepth 100000 in
theorem slices_Contains_uint32_uint32_calls (k : Nat) (A00 : SkL Unit) (a0 : (List Int)) (a1 : Int) (r : Bool) (h : slices_Contains_uint32_uint32.f k a0 a1 = some r) : Pure Tryz.prog ([Row 1 (pl (encI .u32)) noK A00 a0] ++ Glob) 81 #[slcV A00 a0.length, .int .u32 a1] (.bool r) := by
  intro w Z hS
  refine calls_of (args := [slcV A00 a0.length, .int .u32 a1]) (L := [(0, slcV A00 a0.length), (1, .int .u32 a1)]) (N := 9) (S := Sat w Z [] [] ([Row 1 (pl (encI .u32)) noK A00 a0] ++ Glob)) Tryz.func81 rfl rfl (Nat.le_of_ble_eq_true rfl) rfl hS ?_
  have hM := h
  clear h hS
  unfold slices_Contains_uint32_uint32.f at hM
  refine WP.seq ?_
  refine WP.run [] [0, 1, 4] (fun _ => [(0, slcV A00 a0.length), (1, .int .u32 a1), (4, .bool false)]) (fun _ => []) (fun _ => []) (fun _ => by kernel_rfl) (fun _ => ?_)
  refine WP.seq ?_
  refine WP.region ?_
  refine WL.run 2 [] [4, 5, 6] (fun _ => [(4, .bool false), (5, slcV A00 a0.length), (6, .int .u32 a1)]) (fun _ => []) (fun _ => []) (fun _ => by kernel_rfl) (fun _ => ?_)
  obtain ⟨r1, h2, hM⟩ := bind_some hM
  refine WL.callP [] [] (slices_Index_uint32_uint32_calls k A00 a0 a1 _ h2) (sub_pick [0] (by kernel_rfl)) (by kernel_rfl) (by kernel_rfl) rfl ?_
  refine WL.run 2 [] [4] (fun _ => [(4, .bool (decide (r1 ≥ 0)))]) (fun _ => []) (fun _ => []) (fun _ => by kernel_rfl) (fun _ => ?_)
  refine WP.done ?_
  obtain rfl := Option.some.inj hM
  exact WP.ret [] [] (.bool (decide (r1 ≥ 0))) (by kernel_rfl) (fun w' hw => ⟨rfl, (hw.pick [] rfl).lessF [0] (by kernel_rfl)⟩)

end Go.Proofs.YtbodofjnfmjbpaaGreatDoor

namespace Go.Proofs.YtbodofjnfmjbpaaGreatDoor
open Go Eng
set_option linter.unusedVariables false
set_option linter.unusedSimpArgs false

/-! ### gangway/vni.Peer: function 49 -/
def vni_Peer.k1 (x9 : Bool) : Option (Bool) :=
  some x9

def vni_Peer.f (k : Nat) (a0 : (List api_Seg)) (a1 : Int) (a2 : Int) : Option (Bool) :=
  (vni_By.f k a0 a1).bind fun (r1, r2) =>
  bif r2 then
    (slices_Contains_uint32_uint32.f k r1.Peers a2).bind fun r7 =>
    vni_Peer.k1 r7
  else
    vni_Peer.k1 false

set_option maxRecDepth 100000 in
theorem vni_Peer_calls (k : Nat) (A00 : SkL (SkL Unit)) (a0 : (List api_Seg)) (a1 : Int) (a2 : Int) (r : Bool) (h : vni_Peer.f k a0 a1 a2 = some r) : Pure Tryz.prog ([Row 3 api_Seg.encS api_Seg.inK A00 a0] ++ Glob) 49 #[slcV A00 a0.length, .int .i64 a1, .int .u32 a2] (.bool r) := by
  intro w Z hS
  refine calls_of (args := [slcV A00 a0.length, .int .i64 a1, .int .u32 a2]) (L := [(0, slcV A00 a0.length), (1, .int .i64 a1), (2, .int .u32 a2)]) (N := 22) (S := Sat w Z [] [] ([Row 3 api_Seg.encS api_Seg.inK A00 a0] ++ Glob)) Tryz.func49 rfl rfl (Nat.le_of_ble_eq_true rfl) rfl hS ?_
  have hM := h
  clear h hS
  unfold vni_Peer.f at hM
  refine WP.seq ?_
  refine WP.run [] [0, 1, 2, 6] (fun _ => [(0, slcV A00 a0.length), (1, .int .i64 a1), (2, .int .u32 a2), (6, .bool false)]) (fun _ => []) (fun _ => []) (fun _ => by kernel_rfl) (fun _ => ?_)
  refine WP.seq ?_
  refine WP.region ?_
  refine WL.run 2 [] [2, 6, 10, 11] (fun _ => [(2, .int .u32 a2), (6, .bool false), (10, slcV A00 a0.length), (11, .int .i64 a1)]) (fun _ => []) (fun _ => []) (fun _ => by kernel_rfl) (fun _ => ?_)
  obtain ⟨⟨r1, r2⟩, h3, hM⟩ := bind_some hM
  dsimp only at hM
  refine WL.callX (F0 := [Row 3 api_Seg.encS api_Seg.inK A00 a0]) [] [] [] (fun _ => _) [0] (by kernel_rfl) (vni_By_calls k A00 a0 a1 _ h3) rfl rfl (by kernel_rfl) (by kernel_rfl) (fun _ => rfl) (fun A4 => ?_)
  refine WL.run 6 [0, 0, 0] [2, 6, 7, 8] (fun b5 => [(2, .int .u32 a2), (6, .bool false), (7, .pointer (some ⟨b5, 0, none⟩)), (8, .bool r2)]) (fun b5 => [(b5, .cells #[.int .i64 r1.Vid, .int .i64 r1.Vni, slcV A4 r1.Peers.length] 35 (0, 0))]) (fun b5 => [b5, b5, b5]) (fun b5 => by kernel_rfl) (fun b5 => ?_)
  refine WP.done ?_
  refine WP.seq ?_
  refine WP.region ?_
  refine WL.run 2 [] [2, 6, 7, 16] (fun _ => [(2, .int .u32 a2), (6, .bool false), (7, .pointer (some ⟨b5, 0, none⟩)), (16, .bool r2)]) (fun _ => [(b5, .cells #[.int .i64 r1.Vid, .int .i64 r1.Vni, slcV A4 r1.Peers.length] 35 (0, 0))]) (fun _ => []) (fun _ => by kernel_rfl) (fun _ => ?_)
  refine WL.sub [2, 6, 7, 16] (L' := [(2, .int .u32 a2), (6, .bool false), (7, .pointer (some ⟨b5, 0, none⟩)), (16, .bool r2)]) (by kernel_rfl) ?_
  refine WL.join (σ := Bool) 5 (fun st => vni_Peer.k1 st = some r) (fun st => [(6, .bool false), (21, .bool st)]) (fun st => Sat w Z [] [] ([Row 1 (pl (encI .u32)) noK A4 r1.Peers, Row 3 api_Seg.encS api_Seg.inK A00 a0] ++ Glob)) (fun st hM => ?_) (fun K1 => ?_)
  ·
    obtain ⟨x9, rfl⟩ : ∃ y, y = st := ⟨st, rfl⟩
    replace hM : vni_Peer.k1 x9 = some r := hM
    unfold vni_Peer.k1 at hM
    show WL _ _ _ _ _ [(6, .bool false), (21, .bool x9)] (Sat w Z [] [] ([Row 1 (pl (encI .u32)) noK A4 r1.Peers, Row 3 api_Seg.encS api_Seg.inK A00 a0] ++ Glob))
    refine WL.run 1 [] [6] (fun _ => [(6, .bool x9)]) (fun _ => []) (fun _ => []) (fun _ => by kernel_rfl) (fun _ => ?_)
    refine WP.done ?_
    obtain rfl := Option.some.inj hM
    exact WP.ret [] [] (.bool x9) (by kernel_rfl) (fun w' hw => ⟨rfl, (hw.pick [] rfl).lessF [1] (by kernel_rfl)⟩)
  ·
    refine WL.split (fun b' => [(2, .int .u32 a2), (6, .bool false), (7, .pointer (some ⟨b5, 0, none⟩)), (16, .bool b')]) r2 (fun c6 => ?_) (fun c6 => ?_)
    · replace hM := cond_t hM c6
      refine WL.run 3 [0] [6, 16, 18, 19] (fun _ => [(6, .bool false), (16, .bool true), (18, slcV A4 r1.Peers.length), (19, .int .u32 a2)]) (fun _ => [(b5, .cells #[.int .i64 r1.Vid, .int .i64 r1.Vni, slcV A4 r1.Peers.length] 35 (0, 0))]) (fun _ => [b5]) (fun _ => by kernel_rfl) (fun _ => ?_)
      obtain ⟨r7, h8, hM⟩ := bind_some hM
      refine WL.callP [] [] (slices_Contains_uint32_uint32_calls k A4 r1.Peers a2 _ h8) (sub_pick [0] (by kernel_rfl)) (by kernel_rfl) (by kernel_rfl) rfl ?_
      refine WL.run 1 [] [6, 21] (fun _ => [(6, .bool false), (21, .bool r7)]) (fun _ => [(b5, .cells #[.int .i64 r1.Vid, .int .i64 r1.Vni, slcV A4 r1.Peers.length] 35 (0, 0))]) (fun _ => []) (fun _ => by kernel_rfl) (fun _ => ?_)
      exact WL.sub [6, 21] (by kernel_rfl) (WL.pick [] (by kernel_rfl) (by kernel_rfl) (WL.lessF [0, 1] (by kernel_rfl) (K1 r7 hM)))
    · replace hM := cond_f hM c6
      refine WL.run 5 [] [6, 21] (fun _ => [(6, .bool false), (21, .bool false)]) (fun _ => [(b5, .cells #[.int .i64 r1.Vid, .int .i64 r1.Vni, slcV A4 r1.Peers.length] 35 (0, 0))]) (fun _ => []) (fun _ => by kernel_rfl) (fun _ => ?_)
      exact WL.sub [6, 21] (by kernel_rfl) (WL.pick [] (by kernel_rfl) (by kernel_rfl) (WL.lessF [0, 1] (by kernel_rfl) (K1 false hM)))

end Go.Proofs.YtbodofjnfmjbpaaGreatDoor

namespace Go.Proofs.YtbodofjnfmjbpaaGreatDoor
open Go Eng
set_option linter.unusedVariables false
set_option linter.unusedSimpArgs false

/-! ### (*gangway/ether.reader).get: function 106 -/
def ether_reader_get.f (k : Nat) (a0 : ether_reader) (a1 : Int) (a2 : ByteArray) : Option (Int × Un1 × ether_reader) :=
  (octets_Get.f k a0.s a0.at_ a1).bind fun (r1, r2) =>
  bif (r2 != 0) then
    some (0, some (a2, 40), a0)
  else
    some (r1, none, (ether_reader.mk a0.s (i64 (a0.at_ + a1))))

set_option maxRecDepth 100000 in
theorem ether_reader_get_calls (k : Nat) (b_0 : Nat) (a0 : ether_reader) (a1 : Int) (a2 : ByteArray) (r : Int × Un1 × ether_reader) (h : ether_reader_get.f k a0 a1 a2 = some r) : Does Tryz.prog 106 #[.pointer (some ⟨b_0, 0, none⟩), .int .i64 a1, .string a2] [(b_0, .cells #[.string a0.s, .int .i64 a0.at_] 132 (0, 0))] Glob (fun _ : Unit => .tuple #[.int .u64 r.1, Un1.v r.2.1]) (fun _ => [(b_0, .cells #[.string r.2.2.s, .int .i64 r.2.2.at_] 132 (0, 0))]) (fun _ => []) (fun _ => Glob) := by
  intro w Z hS
  refine calls_of (args := [.pointer (some ⟨b_0, 0, none⟩), .int .i64 a1, .string a2]) (L := [(0, .pointer (some ⟨b_0, 0, none⟩)), (1, .int .i64 a1), (2, .string a2)]) (N := 38) (S := Sat w Z [(b_0, .cells #[.string a0.s, .int .i64 a0.at_] 132 (0, 0))] [] Glob) Tryz.func106 rfl rfl (Nat.le_of_ble_eq_true rfl) rfl hS ?_
  have hM := h
  clear h hS
  unfold ether_reader_get.f at hM
  refine WP.seq ?_
  refine WP.run [] [0, 1, 2, 6, 7] (fun _ => [(0, .pointer (some ⟨b_0, 0, none⟩)), (1, .int .i64 a1), (2, .string a2), (6, .int .u64 0), (7, .nilIface)]) (fun _ => [(b_0, .cells #[.string a0.s, .int .i64 a0.at_] 132 (0, 0))]) (fun _ => []) (fun _ => by kernel_rfl) (fun _ => ?_)
  refine WP.seq ?_
  refine WP.quiet (by kernel_rfl) (by kernel_rfl) ?_
  refine QL.run 9 [0, 0] [0, 1, 2, 6, 7, 14, 18, 19] [b_0, b_0] [(0, .pointer (some ⟨b_0, 0, none⟩)), (1, .int .i64 a1), (2, .string a2), (6, .int .u64 0), (7, .nilIface), (14, .string a0.s), (18, .int .i64 a0.at_), (19, .int .i64 a1)] (by kernel_rfl) ?_
  obtain ⟨⟨r1, r2⟩, h3, hM⟩ := bind_some hM
  dsimp only at hM
  refine QL.callP [] [] (octets_Get_calls k a0.s a0.at_ a1 _ h3) (fun _ h => h) (by kernel_rfl) (by kernel_rfl) rfl ?_
  refine QL.run 5 [] [0, 1, 2, 6, 7, 8, 9] [] [(0, .pointer (some ⟨b_0, 0, none⟩)), (1, .int .i64 a1), (2, .string a2), (6, .int .u64 0), (7, .nilIface), (8, .int .u64 r1), (9, .int .i64 r2)] (by kernel_rfl) ?_
  refine QL.done ?_
  refine WP.seq ?_
  refine WP.seq ?_
  refine WP.run [] [0, 1, 2, 6, 7, 8, 24] (fun _ => [(0, .pointer (some ⟨b_0, 0, none⟩)), (1, .int .i64 a1), (2, .string a2), (6, .int .u64 0), (7, .nilIface), (8, .int .u64 r1), (24, .bool (r2 != 0))]) (fun _ => [(b_0, .cells #[.string a0.s, .int .i64 a0.at_] 132 (0, 0))]) (fun _ => []) (fun _ => by kernel_rfl) (fun _ => ?_)
  refine WP.cond (r2 != 0) rfl rfl (fun c4 => ?_) (fun c4 => ?_)
  · replace hM := cond_t hM c4
    refine WP.seq ?_
    refine WP.run [] [0, 1, 6, 7, 8] (fun _ => [(0, .pointer (some ⟨b_0, 0, none⟩)), (1, .int .i64 a1), (6, .int .u64 0), (7, .iface 183 (.agg #[.string a2, .iface 30 (.int .i64 40)])), (8, .int .u64 r1)]) (fun _ => [(b_0, .cells #[.string a0.s, .int .i64 a0.at_] 132 (0, 0))]) (fun _ => []) (fun _ => by kernel_rfl) (fun _ => ?_)
    obtain rfl := Option.some.inj hM
    exact WP.ret [] [] (.tuple #[.int .u64 0, .iface 183 (.agg #[.string a2, .iface 30 (.int .i64 40)])]) (by kernel_rfl) (fun w' hw => ⟨(), rfl, hw.pick [0] (by kernel_rfl)⟩)
  · replace hM := cond_f hM c4
    refine WP.skip ?_
    refine WP.seq ?_
    refine WP.run [0, 0] [6, 7, 8] (fun _ => [(6, .int .u64 0), (7, .nilIface), (8, .int .u64 r1)]) (fun _ => [(b_0, .cells #[.string a0.s, .int .i64 (i64 (a0.at_ + a1))] 132 (0, 0))]) (fun _ => [b_0, b_0]) (fun _ => by kernel_rfl) (fun _ => ?_)
    refine WP.seq ?_
    refine WP.run [] [6, 7] (fun _ => [(6, .int .u64 r1), (7, .nilIface)]) (fun _ => [(b_0, .cells #[.string a0.s, .int .i64 (i64 (a0.at_ + a1))] 132 (0, 0))]) (fun _ => []) (fun _ => by kernel_rfl) (fun _ => ?_)
    obtain rfl := Option.some.inj hM
    exact WP.ret [] [] (.tuple #[.int .u64 r1, .nilIface]) (by kernel_rfl) (fun w' hw => ⟨(), rfl, hw.pick [0] (by kernel_rfl)⟩)

end Go.Proofs.YtbodofjnfmjbpaaGreatDoor

namespace Go.Proofs.YtbodofjnfmjbpaaGreatDoor
open Go Eng
set_option linter.unusedVariables false
set_option linter.unusedSimpArgs false

/-! ### (*gangway/ether.reader).tagged: function 107 -/
def ether_reader_tagged.f (k : Nat) (a0 : ether_reader) (a1 : api_Frame) : Option (Int × Un1 × ether_reader × api_Frame) :=
  (ether_reader_get.f k a0 2 (⟨#[116, 97, 103]⟩ : ByteArray)).bind fun (r1, r2, r3) =>
  match r2 with
  | none =>
    (ether_reader_get.f k r3 2 (⟨#[116, 121, 112, 101]⟩ : ByteArray)).bind fun (r7, r8, r9) =>
    match r8 with
    | none =>
      some (i64 r7, none, r9, (api_Frame.mk a1.Dst a1.Src (api_Tag.mk true (Int.fdiv (i64 r1) 8192) ((bAnd .i64 (i64 r1) 4096) != 0) (Int.tmod (i64 r1) 4096)) a1.Type_ a1.Body))
    | some (q11, q12) =>
      some (i64 r7, some (q11, q12), r9, (api_Frame.mk a1.Dst a1.Src (api_Tag.mk true (Int.fdiv (i64 r1) 8192) ((bAnd .i64 (i64 r1) 4096) != 0) (Int.tmod (i64 r1) 4096)) a1.Type_ a1.Body))
  | some (q5, q6) =>
    some (0, some (q5, q6), r3, a1)

set_option maxRecDepth 100000 in
theorem ether_reader_tagged_calls (k : Nat) (b_0 : Nat) (b_1 : Nat) (a0 : ether_reader) (a1 : api_Frame) (r : Int × Un1 × ether_reader × api_Frame) (h : ether_reader_tagged.f k a0 a1 = some r) : Does Tryz.prog 107 #[.pointer (some ⟨b_0, 0, none⟩), .pointer (some ⟨b_1, 0, none⟩)] [(b_0, .cells #[.string a0.s, .int .i64 a0.at_] 132 (0, 0)), (b_1, .cells #[.int .u64 a1.Dst, .int .u64 a1.Src, .bool a1.Tag.Has, .int .i64 a1.Tag.Pri, .bool a1.Tag.Dei, .int .i64 a1.Tag.Vid, .int .i64 a1.Type_, .string a1.Body] 29 (0, 0))] Glob (fun _ : Unit => .tuple #[.int .i64 r.1, Un1.v r.2.1]) (fun _ => [(b_0, .cells #[.string r.2.2.1.s, .int .i64 r.2.2.1.at_] 132 (0, 0)), (b_1, .cells #[.int .u64 r.2.2.2.Dst, .int .u64 r.2.2.2.Src, .bool r.2.2.2.Tag.Has, .int .i64 r.2.2.2.Tag.Pri, .bool r.2.2.2.Tag.Dei, .int .i64 r.2.2.2.Tag.Vid, .int .i64 r.2.2.2.Type_, .string r.2.2.2.Body] 29 (0, 0))]) (fun _ => []) (fun _ => Glob) := by
  intro w Z hS
  refine calls_of (args := [.pointer (some ⟨b_0, 0, none⟩), .pointer (some ⟨b_1, 0, none⟩)]) (L := [(0, .pointer (some ⟨b_0, 0, none⟩)), (1, .pointer (some ⟨b_1, 0, none⟩))]) (N := 39) (S := Sat w Z [(b_0, .cells #[.string a0.s, .int .i64 a0.at_] 132 (0, 0)), (b_1, .cells #[.int .u64 a1.Dst, .int .u64 a1.Src, .bool a1.Tag.Has, .int .i64 a1.Tag.Pri, .bool a1.Tag.Dei, .int .i64 a1.Tag.Vid, .int .i64 a1.Type_, .string a1.Body] 29 (0, 0))] [] Glob) Tryz.func107 rfl rfl (Nat.le_of_ble_eq_true rfl) rfl hS ?_
  have hM := h
  clear h hS
  unfold ether_reader_tagged.f at hM
  refine WP.seq ?_
  refine WP.run [] [0, 1, 4, 5] (fun _ => [(0, .pointer (some ⟨b_0, 0, none⟩)), (1, .pointer (some ⟨b_1, 0, none⟩)), (4, .int .i64 0), (5, .nilIface)]) (fun _ => [(b_0, .cells #[.string a0.s, .int .i64 a0.at_] 132 (0, 0)), (b_1, .cells #[.int .u64 a1.Dst, .int .u64 a1.Src, .bool a1.Tag.Has, .int .i64 a1.Tag.Pri, .bool a1.Tag.Dei, .int .i64 a1.Tag.Vid, .int .i64 a1.Type_, .string a1.Body] 29 (0, 0))]) (fun _ => []) (fun _ => by kernel_rfl) (fun _ => ?_)
  refine WP.seq ?_
  refine WP.region ?_
  refine WL.run 1 [] [0, 1, 4, 5, 11] (fun _ => [(0, .pointer (some ⟨b_0, 0, none⟩)), (1, .pointer (some ⟨b_1, 0, none⟩)), (4, .int .i64 0), (5, .nilIface), (11, .pointer (some ⟨b_0, 0, none⟩))]) (fun _ => [(b_0, .cells #[.string a0.s, .int .i64 a0.at_] 132 (0, 0)), (b_1, .cells #[.int .u64 a1.Dst, .int .u64 a1.Src, .bool a1.Tag.Has, .int .i64 a1.Tag.Pri, .bool a1.Tag.Dei, .int .i64 a1.Tag.Vid, .int .i64 a1.Type_, .string a1.Body] 29 (0, 0))]) (fun _ => []) (fun _ => by kernel_rfl) (fun _ => ?_)
  obtain ⟨⟨r1, r2, r3⟩, h4, hM⟩ := bind_some hM
  dsimp only at hM
  refine WL.callE (X := Unit) [] [] [true, false] (fun _ => _) (ether_reader_get_calls k b_0 a0 2 (⟨#[116, 97, 103]⟩ : ByteArray) _ h4) rfl rfl (fun _ h => h) (by kernel_rfl) (by kernel_rfl) (fun _ => rfl) (fun _ => ?_)
  refine WL.run 5 [] [0, 1, 4, 5, 6, 7] (fun _ => [(0, .pointer (some ⟨b_0, 0, none⟩)), (1, .pointer (some ⟨b_1, 0, none⟩)), (4, .int .i64 0), (5, .nilIface), (6, .int .u64 r1), (7, Un1.v r2)]) (fun _ => [(b_0, .cells #[.string r3.s, .int .i64 r3.at_] 132 (0, 0)), (b_1, .cells #[.int .u64 a1.Dst, .int .u64 a1.Src, .bool a1.Tag.Has, .int .i64 a1.Tag.Pri, .bool a1.Tag.Dei, .int .i64 a1.Tag.Vid, .int .i64 a1.Type_, .string a1.Body] 29 (0, 0))]) (fun _ => []) (fun _ => by kernel_rfl) (fun _ => ?_)
  refine WP.done ?_
  refine WP.seq ?_
  refine WP.seq ?_
  refine WP.region ?_
  refine WL.run 1 [] [0, 1, 4, 5, 6, 7, 15] (fun _ => [(0, .pointer (some ⟨b_0, 0, none⟩)), (1, .pointer (some ⟨b_1, 0, none⟩)), (4, .int .i64 0), (5, .nilIface), (6, .int .u64 r1), (7, Un1.v r2), (15, Un1.v r2)]) (fun _ => [(b_0, .cells #[.string r3.s, .int .i64 r3.at_] 132 (0, 0)), (b_1, .cells #[.int .u64 a1.Dst, .int .u64 a1.Src, .bool a1.Tag.Has, .int .i64 a1.Tag.Pri, .bool a1.Tag.Dei, .int .i64 a1.Tag.Vid, .int .i64 a1.Type_, .string a1.Body] 29 (0, 0))]) (fun _ => []) (fun _ => by kernel_rfl) (fun _ => ?_)
  rcases r2 with _ | ⟨q5, q6⟩
  · dsimp only at hM
    refine WL.run 1 [] [0, 1, 4, 5, 6, 7, 16] (fun _ => [(0, .pointer (some ⟨b_0, 0, none⟩)), (1, .pointer (some ⟨b_1, 0, none⟩)), (4, .int .i64 0), (5, .nilIface), (6, .int .u64 r1), (7, .nilIface), (16, .bool false)]) (fun _ => [(b_0, .cells #[.string r3.s, .int .i64 r3.at_] 132 (0, 0)), (b_1, .cells #[.int .u64 a1.Dst, .int .u64 a1.Src, .bool a1.Tag.Has, .int .i64 a1.Tag.Pri, .bool a1.Tag.Dei, .int .i64 a1.Tag.Vid, .int .i64 a1.Type_, .string a1.Body] 29 (0, 0))]) (fun _ => []) (fun _ => by kernel_rfl) (fun _ => ?_)
    refine WP.done ?_
    refine WP.no rfl rfl ?_
    refine WP.skip ?_
    refine WP.seq ?_
    refine WP.run [] [0, 1, 4, 5, 7, 8] (fun _ => [(0, .pointer (some ⟨b_0, 0, none⟩)), (1, .pointer (some ⟨b_1, 0, none⟩)), (4, .int .i64 0), (5, .nilIface), (7, .nilIface), (8, .int .i64 (i64 r1))]) (fun _ => [(b_0, .cells #[.string r3.s, .int .i64 r3.at_] 132 (0, 0)), (b_1, .cells #[.int .u64 a1.Dst, .int .u64 a1.Src, .bool a1.Tag.Has, .int .i64 a1.Tag.Pri, .bool a1.Tag.Dei, .int .i64 a1.Tag.Vid, .int .i64 a1.Type_, .string a1.Body] 29 (0, 0))]) (fun _ => []) (fun _ => by kernel_rfl) (fun _ => ?_)
    refine WP.seq ?_
    refine WP.run [1, 1, 1, 1] [0, 4, 5, 7] (fun _ => [(0, .pointer (some ⟨b_0, 0, none⟩)), (4, .int .i64 0), (5, .nilIface), (7, .nilIface)]) (fun _ => [(b_0, .cells #[.string r3.s, .int .i64 r3.at_] 132 (0, 0)), (b_1, .cells #[.int .u64 a1.Dst, .int .u64 a1.Src, .bool true, .int .i64 (Int.fdiv (i64 r1) 8192), .bool ((bAnd .i64 (i64 r1) 4096) != 0), .int .i64 (Int.tmod (i64 r1) 4096), .int .i64 a1.Type_, .string a1.Body] 29 (0, 0))]) (fun _ => [b_1, b_1, b_1, b_1]) (fun _ => by kernel_rfl) (fun _ => ?_)
    refine WP.seq ?_
    refine WP.region ?_
    refine WL.run 1 [] [4, 5, 7, 32] (fun _ => [(4, .int .i64 0), (5, .nilIface), (7, .nilIface), (32, .pointer (some ⟨b_0, 0, none⟩))]) (fun _ => [(b_0, .cells #[.string r3.s, .int .i64 r3.at_] 132 (0, 0)), (b_1, .cells #[.int .u64 a1.Dst, .int .u64 a1.Src, .bool true, .int .i64 (Int.fdiv (i64 r1) 8192), .bool ((bAnd .i64 (i64 r1) 4096) != 0), .int .i64 (Int.tmod (i64 r1) 4096), .int .i64 a1.Type_, .string a1.Body] 29 (0, 0))]) (fun _ => []) (fun _ => by kernel_rfl) (fun _ => ?_)
    obtain ⟨⟨r7, r8, r9⟩, h10, hM⟩ := bind_some hM
    dsimp only at hM
    refine WL.callE (X := Unit) [] [] [true, false] (fun _ => _) (ether_reader_get_calls k b_0 r3 2 (⟨#[116, 121, 112, 101]⟩ : ByteArray) _ h10) rfl rfl (fun _ h => h) (by kernel_rfl) (by kernel_rfl) (fun _ => rfl) (fun _ => ?_)
    refine WL.run 5 [] [4, 5, 7, 9] (fun _ => [(4, .int .i64 0), (5, .nilIface), (7, Un1.v r8), (9, .int .u64 r7)]) (fun _ => [(b_0, .cells #[.string r9.s, .int .i64 r9.at_] 132 (0, 0)), (b_1, .cells #[.int .u64 a1.Dst, .int .u64 a1.Src, .bool true, .int .i64 (Int.fdiv (i64 r1) 8192), .bool ((bAnd .i64 (i64 r1) 4096) != 0), .int .i64 (Int.tmod (i64 r1) 4096), .int .i64 a1.Type_, .string a1.Body] 29 (0, 0))]) (fun _ => []) (fun _ => by kernel_rfl) (fun _ => ?_)
    refine WP.done ?_
    refine WP.seq ?_
    refine WP.run [] [4, 5] (fun _ => [(4, .int .i64 (i64 r7)), (5, Un1.v r8)]) (fun _ => [(b_0, .cells #[.string r9.s, .int .i64 r9.at_] 132 (0, 0)), (b_1, .cells #[.int .u64 a1.Dst, .int .u64 a1.Src, .bool true, .int .i64 (Int.fdiv (i64 r1) 8192), .bool ((bAnd .i64 (i64 r1) 4096) != 0), .int .i64 (Int.tmod (i64 r1) 4096), .int .i64 a1.Type_, .string a1.Body] 29 (0, 0))]) (fun _ => []) (fun _ => by kernel_rfl) (fun _ => ?_)
    rcases r8 with _ | ⟨q11, q12⟩
    · dsimp only at hM
      obtain rfl := Option.some.inj hM
      exact WP.ret [] [] (.tuple #[.int .i64 (i64 r7), .nilIface]) (by kernel_rfl) (fun w' hw => ⟨(), rfl, hw.pick [0, 1] (by kernel_rfl)⟩)
    · dsimp only at hM
      obtain rfl := Option.some.inj hM
      exact WP.ret [] [] (.tuple #[.int .i64 (i64 r7), .iface 183 (.agg #[.string q11, .iface 30 (.int .i64 q12)])]) (by kernel_rfl) (fun w' hw => ⟨(), rfl, hw.pick [0, 1] (by kernel_rfl)⟩)
  · dsimp only at hM
    refine WL.run 1 [] [0, 1, 4, 5, 6, 7, 16] (fun _ => [(0, .pointer (some ⟨b_0, 0, none⟩)), (1, .pointer (some ⟨b_1, 0, none⟩)), (4, .int .i64 0), (5, .nilIface), (6, .int .u64 r1), (7, .iface 183 (.agg #[.string q5, .iface 30 (.int .i64 q6)])), (16, .bool true)]) (fun _ => [(b_0, .cells #[.string r3.s, .int .i64 r3.at_] 132 (0, 0)), (b_1, .cells #[.int .u64 a1.Dst, .int .u64 a1.Src, .bool a1.Tag.Has, .int .i64 a1.Tag.Pri, .bool a1.Tag.Dei, .int .i64 a1.Tag.Vid, .int .i64 a1.Type_, .string a1.Body] 29 (0, 0))]) (fun _ => []) (fun _ => by kernel_rfl) (fun _ => ?_)
    refine WP.done ?_
    refine WP.yes rfl rfl ?_
    refine WP.seq ?_
    refine WP.run [] [0, 1, 4, 5, 6, 7] (fun _ => [(0, .pointer (some ⟨b_0, 0, none⟩)), (1, .pointer (some ⟨b_1, 0, none⟩)), (4, .int .i64 0), (5, .iface 183 (.agg #[.string q5, .iface 30 (.int .i64 q6)])), (6, .int .u64 r1), (7, .iface 183 (.agg #[.string q5, .iface 30 (.int .i64 q6)]))]) (fun _ => [(b_0, .cells #[.string r3.s, .int .i64 r3.at_] 132 (0, 0)), (b_1, .cells #[.int .u64 a1.Dst, .int .u64 a1.Src, .bool a1.Tag.Has, .int .i64 a1.Tag.Pri, .bool a1.Tag.Dei, .int .i64 a1.Tag.Vid, .int .i64 a1.Type_, .string a1.Body] 29 (0, 0))]) (fun _ => []) (fun _ => by kernel_rfl) (fun _ => ?_)
    obtain rfl := Option.some.inj hM
    exact WP.ret [] [] (.tuple #[.int .i64 0, .iface 183 (.agg #[.string q5, .iface 30 (.int .i64 q6)])]) (by kernel_rfl) (fun w' hw => ⟨(), rfl, hw.pick [0, 1] (by kernel_rfl)⟩)

end Go.Proofs.YtbodofjnfmjbpaaGreatDoor

namespace Go.Proofs.YtbodofjnfmjbpaaGreatDoor
open Go Eng
set_option linter.unusedVariables false
set_option linter.unusedSimpArgs false

/-! ### (*gangway/ether.reader).body: function 108 -/
def ether_reader_body.k1 (a1 : api_Frame) (a2 : Int) (t1 : ByteArray) (x4 : Bool) : Option (Un1 × api_Frame) :=
  bif x4 then
    some (some ((⟨#[116, 121, 112, 101]⟩ : ByteArray), 41), a1)
  else
    bif decide (a2 > 1500) then
      some (none, (api_Frame.mk a1.Dst a1.Src a1.Tag a2 t1))
    else
      bif decide (a2 > (t1.size : Int)) then
        some (some ((⟨#[98, 111, 100, 121]⟩ : ByteArray), 40), a1)
      else
        (sliceS t1 0 a2).bind fun t8 =>
        some (none, (api_Frame.mk a1.Dst a1.Src a1.Tag a1.Type_ t8))

def ether_reader_body.f (a0 : ether_reader) (a1 : api_Frame) (a2 : Int) : Option (Un1 × api_Frame) :=
  (sliceS a0.s a0.at_ (a0.s.size : Int)).bind fun t1 =>
  bif (a2 == 33024) then
    ether_reader_body.k1 a1 a2 t1 true
  else
    ether_reader_body.k1 a1 a2 t1 ((decide (a2 > 1500)) && (decide (a2 < 1536)))

set_option maxRecDepth 100000 in
theorem ether_reader_body_calls (b_0 : Nat) (b_1 : Nat) (a0 : ether_reader) (a1 : api_Frame) (a2 : Int) (r : Un1 × api_Frame) (h : ether_reader_body.f a0 a1 a2 = some r) : Does Tryz.prog 108 #[.pointer (some ⟨b_0, 0, none⟩), .pointer (some ⟨b_1, 0, none⟩), .int .i64 a2] [(b_0, .cells #[.string a0.s, .int .i64 a0.at_] 132 (0, 0)), (b_1, .cells #[.int .u64 a1.Dst, .int .u64 a1.Src, .bool a1.Tag.Has, .int .i64 a1.Tag.Pri, .bool a1.Tag.Dei, .int .i64 a1.Tag.Vid, .int .i64 a1.Type_, .string a1.Body] 29 (0, 0))] Glob (fun _ : Unit => Un1.v r.1) (fun _ => [(b_0, .cells #[.string a0.s, .int .i64 a0.at_] 132 (0, 0)), (b_1, .cells #[.int .u64 r.2.Dst, .int .u64 r.2.Src, .bool r.2.Tag.Has, .int .i64 r.2.Tag.Pri, .bool r.2.Tag.Dei, .int .i64 r.2.Tag.Vid, .int .i64 r.2.Type_, .string r.2.Body] 29 (0, 0))]) (fun _ => []) (fun _ => Glob) := by
  intro w Z hS
  refine calls_of (args := [.pointer (some ⟨b_0, 0, none⟩), .pointer (some ⟨b_1, 0, none⟩), .int .i64 a2]) (L := [(0, .pointer (some ⟨b_0, 0, none⟩)), (1, .pointer (some ⟨b_1, 0, none⟩)), (2, .int .i64 a2)]) (N := 55) (S := Sat w Z [(b_0, .cells #[.string a0.s, .int .i64 a0.at_] 132 (0, 0)), (b_1, .cells #[.int .u64 a1.Dst, .int .u64 a1.Src, .bool a1.Tag.Has, .int .i64 a1.Tag.Pri, .bool a1.Tag.Dei, .int .i64 a1.Tag.Vid, .int .i64 a1.Type_, .string a1.Body] 29 (0, 0))] [] Glob) Tryz.func108 rfl rfl (Nat.le_of_ble_eq_true rfl) rfl hS ?_
  have hM := h
  clear h hS
  unfold ether_reader_body.f at hM
  refine WP.seq ?_
  refine WP.run [] [0, 1, 2, 6] (fun _ => [(0, .pointer (some ⟨b_0, 0, none⟩)), (1, .pointer (some ⟨b_1, 0, none⟩)), (2, .int .i64 a2), (6, .nilIface)]) (fun _ => [(b_0, .cells #[.string a0.s, .int .i64 a0.at_] 132 (0, 0)), (b_1, .cells #[.int .u64 a1.Dst, .int .u64 a1.Src, .bool a1.Tag.Has, .int .i64 a1.Tag.Pri, .bool a1.Tag.Dei, .int .i64 a1.Tag.Vid, .int .i64 a1.Type_, .string a1.Body] 29 (0, 0))]) (fun _ => []) (fun _ => by kernel_rfl) (fun _ => ?_)
  refine WP.seq ?_
  refine WP.quiet (by kernel_rfl) (by kernel_rfl) ?_
  refine QL.run 8 [0, 0] [1, 2, 6, 11, 15] [b_0, b_0] [(1, .pointer (some ⟨b_1, 0, none⟩)), (2, .int .i64 a2), (6, .nilIface), (11, .string a0.s), (15, .int .i64 a0.at_)] (by kernel_rfl) ?_
  obtain ⟨t1, h2, hM⟩ := bind_some hM
  refine QL.val (fun _ => run_sliceS_lo (s := a0.s) (kl := .i64) (l := a0.at_) (by kernel_rfl) (by kernel_rfl) (by kernel_rfl) h2) (by kernel_rfl) (by kernel_rfl) rfl ?_
  refine QL.run 1 [] [1, 2, 6, 7] [] [(1, .pointer (some ⟨b_1, 0, none⟩)), (2, .int .i64 a2), (6, .nilIface), (7, .string t1)] (by kernel_rfl) ?_
  refine QL.done ?_
  refine WP.seq ?_
  refine WP.block ?_
  refine WP.seq ?_
  refine WP.region ?_
  refine WL.run 3 [] [1, 2, 6, 7, 20] (fun _ => [(1, .pointer (some ⟨b_1, 0, none⟩)), (2, .int .i64 a2), (6, .nilIface), (7, .string t1), (20, .bool (a2 == 33024))]) (fun _ => [(b_0, .cells #[.string a0.s, .int .i64 a0.at_] 132 (0, 0)), (b_1, .cells #[.int .u64 a1.Dst, .int .u64 a1.Src, .bool a1.Tag.Has, .int .i64 a1.Tag.Pri, .bool a1.Tag.Dei, .int .i64 a1.Tag.Vid, .int .i64 a1.Type_, .string a1.Body] 29 (0, 0))]) (fun _ => []) (fun _ => by kernel_rfl) (fun _ => ?_)
  refine WL.sub [1, 2, 6, 7, 20] (L' := [(1, .pointer (some ⟨b_1, 0, none⟩)), (2, .int .i64 a2), (6, .nilIface), (7, .string t1), (20, .bool (a2 == 33024))]) (by kernel_rfl) ?_
  refine WL.join (σ := Bool) 7 (fun st => ether_reader_body.k1 a1 a2 t1 st = some r) (fun st => [(1, .pointer (some ⟨b_1, 0, none⟩)), (2, .int .i64 a2), (6, .nilIface), (7, .string t1), (27, .bool st)]) (fun st => Sat w Z [(b_0, .cells #[.string a0.s, .int .i64 a0.at_] 132 (0, 0)), (b_1, .cells #[.int .u64 a1.Dst, .int .u64 a1.Src, .bool a1.Tag.Has, .int .i64 a1.Tag.Pri, .bool a1.Tag.Dei, .int .i64 a1.Tag.Vid, .int .i64 a1.Type_, .string a1.Body] 29 (0, 0))] [] Glob) (fun st hM => ?_) (fun K1 => ?_)
  ·
    obtain ⟨x4, rfl⟩ : ∃ y, y = st := ⟨st, rfl⟩
    replace hM : ether_reader_body.k1 a1 a2 t1 x4 = some r := hM
    unfold ether_reader_body.k1 at hM
    show WL _ _ _ _ _ [(1, .pointer (some ⟨b_1, 0, none⟩)), (2, .int .i64 a2), (6, .nilIface), (7, .string t1), (27, .bool x4)] (Sat w Z [(b_0, .cells #[.string a0.s, .int .i64 a0.at_] 132 (0, 0)), (b_1, .cells #[.int .u64 a1.Dst, .int .u64 a1.Src, .bool a1.Tag.Has, .int .i64 a1.Tag.Pri, .bool a1.Tag.Dei, .int .i64 a1.Tag.Vid, .int .i64 a1.Type_, .string a1.Body] 29 (0, 0))] [] Glob)
    refine WL.run 1 [] [1, 2, 6, 7, 17] (fun _ => [(1, .pointer (some ⟨b_1, 0, none⟩)), (2, .int .i64 a2), (6, .nilIface), (7, .string t1), (17, .bool x4)]) (fun _ => [(b_0, .cells #[.string a0.s, .int .i64 a0.at_] 132 (0, 0)), (b_1, .cells #[.int .u64 a1.Dst, .int .u64 a1.Src, .bool a1.Tag.Has, .int .i64 a1.Tag.Pri, .bool a1.Tag.Dei, .int .i64 a1.Tag.Vid, .int .i64 a1.Type_, .string a1.Body] 29 (0, 0))]) (fun _ => []) (fun _ => by kernel_rfl) (fun _ => ?_)
    refine WP.done ?_
    refine WP.cond x4 rfl rfl (fun c5 => ?_) (fun c5 => ?_)
    · replace hM := cond_t hM c5
      refine WP.seq ?_
      refine WP.run [] [1, 2, 6, 7] (fun _ => [(1, .pointer (some ⟨b_1, 0, none⟩)), (2, .int .i64 a2), (6, .iface 183 (.agg #[.string (⟨#[116, 121, 112, 101]⟩ : ByteArray), .iface 30 (.int .i64 41)])), (7, .string t1)]) (fun _ => [(b_0, .cells #[.string a0.s, .int .i64 a0.at_] 132 (0, 0)), (b_1, .cells #[.int .u64 a1.Dst, .int .u64 a1.Src, .bool a1.Tag.Has, .int .i64 a1.Tag.Pri, .bool a1.Tag.Dei, .int .i64 a1.Tag.Vid, .int .i64 a1.Type_, .string a1.Body] 29 (0, 0))]) (fun _ => []) (fun _ => by kernel_rfl) (fun _ => ?_)
      obtain rfl := Option.some.inj hM
      exact WP.ret [] [] (.iface 183 (.agg #[.string (⟨#[116, 121, 112, 101]⟩ : ByteArray), .iface 30 (.int .i64 41)])) (by kernel_rfl) (fun w' hw => ⟨(), rfl, hw.pick [0, 1] (by kernel_rfl)⟩)
    · replace hM := cond_f hM c5
      refine WP.seq ?_
      refine WP.run [] [1, 2, 6, 7, 31] (fun _ => [(1, .pointer (some ⟨b_1, 0, none⟩)), (2, .int .i64 a2), (6, .nilIface), (7, .string t1), (31, .bool (decide (a2 > 1500)))]) (fun _ => [(b_0, .cells #[.string a0.s, .int .i64 a0.at_] 132 (0, 0)), (b_1, .cells #[.int .u64 a1.Dst, .int .u64 a1.Src, .bool a1.Tag.Has, .int .i64 a1.Tag.Pri, .bool a1.Tag.Dei, .int .i64 a1.Tag.Vid, .int .i64 a1.Type_, .string a1.Body] 29 (0, 0))]) (fun _ => []) (fun _ => by kernel_rfl) (fun _ => ?_)
      refine WP.cond (decide (a2 > 1500)) rfl rfl (fun c6 => ?_) (fun c6 => ?_)
      · replace hM := cond_t hM c6
        refine WP.seq ?_
        refine WP.run [1, 1] [1, 2, 6, 7] (fun _ => [(1, .pointer (some ⟨b_1, 0, none⟩)), (2, .int .i64 a2), (6, .nilIface), (7, .string t1)]) (fun _ => [(b_0, .cells #[.string a0.s, .int .i64 a0.at_] 132 (0, 0)), (b_1, .cells #[.int .u64 a1.Dst, .int .u64 a1.Src, .bool a1.Tag.Has, .int .i64 a1.Tag.Pri, .bool a1.Tag.Dei, .int .i64 a1.Tag.Vid, .int .i64 a2, .string t1] 29 (0, 0))]) (fun _ => [b_1, b_1]) (fun _ => by kernel_rfl) (fun _ => ?_)
        refine WP.seq ?_
        refine WP.run [] [1, 2, 6, 7] (fun _ => [(1, .pointer (some ⟨b_1, 0, none⟩)), (2, .int .i64 a2), (6, .nilIface), (7, .string t1)]) (fun _ => [(b_0, .cells #[.string a0.s, .int .i64 a0.at_] 132 (0, 0)), (b_1, .cells #[.int .u64 a1.Dst, .int .u64 a1.Src, .bool a1.Tag.Has, .int .i64 a1.Tag.Pri, .bool a1.Tag.Dei, .int .i64 a1.Tag.Vid, .int .i64 a2, .string t1] 29 (0, 0))]) (fun _ => []) (fun _ => by kernel_rfl) (fun _ => ?_)
        obtain rfl := Option.some.inj hM
        exact WP.ret [] [] (.nilIface) (by kernel_rfl) (fun w' hw => ⟨(), rfl, hw.pick [0, 1] (by kernel_rfl)⟩)
      · replace hM := cond_f hM c6
        refine WP.skip ?_
        refine WP.leave ?_
        refine WP.seq ?_
        refine WP.seq ?_
        refine WP.run [] [1, 2, 6, 7, 45] (fun _ => [(1, .pointer (some ⟨b_1, 0, none⟩)), (2, .int .i64 a2), (6, .nilIface), (7, .string t1), (45, .bool (decide (a2 > (t1.size : Int))))]) (fun _ => [(b_0, .cells #[.string a0.s, .int .i64 a0.at_] 132 (0, 0)), (b_1, .cells #[.int .u64 a1.Dst, .int .u64 a1.Src, .bool a1.Tag.Has, .int .i64 a1.Tag.Pri, .bool a1.Tag.Dei, .int .i64 a1.Tag.Vid, .int .i64 a1.Type_, .string a1.Body] 29 (0, 0))]) (fun _ => []) (fun _ => by kernel_rfl) (fun _ => ?_)
        refine WP.cond (decide (a2 > (t1.size : Int))) rfl rfl (fun c7 => ?_) (fun c7 => ?_)
        · replace hM := cond_t hM c7
          refine WP.seq ?_
          refine WP.run [] [1, 2, 6, 7] (fun _ => [(1, .pointer (some ⟨b_1, 0, none⟩)), (2, .int .i64 a2), (6, .iface 183 (.agg #[.string (⟨#[98, 111, 100, 121]⟩ : ByteArray), .iface 30 (.int .i64 40)])), (7, .string t1)]) (fun _ => [(b_0, .cells #[.string a0.s, .int .i64 a0.at_] 132 (0, 0)), (b_1, .cells #[.int .u64 a1.Dst, .int .u64 a1.Src, .bool a1.Tag.Has, .int .i64 a1.Tag.Pri, .bool a1.Tag.Dei, .int .i64 a1.Tag.Vid, .int .i64 a1.Type_, .string a1.Body] 29 (0, 0))]) (fun _ => []) (fun _ => by kernel_rfl) (fun _ => ?_)
          obtain rfl := Option.some.inj hM
          exact WP.ret [] [] (.iface 183 (.agg #[.string (⟨#[98, 111, 100, 121]⟩ : ByteArray), .iface 30 (.int .i64 40)])) (by kernel_rfl) (fun w' hw => ⟨(), rfl, hw.pick [0, 1] (by kernel_rfl)⟩)
        · replace hM := cond_f hM c7
          refine WP.skip ?_
          refine WP.seq ?_
          refine WP.region ?_
          refine WL.run 3 [] [6, 49, 50, 51] (fun _ => [(6, .nilIface), (49, .pointer (some ⟨b_1, 0, none⟩)), (50, .string t1), (51, .int .i64 a2)]) (fun _ => [(b_0, .cells #[.string a0.s, .int .i64 a0.at_] 132 (0, 0)), (b_1, .cells #[.int .u64 a1.Dst, .int .u64 a1.Src, .bool a1.Tag.Has, .int .i64 a1.Tag.Pri, .bool a1.Tag.Dei, .int .i64 a1.Tag.Vid, .int .i64 a1.Type_, .string a1.Body] 29 (0, 0))]) (fun _ => []) (fun _ => by kernel_rfl) (fun _ => ?_)
          obtain ⟨t8, h9, hM⟩ := bind_some hM
          refine WL.val (fun _ => run_sliceS_hi (s := t1) (kh := .i64) (h := a2) (by kernel_rfl) (by kernel_rfl) (by kernel_rfl) h9) (by kernel_rfl) (by kernel_rfl) rfl ?_
          refine WL.run 3 [1] [6] (fun _ => [(6, .nilIface)]) (fun _ => [(b_0, .cells #[.string a0.s, .int .i64 a0.at_] 132 (0, 0)), (b_1, .cells #[.int .u64 a1.Dst, .int .u64 a1.Src, .bool a1.Tag.Has, .int .i64 a1.Tag.Pri, .bool a1.Tag.Dei, .int .i64 a1.Tag.Vid, .int .i64 a1.Type_, .string t8] 29 (0, 0))]) (fun _ => [b_1]) (fun _ => by kernel_rfl) (fun _ => ?_)
          refine WP.done ?_
          refine WP.seq ?_
          refine WP.run [] [6] (fun _ => [(6, .nilIface)]) (fun _ => [(b_0, .cells #[.string a0.s, .int .i64 a0.at_] 132 (0, 0)), (b_1, .cells #[.int .u64 a1.Dst, .int .u64 a1.Src, .bool a1.Tag.Has, .int .i64 a1.Tag.Pri, .bool a1.Tag.Dei, .int .i64 a1.Tag.Vid, .int .i64 a1.Type_, .string t8] 29 (0, 0))]) (fun _ => []) (fun _ => by kernel_rfl) (fun _ => ?_)
          obtain rfl := Option.some.inj hM
          exact WP.ret [] [] (.nilIface) (by kernel_rfl) (fun w' hw => ⟨(), rfl, hw.pick [0, 1] (by kernel_rfl)⟩)
  ·
    refine WL.split (fun b' => [(1, .pointer (some ⟨b_1, 0, none⟩)), (2, .int .i64 a2), (6, .nilIface), (7, .string t1), (20, .bool b')]) (a2 == 33024) (fun c3 => ?_) (fun c3 => ?_)
    · replace hM := cond_t hM c3
      refine WL.run 7 [] [1, 2, 6, 7, 27] (fun _ => [(1, .pointer (some ⟨b_1, 0, none⟩)), (2, .int .i64 a2), (6, .nilIface), (7, .string t1), (27, .bool true)]) (fun _ => [(b_0, .cells #[.string a0.s, .int .i64 a0.at_] 132 (0, 0)), (b_1, .cells #[.int .u64 a1.Dst, .int .u64 a1.Src, .bool a1.Tag.Has, .int .i64 a1.Tag.Pri, .bool a1.Tag.Dei, .int .i64 a1.Tag.Vid, .int .i64 a1.Type_, .string a1.Body] 29 (0, 0))]) (fun _ => []) (fun _ => by kernel_rfl) (fun _ => ?_)
      exact WL.sub [1, 2, 6, 7, 27] (by kernel_rfl) (WL.pick [0, 1] (by kernel_rfl) (by kernel_rfl) (K1 true hM))
    · replace hM := cond_f hM c3
      refine WL.run 3 [] [1, 2, 6, 7, 20, 23] (fun _ => [(1, .pointer (some ⟨b_1, 0, none⟩)), (2, .int .i64 a2), (6, .nilIface), (7, .string t1), (20, .bool false), (23, .bool (decide (a2 > 1500)))]) (fun _ => [(b_0, .cells #[.string a0.s, .int .i64 a0.at_] 132 (0, 0)), (b_1, .cells #[.int .u64 a1.Dst, .int .u64 a1.Src, .bool a1.Tag.Has, .int .i64 a1.Tag.Pri, .bool a1.Tag.Dei, .int .i64 a1.Tag.Vid, .int .i64 a1.Type_, .string a1.Body] 29 (0, 0))]) (fun _ => []) (fun _ => by kernel_rfl) (fun _ => ?_)
      refine WL.sub [1, 2, 6, 7, 20, 23] (L' := [(1, .pointer (some ⟨b_1, 0, none⟩)), (2, .int .i64 a2), (6, .nilIface), (7, .string t1), (20, .bool false), (23, .bool (decide (a2 > 1500)))]) (by kernel_rfl) ?_
      refine WL.both (fun b' => [(1, .pointer (some ⟨b_1, 0, none⟩)), (2, .int .i64 a2), (6, .nilIface), (7, .string t1), (20, .bool false), (23, .bool b')]) (decide (a2 > 1500)) 3 [] [] [1, 2, 6, 7, 20, 26] (fun b' => [(1, .pointer (some ⟨b_1, 0, none⟩)), (2, .int .i64 a2), (6, .nilIface), (7, .string t1), (20, .bool false), (26, .bool (b' && (decide (a2 < 1536))))]) [] [] (fun _ => by kernel_rfl) (fun _ => by kernel_rfl) ?_
      refine WL.run 1 [] [1, 2, 6, 7, 27] (fun _ => [(1, .pointer (some ⟨b_1, 0, none⟩)), (2, .int .i64 a2), (6, .nilIface), (7, .string t1), (27, .bool ((decide (a2 > 1500)) && (decide (a2 < 1536))))]) (fun _ => [(b_0, .cells #[.string a0.s, .int .i64 a0.at_] 132 (0, 0)), (b_1, .cells #[.int .u64 a1.Dst, .int .u64 a1.Src, .bool a1.Tag.Has, .int .i64 a1.Tag.Pri, .bool a1.Tag.Dei, .int .i64 a1.Tag.Vid, .int .i64 a1.Type_, .string a1.Body] 29 (0, 0))]) (fun _ => []) (fun _ => by kernel_rfl) (fun _ => ?_)
      exact WL.sub [1, 2, 6, 7, 27] (by kernel_rfl) (WL.pick [0, 1] (by kernel_rfl) (by kernel_rfl) (K1 ((decide (a2 > 1500)) && (decide (a2 < 1536))) hM))

end Go.Proofs.YtbodofjnfmjbpaaGreatDoor

namespace Go.Proofs.YtbodofjnfmjbpaaGreatDoor
open Go Eng
set_option linter.unusedVariables false
set_option linter.unusedSimpArgs false

/-! ### (*gangway/ether.reader).frame: function 82 -/
def ether_reader_frame.k1 (x29 : Un1) (x30 : Int) (x31 : ByteArray) (x32 : Int) (x33 : Int) (x34 : Int) (x35 : Bool) (x36 : Int) (x37 : Bool) (x38 : Int) (x39 : Int) (x40 : ByteArray) : Option (api_Frame × Un1 × ether_reader) :=
  match x29 with
  | none =>
    (ether_reader_body.f (ether_reader.mk x31 x32) (api_Frame.mk x33 x34 (api_Tag.mk x35 x36 x37 x38) x39 x40) x30).bind fun (r43, r44) =>
    match r43 with
    | none =>
      some (r44, none, (ether_reader.mk x31 x32))
    | some (q46, q47) =>
      some (r44, some (q46, q47), (ether_reader.mk x31 x32))
  | some (q41, q42) =>
    some ((api_Frame.mk x33 x34 (api_Tag.mk x35 x36 x37 x38) x39 x40), some (q41, q42), (ether_reader.mk x31 x32))

def ether_reader_frame.f (k : Nat) (a0 : ether_reader) : Option (api_Frame × Un1 × ether_reader) :=
  (ether_reader_get.f k a0 6 (⟨#[116, 111]⟩ : ByteArray)).bind fun (r3, r4, r5) =>
  match r4 with
  | none =>
    (ether_reader_get.f k r5 6 (⟨#[102, 114, 111, 109]⟩ : ByteArray)).bind fun (r9, r10, r11) =>
    match r10 with
    | none =>
      (ether_reader_get.f k r11 2 (⟨#[116, 121, 112, 101]⟩ : ByteArray)).bind fun (r15, r16, r17) =>
      match r16 with
      | none =>
        bif ((i64 r15) == 33024) then
          (ether_reader_tagged.f k r17 (api_Frame.mk r3 r9 (api_Tag.mk false 0 false 0) 0 (⟨#[]⟩ : ByteArray))).bind fun (r20, r21, r22, r23) =>
          match r21 with
          | none =>
            ether_reader_frame.k1 none r20 r22.s r22.at_ r23.Dst r23.Src r23.Tag.Has r23.Tag.Pri r23.Tag.Dei r23.Tag.Vid r23.Type_ r23.Body
          | some (q27, q28) =>
            ether_reader_frame.k1 (some (q27, q28)) r20 r22.s r22.at_ r23.Dst r23.Src r23.Tag.Has r23.Tag.Pri r23.Tag.Dei r23.Tag.Vid r23.Type_ r23.Body
        else
          ether_reader_frame.k1 none (i64 r15) r17.s r17.at_ r3 r9 false 0 false 0 0 (⟨#[]⟩ : ByteArray)
      | some (q25, q26) =>
        ether_reader_frame.k1 (some (q25, q26)) (i64 r15) r17.s r17.at_ r3 r9 false 0 false 0 0 (⟨#[]⟩ : ByteArray)
    | some (q13, q14) =>
      some ((api_Frame.mk r3 r9 (api_Tag.mk false 0 false 0) 0 (⟨#[]⟩ : ByteArray)), some (q13, q14), r11)
  | some (q7, q8) =>
    some ((api_Frame.mk r3 0 (api_Tag.mk false 0 false 0) 0 (⟨#[]⟩ : ByteArray)), some (q7, q8), r5)

set_option maxRecDepth 100000 in
theorem ether_reader_frame_calls (k : Nat) (b_0 : Nat) (a0 : ether_reader) (r : api_Frame × Un1 × ether_reader) (h : ether_reader_frame.f k a0 = some r) : Does Tryz.prog 82 #[.pointer (some ⟨b_0, 0, none⟩)] [(b_0, .cells #[.string a0.s, .int .i64 a0.at_] 132 (0, 0))] Glob (fun _ : Unit => .tuple #[.agg #[.int .u64 r.1.Dst, .int .u64 r.1.Src, .bool r.1.Tag.Has, .int .i64 r.1.Tag.Pri, .bool r.1.Tag.Dei, .int .i64 r.1.Tag.Vid, .int .i64 r.1.Type_, .string r.1.Body], Un1.v r.2.1]) (fun _ => [(b_0, .cells #[.string r.2.2.s, .int .i64 r.2.2.at_] 132 (0, 0))]) (fun _ => []) (fun _ => Glob) := by
  intro w Z hS
  refine calls_of (args := [.pointer (some ⟨b_0, 0, none⟩)]) (L := [(0, .pointer (some ⟨b_0, 0, none⟩))]) (N := 56) (S := Sat w Z [(b_0, .cells #[.string a0.s, .int .i64 a0.at_] 132 (0, 0))] [] Glob) Tryz.func82 rfl rfl (Nat.le_of_ble_eq_true rfl) rfl hS ?_
  have hM := h
  clear h hS
  unfold ether_reader_frame.f at hM
  refine WP.seq ?_
  refine WP.run [] [0, 2, 3] (fun b1 => [(0, .pointer (some ⟨b_0, 0, none⟩)), (2, .pointer (some ⟨b1, 0, none⟩)), (3, .nilIface)]) (fun b1 => [(b_0, .cells #[.string a0.s, .int .i64 a0.at_] 132 (0, 0)), (b1, .cells #[.int .u64 0, .int .u64 0, .bool false, .int .i64 0, .bool false, .int .i64 0, .int .i64 0, .string (⟨#[]⟩ : ByteArray)] 29 (0, 0))]) (fun b1 => []) (fun b1 => by kernel_rfl) (fun b1 => ?_)
  refine WP.seq ?_
  refine WP.run [] [0, 2, 3, 4] (fun b2 => [(0, .pointer (some ⟨b_0, 0, none⟩)), (2, .pointer (some ⟨b1, 0, none⟩)), (3, .nilIface), (4, .pointer (some ⟨b2, 0, none⟩))]) (fun b2 => [(b_0, .cells #[.string a0.s, .int .i64 a0.at_] 132 (0, 0)), (b1, .cells #[.int .u64 0, .int .u64 0, .bool false, .int .i64 0, .bool false, .int .i64 0, .int .i64 0, .string (⟨#[]⟩ : ByteArray)] 29 (0, 0)), (b2, .cells #[.int .u64 0, .int .u64 0, .bool false, .int .i64 0, .bool false, .int .i64 0, .int .i64 0, .string (⟨#[]⟩ : ByteArray)] 29 (0, 0))]) (fun b2 => []) (fun b2 => by kernel_rfl) (fun b2 => ?_)
  refine WP.seq ?_
  refine WP.run [] [0, 2, 3, 4, 5] (fun _ => [(0, .pointer (some ⟨b_0, 0, none⟩)), (2, .pointer (some ⟨b1, 0, none⟩)), (3, .nilIface), (4, .pointer (some ⟨b2, 0, none⟩)), (5, .nilIface)]) (fun _ => [(b_0, .cells #[.string a0.s, .int .i64 a0.at_] 132 (0, 0)), (b1, .cells #[.int .u64 0, .int .u64 0, .bool false, .int .i64 0, .bool false, .int .i64 0, .int .i64 0, .string (⟨#[]⟩ : ByteArray)] 29 (0, 0)), (b2, .cells #[.int .u64 0, .int .u64 0, .bool false, .int .i64 0, .bool false, .int .i64 0, .int .i64 0, .string (⟨#[]⟩ : ByteArray)] 29 (0, 0))]) (fun _ => []) (fun _ => by kernel_rfl) (fun _ => ?_)
  refine WP.seq ?_
  refine WP.seq ?_
  refine WP.region ?_
  refine WL.run 1 [] [0, 2, 3, 4, 5, 10] (fun _ => [(0, .pointer (some ⟨b_0, 0, none⟩)), (2, .pointer (some ⟨b1, 0, none⟩)), (3, .nilIface), (4, .pointer (some ⟨b2, 0, none⟩)), (5, .nilIface), (10, .pointer (some ⟨b_0, 0, none⟩))]) (fun _ => [(b_0, .cells #[.string a0.s, .int .i64 a0.at_] 132 (0, 0)), (b1, .cells #[.int .u64 0, .int .u64 0, .bool false, .int .i64 0, .bool false, .int .i64 0, .int .i64 0, .string (⟨#[]⟩ : ByteArray)] 29 (0, 0)), (b2, .cells #[.int .u64 0, .int .u64 0, .bool false, .int .i64 0, .bool false, .int .i64 0, .int .i64 0, .string (⟨#[]⟩ : ByteArray)] 29 (0, 0))]) (fun _ => []) (fun _ => by kernel_rfl) (fun _ => ?_)
  obtain ⟨⟨r3, r4, r5⟩, h6, hM⟩ := bind_some hM
  dsimp only at hM
  refine WL.callE (X := Unit) [] [] [true, false, false] (fun _ => _) (ether_reader_get_calls k b_0 a0 6 (⟨#[116, 111]⟩ : ByteArray) _ h6) rfl rfl (fun _ h => h) (by kernel_rfl) (by kernel_rfl) (fun _ => rfl) (fun _ => ?_)
  refine WL.run 6 [2] [0, 2, 3, 4, 5] (fun _ => [(0, .pointer (some ⟨b_0, 0, none⟩)), (2, .pointer (some ⟨b1, 0, none⟩)), (3, .nilIface), (4, .pointer (some ⟨b2, 0, none⟩)), (5, Un1.v r4)]) (fun _ => [(b_0, .cells #[.string r5.s, .int .i64 r5.at_] 132 (0, 0)), (b1, .cells #[.int .u64 0, .int .u64 0, .bool false, .int .i64 0, .bool false, .int .i64 0, .int .i64 0, .string (⟨#[]⟩ : ByteArray)] 29 (0, 0)), (b2, .cells #[.int .u64 r3, .int .u64 0, .bool false, .int .i64 0, .bool false, .int .i64 0, .int .i64 0, .string (⟨#[]⟩ : ByteArray)] 29 (0, 0))]) (fun _ => [b2]) (fun _ => by kernel_rfl) (fun _ => ?_)
  refine WP.done ?_
  refine WP.seq ?_
  refine WP.region ?_
  refine WL.run 1 [] [0, 2, 3, 4, 5, 15] (fun _ => [(0, .pointer (some ⟨b_0, 0, none⟩)), (2, .pointer (some ⟨b1, 0, none⟩)), (3, .nilIface), (4, .pointer (some ⟨b2, 0, none⟩)), (5, Un1.v r4), (15, Un1.v r4)]) (fun _ => [(b_0, .cells #[.string r5.s, .int .i64 r5.at_] 132 (0, 0)), (b1, .cells #[.int .u64 0, .int .u64 0, .bool false, .int .i64 0, .bool false, .int .i64 0, .int .i64 0, .string (⟨#[]⟩ : ByteArray)] 29 (0, 0)), (b2, .cells #[.int .u64 r3, .int .u64 0, .bool false, .int .i64 0, .bool false, .int .i64 0, .int .i64 0, .string (⟨#[]⟩ : ByteArray)] 29 (0, 0))]) (fun _ => []) (fun _ => by kernel_rfl) (fun _ => ?_)
  rcases r4 with _ | ⟨q7, q8⟩
  · dsimp only at hM
    refine WL.run 1 [] [0, 2, 3, 4, 5, 16] (fun _ => [(0, .pointer (some ⟨b_0, 0, none⟩)), (2, .pointer (some ⟨b1, 0, none⟩)), (3, .nilIface), (4, .pointer (some ⟨b2, 0, none⟩)), (5, .nilIface), (16, .bool false)]) (fun _ => [(b_0, .cells #[.string r5.s, .int .i64 r5.at_] 132 (0, 0)), (b1, .cells #[.int .u64 0, .int .u64 0, .bool false, .int .i64 0, .bool false, .int .i64 0, .int .i64 0, .string (⟨#[]⟩ : ByteArray)] 29 (0, 0)), (b2, .cells #[.int .u64 r3, .int .u64 0, .bool false, .int .i64 0, .bool false, .int .i64 0, .int .i64 0, .string (⟨#[]⟩ : ByteArray)] 29 (0, 0))]) (fun _ => []) (fun _ => by kernel_rfl) (fun _ => ?_)
    refine WP.done ?_
    refine WP.no rfl rfl ?_
    refine WP.skip ?_
    refine WP.seq ?_
    refine WP.seq ?_
    refine WP.region ?_
    refine WL.run 1 [] [0, 2, 3, 4, 5, 20] (fun _ => [(0, .pointer (some ⟨b_0, 0, none⟩)), (2, .pointer (some ⟨b1, 0, none⟩)), (3, .nilIface), (4, .pointer (some ⟨b2, 0, none⟩)), (5, .nilIface), (20, .pointer (some ⟨b_0, 0, none⟩))]) (fun _ => [(b_0, .cells #[.string r5.s, .int .i64 r5.at_] 132 (0, 0)), (b1, .cells #[.int .u64 0, .int .u64 0, .bool false, .int .i64 0, .bool false, .int .i64 0, .int .i64 0, .string (⟨#[]⟩ : ByteArray)] 29 (0, 0)), (b2, .cells #[.int .u64 r3, .int .u64 0, .bool false, .int .i64 0, .bool false, .int .i64 0, .int .i64 0, .string (⟨#[]⟩ : ByteArray)] 29 (0, 0))]) (fun _ => []) (fun _ => by kernel_rfl) (fun _ => ?_)
    obtain ⟨⟨r9, r10, r11⟩, h12, hM⟩ := bind_some hM
    dsimp only at hM
    refine WL.callE (X := Unit) [] [] [true, false, false] (fun _ => _) (ether_reader_get_calls k b_0 r5 6 (⟨#[102, 114, 111, 109]⟩ : ByteArray) _ h12) rfl rfl (fun _ h => h) (by kernel_rfl) (by kernel_rfl) (fun _ => rfl) (fun _ => ?_)
    refine WL.run 6 [2] [0, 2, 3, 4, 5] (fun _ => [(0, .pointer (some ⟨b_0, 0, none⟩)), (2, .pointer (some ⟨b1, 0, none⟩)), (3, .nilIface), (4, .pointer (some ⟨b2, 0, none⟩)), (5, Un1.v r10)]) (fun _ => [(b_0, .cells #[.string r11.s, .int .i64 r11.at_] 132 (0, 0)), (b1, .cells #[.int .u64 0, .int .u64 0, .bool false, .int .i64 0, .bool false, .int .i64 0, .int .i64 0, .string (⟨#[]⟩ : ByteArray)] 29 (0, 0)), (b2, .cells #[.int .u64 r3, .int .u64 r9, .bool false, .int .i64 0, .bool false, .int .i64 0, .int .i64 0, .string (⟨#[]⟩ : ByteArray)] 29 (0, 0))]) (fun _ => [b2]) (fun _ => by kernel_rfl) (fun _ => ?_)
    refine WP.done ?_
    refine WP.seq ?_
    refine WP.region ?_
    refine WL.run 1 [] [0, 2, 3, 4, 5, 25] (fun _ => [(0, .pointer (some ⟨b_0, 0, none⟩)), (2, .pointer (some ⟨b1, 0, none⟩)), (3, .nilIface), (4, .pointer (some ⟨b2, 0, none⟩)), (5, Un1.v r10), (25, Un1.v r10)]) (fun _ => [(b_0, .cells #[.string r11.s, .int .i64 r11.at_] 132 (0, 0)), (b1, .cells #[.int .u64 0, .int .u64 0, .bool false, .int .i64 0, .bool false, .int .i64 0, .int .i64 0, .string (⟨#[]⟩ : ByteArray)] 29 (0, 0)), (b2, .cells #[.int .u64 r3, .int .u64 r9, .bool false, .int .i64 0, .bool false, .int .i64 0, .int .i64 0, .string (⟨#[]⟩ : ByteArray)] 29 (0, 0))]) (fun _ => []) (fun _ => by kernel_rfl) (fun _ => ?_)
    rcases r10 with _ | ⟨q13, q14⟩
    · dsimp only at hM
      refine WL.run 1 [] [0, 2, 3, 4, 5, 26] (fun _ => [(0, .pointer (some ⟨b_0, 0, none⟩)), (2, .pointer (some ⟨b1, 0, none⟩)), (3, .nilIface), (4, .pointer (some ⟨b2, 0, none⟩)), (5, .nilIface), (26, .bool false)]) (fun _ => [(b_0, .cells #[.string r11.s, .int .i64 r11.at_] 132 (0, 0)), (b1, .cells #[.int .u64 0, .int .u64 0, .bool false, .int .i64 0, .bool false, .int .i64 0, .int .i64 0, .string (⟨#[]⟩ : ByteArray)] 29 (0, 0)), (b2, .cells #[.int .u64 r3, .int .u64 r9, .bool false, .int .i64 0, .bool false, .int .i64 0, .int .i64 0, .string (⟨#[]⟩ : ByteArray)] 29 (0, 0))]) (fun _ => []) (fun _ => by kernel_rfl) (fun _ => ?_)
      refine WP.done ?_
      refine WP.no rfl rfl ?_
      refine WP.skip ?_
      refine WP.seq ?_
      refine WP.region ?_
      refine WL.run 1 [] [0, 2, 3, 4, 5, 30] (fun _ => [(0, .pointer (some ⟨b_0, 0, none⟩)), (2, .pointer (some ⟨b1, 0, none⟩)), (3, .nilIface), (4, .pointer (some ⟨b2, 0, none⟩)), (5, .nilIface), (30, .pointer (some ⟨b_0, 0, none⟩))]) (fun _ => [(b_0, .cells #[.string r11.s, .int .i64 r11.at_] 132 (0, 0)), (b1, .cells #[.int .u64 0, .int .u64 0, .bool false, .int .i64 0, .bool false, .int .i64 0, .int .i64 0, .string (⟨#[]⟩ : ByteArray)] 29 (0, 0)), (b2, .cells #[.int .u64 r3, .int .u64 r9, .bool false, .int .i64 0, .bool false, .int .i64 0, .int .i64 0, .string (⟨#[]⟩ : ByteArray)] 29 (0, 0))]) (fun _ => []) (fun _ => by kernel_rfl) (fun _ => ?_)
      obtain ⟨⟨r15, r16, r17⟩, h18, hM⟩ := bind_some hM
      dsimp only at hM
      refine WL.callE (X := Unit) [] [] [true, false, false] (fun _ => _) (ether_reader_get_calls k b_0 r11 2 (⟨#[116, 121, 112, 101]⟩ : ByteArray) _ h18) rfl rfl (fun _ h => h) (by kernel_rfl) (by kernel_rfl) (fun _ => rfl) (fun _ => ?_)
      refine WL.run 5 [] [0, 2, 3, 4, 5, 6] (fun _ => [(0, .pointer (some ⟨b_0, 0, none⟩)), (2, .pointer (some ⟨b1, 0, none⟩)), (3, .nilIface), (4, .pointer (some ⟨b2, 0, none⟩)), (5, Un1.v r16), (6, .int .u64 r15)]) (fun _ => [(b_0, .cells #[.string r17.s, .int .i64 r17.at_] 132 (0, 0)), (b1, .cells #[.int .u64 0, .int .u64 0, .bool false, .int .i64 0, .bool false, .int .i64 0, .int .i64 0, .string (⟨#[]⟩ : ByteArray)] 29 (0, 0)), (b2, .cells #[.int .u64 r3, .int .u64 r9, .bool false, .int .i64 0, .bool false, .int .i64 0, .int .i64 0, .string (⟨#[]⟩ : ByteArray)] 29 (0, 0))]) (fun _ => []) (fun _ => by kernel_rfl) (fun _ => ?_)
      refine WP.done ?_
      refine WP.seq ?_
      refine WP.run [] [0, 2, 3, 4, 5, 7] (fun _ => [(0, .pointer (some ⟨b_0, 0, none⟩)), (2, .pointer (some ⟨b1, 0, none⟩)), (3, .nilIface), (4, .pointer (some ⟨b2, 0, none⟩)), (5, Un1.v r16), (7, .int .i64 (i64 r15))]) (fun _ => [(b_0, .cells #[.string r17.s, .int .i64 r17.at_] 132 (0, 0)), (b1, .cells #[.int .u64 0, .int .u64 0, .bool false, .int .i64 0, .bool false, .int .i64 0, .int .i64 0, .string (⟨#[]⟩ : ByteArray)] 29 (0, 0)), (b2, .cells #[.int .u64 r3, .int .u64 r9, .bool false, .int .i64 0, .bool false, .int .i64 0, .int .i64 0, .string (⟨#[]⟩ : ByteArray)] 29 (0, 0))]) (fun _ => []) (fun _ => by kernel_rfl) (fun _ => ?_)
      refine WP.seqJoin (σ := Un1 × Int × ByteArray × Int × Int × Int × Bool × Int × Bool × Int × Int × ByteArray) (fun st => ether_reader_frame.k1 st.1 st.2.1 st.2.2.1 st.2.2.2.1 st.2.2.2.2.1 st.2.2.2.2.2.1 st.2.2.2.2.2.2.1 st.2.2.2.2.2.2.2.1 st.2.2.2.2.2.2.2.2.1 st.2.2.2.2.2.2.2.2.2.1 st.2.2.2.2.2.2.2.2.2.2.1 st.2.2.2.2.2.2.2.2.2.2.2 = some r) (fun st => [(0, .pointer (some ⟨b_0, 0, none⟩)), (2, .pointer (some ⟨b1, 0, none⟩)), (3, .nilIface), (4, .pointer (some ⟨b2, 0, none⟩)), (5, Un1.v st.1), (7, .int .i64 st.2.1)]) (fun st => Sat w Z [(b_0, .cells #[.string st.2.2.1, .int .i64 st.2.2.2.1] 132 (0, 0)), (b2, .cells #[.int .u64 st.2.2.2.2.1, .int .u64 st.2.2.2.2.2.1, .bool st.2.2.2.2.2.2.1, .int .i64 st.2.2.2.2.2.2.2.1, .bool st.2.2.2.2.2.2.2.2.1, .int .i64 st.2.2.2.2.2.2.2.2.2.1, .int .i64 st.2.2.2.2.2.2.2.2.2.2.1, .string st.2.2.2.2.2.2.2.2.2.2.2] 29 (0, 0)), (b1, .cells #[.int .u64 0, .int .u64 0, .bool false, .int .i64 0, .bool false, .int .i64 0, .int .i64 0, .string (⟨#[]⟩ : ByteArray)] 29 (0, 0))] [] Glob) (fun st hM => ?_) (fun K1 => ?_)
      ·
        obtain ⟨x29, x30, x31, x32, x33, x34, x35, x36, x37, x38, x39, x40⟩ := st
        replace hM : ether_reader_frame.k1 x29 x30 x31 x32 x33 x34 x35 x36 x37 x38 x39 x40 = some r := hM
        unfold ether_reader_frame.k1 at hM
        show WP _ _ _ _ _ [(0, .pointer (some ⟨b_0, 0, none⟩)), (2, .pointer (some ⟨b1, 0, none⟩)), (3, .nilIface), (4, .pointer (some ⟨b2, 0, none⟩)), (5, Un1.v x29), (7, .int .i64 x30)] (Sat w Z [(b_0, .cells #[.string x31, .int .i64 x32] 132 (0, 0)), (b2, .cells #[.int .u64 x33, .int .u64 x34, .bool x35, .int .i64 x36, .bool x37, .int .i64 x38, .int .i64 x39, .string x40] 29 (0, 0)), (b1, .cells #[.int .u64 0, .int .u64 0, .bool false, .int .i64 0, .bool false, .int .i64 0, .int .i64 0, .string (⟨#[]⟩ : ByteArray)] 29 (0, 0))] [] Glob)
        refine WP.seq ?_
        refine WP.seq ?_
        refine WP.region ?_
        refine WL.run 1 [] [0, 2, 3, 4, 5, 7, 47] (fun _ => [(0, .pointer (some ⟨b_0, 0, none⟩)), (2, .pointer (some ⟨b1, 0, none⟩)), (3, .nilIface), (4, .pointer (some ⟨b2, 0, none⟩)), (5, Un1.v x29), (7, .int .i64 x30), (47, Un1.v x29)]) (fun _ => [(b_0, .cells #[.string x31, .int .i64 x32] 132 (0, 0)), (b2, .cells #[.int .u64 x33, .int .u64 x34, .bool x35, .int .i64 x36, .bool x37, .int .i64 x38, .int .i64 x39, .string x40] 29 (0, 0)), (b1, .cells #[.int .u64 0, .int .u64 0, .bool false, .int .i64 0, .bool false, .int .i64 0, .int .i64 0, .string (⟨#[]⟩ : ByteArray)] 29 (0, 0))]) (fun _ => []) (fun _ => by kernel_rfl) (fun _ => ?_)
        rcases x29 with _ | ⟨q41, q42⟩
        · dsimp only at hM
          refine WL.run 1 [] [0, 2, 3, 4, 5, 7, 48] (fun _ => [(0, .pointer (some ⟨b_0, 0, none⟩)), (2, .pointer (some ⟨b1, 0, none⟩)), (3, .nilIface), (4, .pointer (some ⟨b2, 0, none⟩)), (5, .nilIface), (7, .int .i64 x30), (48, .bool false)]) (fun _ => [(b_0, .cells #[.string x31, .int .i64 x32] 132 (0, 0)), (b2, .cells #[.int .u64 x33, .int .u64 x34, .bool x35, .int .i64 x36, .bool x37, .int .i64 x38, .int .i64 x39, .string x40] 29 (0, 0)), (b1, .cells #[.int .u64 0, .int .u64 0, .bool false, .int .i64 0, .bool false, .int .i64 0, .int .i64 0, .string (⟨#[]⟩ : ByteArray)] 29 (0, 0))]) (fun _ => []) (fun _ => by kernel_rfl) (fun _ => ?_)
          refine WP.done ?_
          refine WP.no rfl rfl ?_
          refine WP.skip ?_
          refine WP.seq ?_
          refine WP.region ?_
          refine WL.run 2 [] [2, 3, 4, 51, 52] (fun _ => [(2, .pointer (some ⟨b1, 0, none⟩)), (3, .nilIface), (4, .pointer (some ⟨b2, 0, none⟩)), (51, .pointer (some ⟨b_0, 0, none⟩)), (52, .int .i64 x30)]) (fun _ => [(b_0, .cells #[.string x31, .int .i64 x32] 132 (0, 0)), (b2, .cells #[.int .u64 x33, .int .u64 x34, .bool x35, .int .i64 x36, .bool x37, .int .i64 x38, .int .i64 x39, .string x40] 29 (0, 0)), (b1, .cells #[.int .u64 0, .int .u64 0, .bool false, .int .i64 0, .bool false, .int .i64 0, .int .i64 0, .string (⟨#[]⟩ : ByteArray)] 29 (0, 0))]) (fun _ => []) (fun _ => by kernel_rfl) (fun _ => ?_)
          obtain ⟨⟨r43, r44⟩, h45, hM⟩ := bind_some hM
          dsimp only at hM
          refine WL.callE (X := Unit) [] [] [true, true, false] (fun _ => _) (ether_reader_body_calls b_0 b2 (ether_reader.mk x31 x32) (api_Frame.mk x33 x34 (api_Tag.mk x35 x36 x37 x38) x39 x40) x30 _ h45) rfl rfl (fun _ h => h) (by kernel_rfl) (by kernel_rfl) (fun _ => rfl) (fun _ => ?_)
          refine WL.run 1 [] [2, 3, 4, 8] (fun _ => [(2, .pointer (some ⟨b1, 0, none⟩)), (3, .nilIface), (4, .pointer (some ⟨b2, 0, none⟩)), (8, Un1.v r43)]) (fun _ => [(b_0, .cells #[.string x31, .int .i64 x32] 132 (0, 0)), (b2, .cells #[.int .u64 r44.Dst, .int .u64 r44.Src, .bool r44.Tag.Has, .int .i64 r44.Tag.Pri, .bool r44.Tag.Dei, .int .i64 r44.Tag.Vid, .int .i64 r44.Type_, .string r44.Body] 29 (0, 0)), (b1, .cells #[.int .u64 0, .int .u64 0, .bool false, .int .i64 0, .bool false, .int .i64 0, .int .i64 0, .string (⟨#[]⟩ : ByteArray)] 29 (0, 0))]) (fun _ => []) (fun _ => by kernel_rfl) (fun _ => ?_)
          refine WP.done ?_
          refine WP.seq ?_
          refine WP.run [1, 1, 1, 1, 1, 1, 1, 1, 2, 2, 2, 2, 2, 2, 2, 2] [2, 3] (fun _ => [(2, .pointer (some ⟨b1, 0, none⟩)), (3, Un1.v r43)]) (fun _ => [(b_0, .cells #[.string x31, .int .i64 x32] 132 (0, 0)), (b2, .cells #[.int .u64 r44.Dst, .int .u64 r44.Src, .bool r44.Tag.Has, .int .i64 r44.Tag.Pri, .bool r44.Tag.Dei, .int .i64 r44.Tag.Vid, .int .i64 r44.Type_, .string r44.Body] 29 (0, 0)), (b1, .cells #[.int .u64 r44.Dst, .int .u64 r44.Src, .bool r44.Tag.Has, .int .i64 r44.Tag.Pri, .bool r44.Tag.Dei, .int .i64 r44.Tag.Vid, .int .i64 r44.Type_, .string r44.Body] 29 (0, 0))]) (fun _ => [b1, b1, b1, b1, b1, b1, b1, b1, b2, b2, b2, b2, b2, b2, b2, b2]) (fun _ => by kernel_rfl) (fun _ => ?_)
          refine WP.keep [true, false, true] (by kernel_rfl : _ = [(b_0, .cells #[.string x31, .int .i64 x32] 132 (0, 0)), (b1, .cells #[.int .u64 r44.Dst, .int .u64 r44.Src, .bool r44.Tag.Has, .int .i64 r44.Tag.Pri, .bool r44.Tag.Dei, .int .i64 r44.Tag.Vid, .int .i64 r44.Type_, .string r44.Body] 29 (0, 0))]) ?_
          rcases r43 with _ | ⟨q46, q47⟩
          · dsimp only at hM
            obtain rfl := Option.some.inj hM
            exact WP.ret [1, 1, 1, 1, 1, 1, 1, 1] [b1, b1, b1, b1, b1, b1, b1, b1] (.tuple #[.agg #[.int .u64 r44.Dst, .int .u64 r44.Src, .bool r44.Tag.Has, .int .i64 r44.Tag.Pri, .bool r44.Tag.Dei, .int .i64 r44.Tag.Vid, .int .i64 r44.Type_, .string r44.Body], .nilIface]) (by kernel_rfl) (fun w' hw => ⟨(), rfl, hw.pick [0] (by kernel_rfl)⟩)
          · dsimp only at hM
            obtain rfl := Option.some.inj hM
            exact WP.ret [1, 1, 1, 1, 1, 1, 1, 1] [b1, b1, b1, b1, b1, b1, b1, b1] (.tuple #[.agg #[.int .u64 r44.Dst, .int .u64 r44.Src, .bool r44.Tag.Has, .int .i64 r44.Tag.Pri, .bool r44.Tag.Dei, .int .i64 r44.Tag.Vid, .int .i64 r44.Type_, .string r44.Body], .iface 183 (.agg #[.string q46, .iface 30 (.int .i64 q47)])]) (by kernel_rfl) (fun w' hw => ⟨(), rfl, hw.pick [0] (by kernel_rfl)⟩)
        · dsimp only at hM
          refine WL.run 1 [] [0, 2, 3, 4, 5, 7, 48] (fun _ => [(0, .pointer (some ⟨b_0, 0, none⟩)), (2, .pointer (some ⟨b1, 0, none⟩)), (3, .nilIface), (4, .pointer (some ⟨b2, 0, none⟩)), (5, .iface 183 (.agg #[.string q41, .iface 30 (.int .i64 q42)])), (7, .int .i64 x30), (48, .bool true)]) (fun _ => [(b_0, .cells #[.string x31, .int .i64 x32] 132 (0, 0)), (b2, .cells #[.int .u64 x33, .int .u64 x34, .bool x35, .int .i64 x36, .bool x37, .int .i64 x38, .int .i64 x39, .string x40] 29 (0, 0)), (b1, .cells #[.int .u64 0, .int .u64 0, .bool false, .int .i64 0, .bool false, .int .i64 0, .int .i64 0, .string (⟨#[]⟩ : ByteArray)] 29 (0, 0))]) (fun _ => []) (fun _ => by kernel_rfl) (fun _ => ?_)
          refine WP.done ?_
          refine WP.yes rfl rfl ?_
          refine WP.seq ?_
          refine WP.run [1, 1, 1, 1, 1, 1, 1, 1, 2, 2, 2, 2, 2, 2, 2, 2] [0, 2, 3, 4, 7] (fun _ => [(0, .pointer (some ⟨b_0, 0, none⟩)), (2, .pointer (some ⟨b1, 0, none⟩)), (3, .iface 183 (.agg #[.string q41, .iface 30 (.int .i64 q42)])), (4, .pointer (some ⟨b2, 0, none⟩)), (7, .int .i64 x30)]) (fun _ => [(b_0, .cells #[.string x31, .int .i64 x32] 132 (0, 0)), (b2, .cells #[.int .u64 x33, .int .u64 x34, .bool x35, .int .i64 x36, .bool x37, .int .i64 x38, .int .i64 x39, .string x40] 29 (0, 0)), (b1, .cells #[.int .u64 x33, .int .u64 x34, .bool x35, .int .i64 x36, .bool x37, .int .i64 x38, .int .i64 x39, .string x40] 29 (0, 0))]) (fun _ => [b1, b1, b1, b1, b1, b1, b1, b1, b2, b2, b2, b2, b2, b2, b2, b2]) (fun _ => by kernel_rfl) (fun _ => ?_)
          obtain rfl := Option.some.inj hM
          exact WP.ret [2, 2, 2, 2, 2, 2, 2, 2] [b1, b1, b1, b1, b1, b1, b1, b1] (.tuple #[.agg #[.int .u64 x33, .int .u64 x34, .bool x35, .int .i64 x36, .bool x37, .int .i64 x38, .int .i64 x39, .string x40], .iface 183 (.agg #[.string q41, .iface 30 (.int .i64 q42)])]) (by kernel_rfl) (fun w' hw => ⟨(), rfl, hw.pick [0] (by kernel_rfl)⟩)
      ·
        refine WP.seq ?_
        refine WP.region ?_
        refine WL.run 1 [] [0, 2, 3, 4, 5, 7, 36] (fun _ => [(0, .pointer (some ⟨b_0, 0, none⟩)), (2, .pointer (some ⟨b1, 0, none⟩)), (3, .nilIface), (4, .pointer (some ⟨b2, 0, none⟩)), (5, Un1.v r16), (7, .int .i64 (i64 r15)), (36, Un1.v r16)]) (fun _ => [(b_0, .cells #[.string r17.s, .int .i64 r17.at_] 132 (0, 0)), (b1, .cells #[.int .u64 0, .int .u64 0, .bool false, .int .i64 0, .bool false, .int .i64 0, .int .i64 0, .string (⟨#[]⟩ : ByteArray)] 29 (0, 0)), (b2, .cells #[.int .u64 r3, .int .u64 r9, .bool false, .int .i64 0, .bool false, .int .i64 0, .int .i64 0, .string (⟨#[]⟩ : ByteArray)] 29 (0, 0))]) (fun _ => []) (fun _ => by kernel_rfl) (fun _ => ?_)
        rcases r16 with _ | ⟨q25, q26⟩
        · dsimp only at hM
          refine WL.run 5 [] [0, 2, 3, 4, 5, 7, 41] (fun _ => [(0, .pointer (some ⟨b_0, 0, none⟩)), (2, .pointer (some ⟨b1, 0, none⟩)), (3, .nilIface), (4, .pointer (some ⟨b2, 0, none⟩)), (5, .nilIface), (7, .int .i64 (i64 r15)), (41, .bool ((i64 r15) == 33024))]) (fun _ => [(b_0, .cells #[.string r17.s, .int .i64 r17.at_] 132 (0, 0)), (b1, .cells #[.int .u64 0, .int .u64 0, .bool false, .int .i64 0, .bool false, .int .i64 0, .int .i64 0, .string (⟨#[]⟩ : ByteArray)] 29 (0, 0)), (b2, .cells #[.int .u64 r3, .int .u64 r9, .bool false, .int .i64 0, .bool false, .int .i64 0, .int .i64 0, .string (⟨#[]⟩ : ByteArray)] 29 (0, 0))]) (fun _ => []) (fun _ => by kernel_rfl) (fun _ => ?_)
          refine WP.done ?_
          refine WP.cond ((i64 r15) == 33024) rfl rfl (fun c19 => ?_) (fun c19 => ?_)
          · replace hM := cond_t hM c19
            refine WP.region ?_
            refine WL.run 1 [] [0, 2, 3, 4, 5, 7, 43] (fun _ => [(0, .pointer (some ⟨b_0, 0, none⟩)), (2, .pointer (some ⟨b1, 0, none⟩)), (3, .nilIface), (4, .pointer (some ⟨b2, 0, none⟩)), (5, .nilIface), (7, .int .i64 (i64 r15)), (43, .pointer (some ⟨b_0, 0, none⟩))]) (fun _ => [(b_0, .cells #[.string r17.s, .int .i64 r17.at_] 132 (0, 0)), (b1, .cells #[.int .u64 0, .int .u64 0, .bool false, .int .i64 0, .bool false, .int .i64 0, .int .i64 0, .string (⟨#[]⟩ : ByteArray)] 29 (0, 0)), (b2, .cells #[.int .u64 r3, .int .u64 r9, .bool false, .int .i64 0, .bool false, .int .i64 0, .int .i64 0, .string (⟨#[]⟩ : ByteArray)] 29 (0, 0))]) (fun _ => []) (fun _ => by kernel_rfl) (fun _ => ?_)
            obtain ⟨⟨r20, r21, r22, r23⟩, h24, hM⟩ := bind_some hM
            dsimp only at hM
            refine WL.callE (X := Unit) [] [] [true, false, true] (fun _ => _) (ether_reader_tagged_calls k b_0 b2 r17 (api_Frame.mk r3 r9 (api_Tag.mk false 0 false 0) 0 (⟨#[]⟩ : ByteArray)) _ h24) rfl rfl (fun _ h => h) (by kernel_rfl) (by kernel_rfl) (fun _ => rfl) (fun _ => ?_)
            refine WL.run 5 [] [0, 2, 3, 4, 5, 7] (fun _ => [(0, .pointer (some ⟨b_0, 0, none⟩)), (2, .pointer (some ⟨b1, 0, none⟩)), (3, .nilIface), (4, .pointer (some ⟨b2, 0, none⟩)), (5, Un1.v r21), (7, .int .i64 r20)]) (fun _ => [(b_0, .cells #[.string r22.s, .int .i64 r22.at_] 132 (0, 0)), (b2, .cells #[.int .u64 r23.Dst, .int .u64 r23.Src, .bool r23.Tag.Has, .int .i64 r23.Tag.Pri, .bool r23.Tag.Dei, .int .i64 r23.Tag.Vid, .int .i64 r23.Type_, .string r23.Body] 29 (0, 0)), (b1, .cells #[.int .u64 0, .int .u64 0, .bool false, .int .i64 0, .bool false, .int .i64 0, .int .i64 0, .string (⟨#[]⟩ : ByteArray)] 29 (0, 0))]) (fun _ => []) (fun _ => by kernel_rfl) (fun _ => ?_)
            refine WP.done ?_
            rcases r21 with _ | ⟨q27, q28⟩
            · dsimp only at hM
              exact WP.sub [0, 2, 3, 4, 5, 7] (by kernel_rfl) (WP.pick [0, 1, 2] (by kernel_rfl) (by kernel_rfl) (K1 (none, r20, r22.s, r22.at_, r23.Dst, r23.Src, r23.Tag.Has, r23.Tag.Pri, r23.Tag.Dei, r23.Tag.Vid, r23.Type_, r23.Body) hM))
            · dsimp only at hM
              exact WP.sub [0, 2, 3, 4, 5, 7] (by kernel_rfl) (WP.pick [0, 1, 2] (by kernel_rfl) (by kernel_rfl) (K1 (some (q27, q28), r20, r22.s, r22.at_, r23.Dst, r23.Src, r23.Tag.Has, r23.Tag.Pri, r23.Tag.Dei, r23.Tag.Vid, r23.Type_, r23.Body) hM))
          · replace hM := cond_f hM c19
            refine WP.skip ?_
            exact WP.sub [0, 2, 3, 4, 5, 7] (by kernel_rfl) (WP.pick [0, 2, 1] (by kernel_rfl) (by kernel_rfl) (K1 (none, i64 r15, r17.s, r17.at_, r3, r9, false, 0, false, 0, 0, (⟨#[]⟩ : ByteArray)) hM))
        · dsimp only at hM
          refine WL.run 5 [] [0, 2, 3, 4, 5, 7, 41] (fun _ => [(0, .pointer (some ⟨b_0, 0, none⟩)), (2, .pointer (some ⟨b1, 0, none⟩)), (3, .nilIface), (4, .pointer (some ⟨b2, 0, none⟩)), (5, .iface 183 (.agg #[.string q25, .iface 30 (.int .i64 q26)])), (7, .int .i64 (i64 r15)), (41, .bool false)]) (fun _ => [(b_0, .cells #[.string r17.s, .int .i64 r17.at_] 132 (0, 0)), (b1, .cells #[.int .u64 0, .int .u64 0, .bool false, .int .i64 0, .bool false, .int .i64 0, .int .i64 0, .string (⟨#[]⟩ : ByteArray)] 29 (0, 0)), (b2, .cells #[.int .u64 r3, .int .u64 r9, .bool false, .int .i64 0, .bool false, .int .i64 0, .int .i64 0, .string (⟨#[]⟩ : ByteArray)] 29 (0, 0))]) (fun _ => []) (fun _ => by kernel_rfl) (fun _ => ?_)
          refine WP.done ?_
          refine WP.no rfl rfl ?_
          refine WP.skip ?_
          exact WP.sub [0, 2, 3, 4, 5, 7] (by kernel_rfl) (WP.pick [0, 2, 1] (by kernel_rfl) (by kernel_rfl) (K1 (some (q25, q26), i64 r15, r17.s, r17.at_, r3, r9, false, 0, false, 0, 0, (⟨#[]⟩ : ByteArray)) hM))
    · dsimp only at hM
      refine WL.run 1 [] [0, 2, 3, 4, 5, 26] (fun _ => [(0, .pointer (some ⟨b_0, 0, none⟩)), (2, .pointer (some ⟨b1, 0, none⟩)), (3, .nilIface), (4, .pointer (some ⟨b2, 0, none⟩)), (5, .iface 183 (.agg #[.string q13, .iface 30 (.int .i64 q14)])), (26, .bool true)]) (fun _ => [(b_0, .cells #[.string r11.s, .int .i64 r11.at_] 132 (0, 0)), (b1, .cells #[.int .u64 0, .int .u64 0, .bool false, .int .i64 0, .bool false, .int .i64 0, .int .i64 0, .string (⟨#[]⟩ : ByteArray)] 29 (0, 0)), (b2, .cells #[.int .u64 r3, .int .u64 r9, .bool false, .int .i64 0, .bool false, .int .i64 0, .int .i64 0, .string (⟨#[]⟩ : ByteArray)] 29 (0, 0))]) (fun _ => []) (fun _ => by kernel_rfl) (fun _ => ?_)
      refine WP.done ?_
      refine WP.yes rfl rfl ?_
      refine WP.seq ?_
      refine WP.run [2, 2, 2, 2, 2, 2, 2, 2, 1, 1, 1, 1, 1, 1, 1, 1] [0, 2, 3, 4, 5] (fun _ => [(0, .pointer (some ⟨b_0, 0, none⟩)), (2, .pointer (some ⟨b1, 0, none⟩)), (3, .iface 183 (.agg #[.string q13, .iface 30 (.int .i64 q14)])), (4, .pointer (some ⟨b2, 0, none⟩)), (5, .iface 183 (.agg #[.string q13, .iface 30 (.int .i64 q14)]))]) (fun _ => [(b_0, .cells #[.string r11.s, .int .i64 r11.at_] 132 (0, 0)), (b1, .cells #[.int .u64 r3, .int .u64 r9, .bool false, .int .i64 0, .bool false, .int .i64 0, .int .i64 0, .string (⟨#[]⟩ : ByteArray)] 29 (0, 0)), (b2, .cells #[.int .u64 r3, .int .u64 r9, .bool false, .int .i64 0, .bool false, .int .i64 0, .int .i64 0, .string (⟨#[]⟩ : ByteArray)] 29 (0, 0))]) (fun _ => [b1, b1, b1, b1, b1, b1, b1, b1, b2, b2, b2, b2, b2, b2, b2, b2]) (fun _ => by kernel_rfl) (fun _ => ?_)
      obtain rfl := Option.some.inj hM
      exact WP.ret [1, 1, 1, 1, 1, 1, 1, 1] [b1, b1, b1, b1, b1, b1, b1, b1] (.tuple #[.agg #[.int .u64 r3, .int .u64 r9, .bool false, .int .i64 0, .bool false, .int .i64 0, .int .i64 0, .string (⟨#[]⟩ : ByteArray)], .iface 183 (.agg #[.string q13, .iface 30 (.int .i64 q14)])]) (by kernel_rfl) (fun w' hw => ⟨(), rfl, hw.pick [0] (by kernel_rfl)⟩)
  · dsimp only at hM
    refine WL.run 1 [] [0, 2, 3, 4, 5, 16] (fun _ => [(0, .pointer (some ⟨b_0, 0, none⟩)), (2, .pointer (some ⟨b1, 0, none⟩)), (3, .nilIface), (4, .pointer (some ⟨b2, 0, none⟩)), (5, .iface 183 (.agg #[.string q7, .iface 30 (.int .i64 q8)])), (16, .bool true)]) (fun _ => [(b_0, .cells #[.string r5.s, .int .i64 r5.at_] 132 (0, 0)), (b1, .cells #[.int .u64 0, .int .u64 0, .bool false, .int .i64 0, .bool false, .int .i64 0, .int .i64 0, .string (⟨#[]⟩ : ByteArray)] 29 (0, 0)), (b2, .cells #[.int .u64 r3, .int .u64 0, .bool false, .int .i64 0, .bool false, .int .i64 0, .int .i64 0, .string (⟨#[]⟩ : ByteArray)] 29 (0, 0))]) (fun _ => []) (fun _ => by kernel_rfl) (fun _ => ?_)
    refine WP.done ?_
    refine WP.yes rfl rfl ?_
    refine WP.seq ?_
    refine WP.run [2, 2, 2, 2, 2, 2, 2, 2, 1, 1, 1, 1, 1, 1, 1, 1] [0, 2, 3, 4, 5] (fun _ => [(0, .pointer (some ⟨b_0, 0, none⟩)), (2, .pointer (some ⟨b1, 0, none⟩)), (3, .iface 183 (.agg #[.string q7, .iface 30 (.int .i64 q8)])), (4, .pointer (some ⟨b2, 0, none⟩)), (5, .iface 183 (.agg #[.string q7, .iface 30 (.int .i64 q8)]))]) (fun _ => [(b_0, .cells #[.string r5.s, .int .i64 r5.at_] 132 (0, 0)), (b1, .cells #[.int .u64 r3, .int .u64 0, .bool false, .int .i64 0, .bool false, .int .i64 0, .int .i64 0, .string (⟨#[]⟩ : ByteArray)] 29 (0, 0)), (b2, .cells #[.int .u64 r3, .int .u64 0, .bool false, .int .i64 0, .bool false, .int .i64 0, .int .i64 0, .string (⟨#[]⟩ : ByteArray)] 29 (0, 0))]) (fun _ => [b1, b1, b1, b1, b1, b1, b1, b1, b2, b2, b2, b2, b2, b2, b2, b2]) (fun _ => by kernel_rfl) (fun _ => ?_)
    obtain rfl := Option.some.inj hM
    exact WP.ret [1, 1, 1, 1, 1, 1, 1, 1] [b1, b1, b1, b1, b1, b1, b1, b1] (.tuple #[.agg #[.int .u64 r3, .int .u64 0, .bool false, .int .i64 0, .bool false, .int .i64 0, .int .i64 0, .string (⟨#[]⟩ : ByteArray)], .iface 183 (.agg #[.string q7, .iface 30 (.int .i64 q8)])]) (by kernel_rfl) (fun w' hw => ⟨(), rfl, hw.pick [0] (by kernel_rfl)⟩)

end Go.Proofs.YtbodofjnfmjbpaaGreatDoor

namespace Go.Proofs.YtbodofjnfmjbpaaGreatDoor
open Go Eng
set_option linter.unusedVariables false
set_option linter.unusedSimpArgs false

/-! ### errors.Is: function 83 -/
def errors_Is.f (a1 : Int) : Option (Bool) :=
  some false

set_option maxRecDepth 100000 in
theorem errors_Is_calls (a1 : Int) (r : Bool) (h : errors_Is.f a1 = some r) : Pure Tryz.prog Glob 83 #[.nilIface, .iface 30 (.int .i64 a1)] (.bool r) := by
  intro w Z hS
  refine calls_of (args := [.nilIface, .iface 30 (.int .i64 a1)]) (L := [(0, .nilIface), (1, .iface 30 (.int .i64 a1))]) (N := 22) (S := Sat w Z [] [] Glob) Tryz.func83 rfl rfl (Nat.le_of_ble_eq_true rfl) rfl hS ?_
  have hM := h
  clear h hS
  unfold errors_Is.f at hM
  refine WP.seq ?_
  refine WP.run [] [0, 1, 4] (fun _ => [(0, .nilIface), (1, .iface 30 (.int .i64 a1)), (4, .bool false)]) (fun _ => []) (fun _ => []) (fun _ => by kernel_rfl) (fun _ => ?_)
  refine WP.seq ?_
  refine WP.seq ?_
  refine WP.run [] [0, 1, 4, 11] (fun _ => [(0, .nilIface), (1, .iface 30 (.int .i64 a1)), (4, .bool false), (11, .bool true)]) (fun _ => []) (fun _ => []) (fun _ => by kernel_rfl) (fun _ => ?_)
  refine WP.yes rfl rfl ?_
  refine WP.seq ?_
  refine WP.run [] [0, 1, 4] (fun _ => [(0, .nilIface), (1, .iface 30 (.int .i64 a1)), (4, .bool false)]) (fun _ => []) (fun _ => []) (fun _ => by kernel_rfl) (fun _ => ?_)
  obtain rfl := Option.some.inj hM
  exact WP.ret [] [] (.bool false) (by kernel_rfl) (fun w' hw => ⟨rfl, hw.pick [] rfl⟩)

end Go.Proofs.YtbodofjnfmjbpaaGreatDoor

namespace Go.Proofs.YtbodofjnfmjbpaaGreatDoor
open Go Eng
set_option linter.unusedVariables false
set_option linter.unusedSimpArgs false

/-! ### (gangway/ether.odd).Unwrap: function 163 -/
def ether_odd_Unwrap.f (a0 : ByteArray) (a0_1 : Int) : Option (Int) :=
  some a0_1

set_option maxRecDepth 100000 in
theorem ether_odd_Unwrap_calls (a0 : ByteArray) (a0_1 : Int) (r : Int) (h : ether_odd_Unwrap.f a0 a0_1 = some r) : Pure Tryz.prog Glob 163 #[.agg #[.string a0, .iface 30 (.int .i64 a0_1)]] (.iface 30 (.int .i64 r)) := by
  intro w Z hS
  refine calls_of (args := [.agg #[.string a0, .iface 30 (.int .i64 a0_1)]]) (L := [(0, .agg #[.string a0, .iface 30 (.int .i64 a0_1)])]) (N := 5) (S := Sat w Z [] [] Glob) Tryz.func163 rfl rfl (Nat.le_of_ble_eq_true rfl) rfl hS ?_
  have hM := h
  clear h hS
  unfold ether_odd_Unwrap.f at hM
  refine WP.seq ?_
  refine WP.run [] [1, 2] (fun b1 => [(1, .pointer (some ⟨b1, 0, none⟩)), (2, .nilIface)]) (fun b1 => [(b1, .cells #[.string a0, .iface 30 (.int .i64 a0_1)] 183 (0, 0))]) (fun b1 => []) (fun b1 => by kernel_rfl) (fun b1 => ?_)
  refine WP.seq ?_
  refine WP.run [0] [2] (fun _ => [(2, .iface 30 (.int .i64 a0_1))]) (fun _ => [(b1, .cells #[.string a0, .iface 30 (.int .i64 a0_1)] 183 (0, 0))]) (fun _ => [b1]) (fun _ => by kernel_rfl) (fun _ => ?_)
  refine WP.keep [false] (by kernel_rfl : _ = []) ?_
  obtain rfl := Option.some.inj hM
  exact WP.ret [] [] (.iface 30 (.int .i64 a0_1)) (by kernel_rfl) (fun w' hw => ⟨rfl, hw.pick [] rfl⟩)

end Go.Proofs.YtbodofjnfmjbpaaGreatDoor

namespace Go.Proofs.YtbodofjnfmjbpaaGreatDoor
open Go Eng
set_option linter.unusedVariables false
set_option linter.unusedSimpArgs false

/-! ### errors.is: function 109 -/
def errors_is.f (a0 : ByteArray) (a0_1 : Int) (a1 : Int) (a2 : Bool) : Option (Bool) :=
  (ether_odd_Unwrap.f a0 a0_1).bind fun r2 =>
  bif (a2 && (r2 == a1)) then
    some true
  else
    some false

set_option maxRecDepth 100000 in
theorem errors_is_calls (a0 : ByteArray) (a0_1 : Int) (a1 : Int) (a2 : Bool) (r : Bool) (h : errors_is.f a0 a0_1 a1 a2 = some r) : Pure Tryz.prog Glob 109 #[.iface 183 (.agg #[.string a0, .iface 30 (.int .i64 a0_1)]), .iface 30 (.int .i64 a1), .bool a2] (.bool r) := by
  intro w Z hS
  refine calls_of (args := [.iface 183 (.agg #[.string a0, .iface 30 (.int .i64 a0_1)]), .iface 30 (.int .i64 a1), .bool a2]) (L := [(0, .iface 183 (.agg #[.string a0, .iface 30 (.int .i64 a0_1)])), (1, .iface 30 (.int .i64 a1)), (2, .bool a2)]) (N := 54) (S := Sat w Z [] [] Glob) Tryz.func109 rfl rfl (Nat.le_of_ble_eq_true rfl) rfl hS ?_
  have hM := h
  clear h hS
  unfold errors_is.f at hM
  refine WP.seq ?_
  refine WP.run [] [0, 1, 2, 6] (fun _ => [(0, .iface 183 (.agg #[.string a0, .iface 30 (.int .i64 a0_1)])), (1, .iface 30 (.int .i64 a1)), (2, .bool a2), (6, .bool false)]) (fun _ => []) (fun _ => []) (fun _ => by kernel_rfl) (fun _ => ?_)
  refine WP.block ?_
  refine WP.unroll 40 ?_
  refine WP.block ?_
  refine WP.seq ?_
  refine WP.seq ?_
  refine WP.region ?_
  refine WL.run 2 [] [0, 1, 2, 6, 14, 15] (fun _ => [(0, .iface 183 (.agg #[.string a0, .iface 30 (.int .i64 a0_1)])), (1, .iface 30 (.int .i64 a1)), (2, .bool a2), (6, .bool false), (14, .bool a2), (15, .bool a2)]) (fun _ => []) (fun _ => []) (fun _ => by kernel_rfl) (fun _ => ?_)
  refine WL.sub [0, 1, 2, 6, 14, 15] (L' := [(0, .iface 183 (.agg #[.string a0, .iface 30 (.int .i64 a0_1)])), (1, .iface 30 (.int .i64 a1)), (2, .bool a2), (6, .bool false), (14, .bool a2), (15, .bool a2)]) (by kernel_rfl) ?_
  refine WL.both (fun b' => [(0, .iface 183 (.agg #[.string a0, .iface 30 (.int .i64 a0_1)])), (1, .iface 30 (.int .i64 a1)), (2, .bool a2), (6, .bool false), (14, .bool a2), (15, .bool b')]) a2 4 [] [] [0, 1, 2, 6, 14, 15, 19] (fun b' => [(0, .iface 183 (.agg #[.string a0, .iface 30 (.int .i64 a0_1)])), (1, .iface 30 (.int .i64 a1)), (2, .bool a2), (6, .bool false), (14, .bool a2), (15, .bool b'), (19, .bool false)]) [] [] (fun _ => by kernel_rfl) (fun _ => by kernel_rfl) ?_
  refine WP.done ?_
  refine WP.no rfl rfl ?_
  refine WP.skip ?_
  refine WP.seq ?_
  refine WP.seq ?_
  refine WP.region ?_
  refine WL.run 1 [] [0, 1, 2, 6, 14, 15, 19, 21] (fun _ => [(0, .iface 183 (.agg #[.string a0, .iface 30 (.int .i64 a0_1)])), (1, .iface 30 (.int .i64 a1)), (2, .bool a2), (6, .bool false), (14, .bool a2), (15, .bool a2), (19, .bool false), (21, .iface 183 (.agg #[.string a0, .iface 30 (.int .i64 a0_1)]))]) (fun _ => []) (fun _ => []) (fun _ => by kernel_rfl) (fun _ => ?_)
  refine WL.val (fun _ => run_assertLacks (t := 183) (v := .agg #[.string a0, .iface 30 (.int .i64 a0_1)]) (z := .nilIface) (by kernel_rfl) (by kernel_rfl) (by kernel_rfl)) (by kernel_rfl) (by kernel_rfl) rfl ?_
  refine WL.run 5 [] [0, 1, 2, 6, 7, 8, 14, 15, 19, 20, 21, 22, 23, 24] (fun _ => [(0, .iface 183 (.agg #[.string a0, .iface 30 (.int .i64 a0_1)])), (1, .iface 30 (.int .i64 a1)), (2, .bool a2), (6, .bool false), (7, .nilIface), (8, .bool false), (14, .bool a2), (15, .bool a2), (19, .bool false), (20, .tuple #[.nilIface, .bool false]), (21, .iface 183 (.agg #[.string a0, .iface 30 (.int .i64 a0_1)])), (22, .tuple #[.nilIface, .bool false]), (23, .nilIface), (24, .bool false)]) (fun _ => []) (fun _ => []) (fun _ => by kernel_rfl) (fun _ => ?_)
  refine WP.done ?_
  refine WP.seq ?_
  refine WP.run [] [0, 1, 2, 6, 7, 8, 14, 15, 19, 20, 21, 22, 23, 24, 25, 26, 27, 28, 29, 30] (fun _ => [(0, .iface 183 (.agg #[.string a0, .iface 30 (.int .i64 a0_1)])), (1, .iface 30 (.int .i64 a1)), (2, .bool a2), (6, .bool false), (7, .nilIface), (8, .bool false), (14, .bool a2), (15, .bool a2), (19, .bool false), (20, .tuple #[.nilIface, .bool false]), (21, .iface 183 (.agg #[.string a0, .iface 30 (.int .i64 a0_1)])), (22, .tuple #[.nilIface, .bool false]), (23, .nilIface), (24, .bool false), (25, .bool false), (26, .bool false), (27, .tuple #[]), (28, .tuple #[]), (29, .tuple #[]), (30, .bool false)]) (fun _ => []) (fun _ => []) (fun _ => by kernel_rfl) (fun _ => ?_)
  refine WP.no rfl rfl ?_
  refine WP.skip ?_
  refine WP.seq ?_
  refine WP.run [] [0, 1, 2, 6, 7, 8, 14, 15, 19, 20, 21, 22, 23, 24, 25, 26, 27, 28, 29, 30, 31] (fun _ => [(0, .iface 183 (.agg #[.string a0, .iface 30 (.int .i64 a0_1)])), (1, .iface 30 (.int .i64 a1)), (2, .bool a2), (6, .bool false), (7, .nilIface), (8, .bool false), (14, .bool a2), (15, .bool a2), (19, .bool false), (20, .tuple #[.nilIface, .bool false]), (21, .iface 183 (.agg #[.string a0, .iface 30 (.int .i64 a0_1)])), (22, .tuple #[.nilIface, .bool false]), (23, .nilIface), (24, .bool false), (25, .bool false), (26, .bool false), (27, .tuple #[]), (28, .tuple #[]), (29, .tuple #[]), (30, .bool false), (31, .iface 183 (.agg #[.string a0, .iface 30 (.int .i64 a0_1)]))]) (fun _ => []) (fun _ => []) (fun _ => by kernel_rfl) (fun _ => ?_)
  refine WP.block ?_
  refine WP.seq ?_
  refine WP.region ?_
  refine WL.val (fun _ => run_assertHas (t := 183) (v := .agg #[.string a0, .iface 30 (.int .i64 a0_1)]) (by kernel_rfl) (by kernel_rfl)) (by kernel_rfl) (by kernel_rfl) rfl ?_
  refine WL.run 2 [] [0, 1, 2, 6, 7, 8, 14, 15, 19, 20, 21, 22, 23, 24, 25, 26, 27, 28, 29, 30, 31, 32, 33, 34] (fun _ => [(0, .iface 183 (.agg #[.string a0, .iface 30 (.int .i64 a0_1)])), (1, .iface 30 (.int .i64 a1)), (2, .bool a2), (6, .bool false), (7, .nilIface), (8, .bool false), (14, .bool a2), (15, .bool a2), (19, .bool false), (20, .tuple #[.nilIface, .bool false]), (21, .iface 183 (.agg #[.string a0, .iface 30 (.int .i64 a0_1)])), (22, .tuple #[.nilIface, .bool false]), (23, .nilIface), (24, .bool false), (25, .bool false), (26, .bool false), (27, .tuple #[]), (28, .tuple #[]), (29, .tuple #[]), (30, .bool false), (31, .iface 183 (.agg #[.string a0, .iface 30 (.int .i64 a0_1)])), (32, .tuple #[.iface 183 (.agg #[.string a0, .iface 30 (.int .i64 a0_1)]), .bool true]), (33, .bool true), (34, .iface 183 (.agg #[.string a0, .iface 30 (.int .i64 a0_1)]))]) (fun _ => []) (fun _ => []) (fun _ => by kernel_rfl) (fun _ => ?_)
  refine WP.done ?_
  refine WP.yes rfl rfl ?_
  refine WP.seq ?_
  refine WP.run [] [0, 1, 2, 6, 7, 8, 9, 14, 15, 19, 20, 21, 22, 23, 24, 25, 26, 27, 28, 29, 30, 31, 32, 33, 34] (fun _ => [(0, .iface 183 (.agg #[.string a0, .iface 30 (.int .i64 a0_1)])), (1, .iface 30 (.int .i64 a1)), (2, .bool a2), (6, .bool false), (7, .nilIface), (8, .bool false), (9, .iface 183 (.agg #[.string a0, .iface 30 (.int .i64 a0_1)])), (14, .bool a2), (15, .bool a2), (19, .bool false), (20, .tuple #[.nilIface, .bool false]), (21, .iface 183 (.agg #[.string a0, .iface 30 (.int .i64 a0_1)])), (22, .tuple #[.nilIface, .bool false]), (23, .nilIface), (24, .bool false), (25, .bool false), (26, .bool false), (27, .tuple #[]), (28, .tuple #[]), (29, .tuple #[]), (30, .bool false), (31, .iface 183 (.agg #[.string a0, .iface 30 (.int .i64 a0_1)])), (32, .tuple #[.iface 183 (.agg #[.string a0, .iface 30 (.int .i64 a0_1)]), .bool true]), (33, .bool true), (34, .iface 183 (.agg #[.string a0, .iface 30 (.int .i64 a0_1)]))]) (fun _ => []) (fun _ => []) (fun _ => by kernel_rfl) (fun _ => ?_)
  refine WP.seq ?_
  refine WP.region ?_
  refine WL.run 1 [] [0, 1, 2, 6, 7, 8, 9, 14, 15, 19, 20, 21, 22, 23, 24, 25, 26, 27, 28, 29, 30, 31, 32, 33, 34, 35] (fun _ => [(0, .iface 183 (.agg #[.string a0, .iface 30 (.int .i64 a0_1)])), (1, .iface 30 (.int .i64 a1)), (2, .bool a2), (6, .bool false), (7, .nilIface), (8, .bool false), (9, .iface 183 (.agg #[.string a0, .iface 30 (.int .i64 a0_1)])), (14, .bool a2), (15, .bool a2), (19, .bool false), (20, .tuple #[.nilIface, .bool false]), (21, .iface 183 (.agg #[.string a0, .iface 30 (.int .i64 a0_1)])), (22, .tuple #[.nilIface, .bool false]), (23, .nilIface), (24, .bool false), (25, .bool false), (26, .bool false), (27, .tuple #[]), (28, .tuple #[]), (29, .tuple #[]), (30, .bool false), (31, .iface 183 (.agg #[.string a0, .iface 30 (.int .i64 a0_1)])), (32, .tuple #[.iface 183 (.agg #[.string a0, .iface 30 (.int .i64 a0_1)]), .bool true]), (33, .bool true), (34, .iface 183 (.agg #[.string a0, .iface 30 (.int .i64 a0_1)])), (35, .iface 183 (.agg #[.string a0, .iface 30 (.int .i64 a0_1)]))]) (fun _ => []) (fun _ => []) (fun _ => by kernel_rfl) (fun _ => ?_)
  obtain ⟨r2, h3, hM⟩ := bind_some hM
  refine WL.callP [] [] (ether_odd_Unwrap_calls a0 a0_1 _ h3) (fun _ h => h) (by kernel_rfl) (by kernel_rfl) rfl ?_
  refine WL.run 1 [] [0, 1, 2, 6, 7, 8, 9, 14, 15, 19, 20, 21, 22, 23, 24, 25, 26, 27, 28, 29, 30, 31, 32, 33, 34, 35, 36] (fun _ => [(0, .iface 30 (.int .i64 r2)), (1, .iface 30 (.int .i64 a1)), (2, .bool a2), (6, .bool false), (7, .nilIface), (8, .bool false), (9, .iface 183 (.agg #[.string a0, .iface 30 (.int .i64 a0_1)])), (14, .bool a2), (15, .bool a2), (19, .bool false), (20, .tuple #[.nilIface, .bool false]), (21, .iface 183 (.agg #[.string a0, .iface 30 (.int .i64 a0_1)])), (22, .tuple #[.nilIface, .bool false]), (23, .nilIface), (24, .bool false), (25, .bool false), (26, .bool false), (27, .tuple #[]), (28, .tuple #[]), (29, .tuple #[]), (30, .bool false), (31, .iface 183 (.agg #[.string a0, .iface 30 (.int .i64 a0_1)])), (32, .tuple #[.iface 183 (.agg #[.string a0, .iface 30 (.int .i64 a0_1)]), .bool true]), (33, .bool true), (34, .iface 183 (.agg #[.string a0, .iface 30 (.int .i64 a0_1)])), (35, .iface 183 (.agg #[.string a0, .iface 30 (.int .i64 a0_1)])), (36, .iface 30 (.int .i64 r2))]) (fun _ => []) (fun _ => []) (fun _ => by kernel_rfl) (fun _ => ?_)
  refine WP.done ?_
  refine WP.seq ?_
  refine WP.run [] [0, 1, 2, 6, 7, 8, 9, 14, 15, 19, 20, 21, 22, 23, 24, 25, 26, 27, 28, 29, 30, 31, 32, 33, 34, 35, 36, 37, 38] (fun _ => [(0, .iface 30 (.int .i64 r2)), (1, .iface 30 (.int .i64 a1)), (2, .bool a2), (6, .bool false), (7, .nilIface), (8, .bool false), (9, .iface 183 (.agg #[.string a0, .iface 30 (.int .i64 a0_1)])), (14, .bool a2), (15, .bool a2), (19, .bool false), (20, .tuple #[.nilIface, .bool false]), (21, .iface 183 (.agg #[.string a0, .iface 30 (.int .i64 a0_1)])), (22, .tuple #[.nilIface, .bool false]), (23, .nilIface), (24, .bool false), (25, .bool false), (26, .bool false), (27, .tuple #[]), (28, .tuple #[]), (29, .tuple #[]), (30, .bool false), (31, .iface 183 (.agg #[.string a0, .iface 30 (.int .i64 a0_1)])), (32, .tuple #[.iface 183 (.agg #[.string a0, .iface 30 (.int .i64 a0_1)]), .bool true]), (33, .bool true), (34, .iface 183 (.agg #[.string a0, .iface 30 (.int .i64 a0_1)])), (35, .iface 183 (.agg #[.string a0, .iface 30 (.int .i64 a0_1)])), (36, .iface 30 (.int .i64 r2)), (37, .iface 30 (.int .i64 r2)), (38, .bool false)]) (fun _ => []) (fun _ => []) (fun _ => by kernel_rfl) (fun _ => ?_)
  refine WP.no rfl rfl ?_
  refine WP.skip ?_
  refine WP.leave ?_
  refine WP.leave ?_
  refine WP.round ?_
  refine WP.block ?_
  refine WP.seq ?_
  refine WP.seq ?_
  refine WP.region ?_
  refine WL.run 2 [] [0, 1, 2, 6, 7, 8, 9, 14, 15, 19, 20, 21, 22, 23, 24, 25, 26, 27, 28, 29, 30, 31, 32, 33, 34, 35, 36, 37, 38] (fun _ => [(0, .iface 30 (.int .i64 r2)), (1, .iface 30 (.int .i64 a1)), (2, .bool a2), (6, .bool false), (7, .nilIface), (8, .bool false), (9, .iface 183 (.agg #[.string a0, .iface 30 (.int .i64 a0_1)])), (14, .bool a2), (15, .bool a2), (19, .bool false), (20, .tuple #[.nilIface, .bool false]), (21, .iface 183 (.agg #[.string a0, .iface 30 (.int .i64 a0_1)])), (22, .tuple #[.nilIface, .bool false]), (23, .nilIface), (24, .bool false), (25, .bool false), (26, .bool false), (27, .tuple #[]), (28, .tuple #[]), (29, .tuple #[]), (30, .bool false), (31, .iface 183 (.agg #[.string a0, .iface 30 (.int .i64 a0_1)])), (32, .tuple #[.iface 183 (.agg #[.string a0, .iface 30 (.int .i64 a0_1)]), .bool true]), (33, .bool true), (34, .iface 183 (.agg #[.string a0, .iface 30 (.int .i64 a0_1)])), (35, .iface 183 (.agg #[.string a0, .iface 30 (.int .i64 a0_1)])), (36, .iface 30 (.int .i64 r2)), (37, .iface 30 (.int .i64 r2)), (38, .bool false)]) (fun _ => []) (fun _ => []) (fun _ => by kernel_rfl) (fun _ => ?_)
  refine WL.sub [0, 1, 2, 6, 7, 8, 9, 14, 15, 19, 20, 21, 22, 23, 24, 25, 26, 27, 28, 29, 30, 31, 32, 33, 34, 35, 36, 37, 38] (L' := [(0, .iface 30 (.int .i64 r2)), (1, .iface 30 (.int .i64 a1)), (2, .bool a2), (6, .bool false), (7, .nilIface), (8, .bool false), (9, .iface 183 (.agg #[.string a0, .iface 30 (.int .i64 a0_1)])), (14, .bool a2), (15, .bool a2), (19, .bool false), (20, .tuple #[.nilIface, .bool false]), (21, .iface 183 (.agg #[.string a0, .iface 30 (.int .i64 a0_1)])), (22, .tuple #[.nilIface, .bool false]), (23, .nilIface), (24, .bool false), (25, .bool false), (26, .bool false), (27, .tuple #[]), (28, .tuple #[]), (29, .tuple #[]), (30, .bool false), (31, .iface 183 (.agg #[.string a0, .iface 30 (.int .i64 a0_1)])), (32, .tuple #[.iface 183 (.agg #[.string a0, .iface 30 (.int .i64 a0_1)]), .bool true]), (33, .bool true), (34, .iface 183 (.agg #[.string a0, .iface 30 (.int .i64 a0_1)])), (35, .iface 183 (.agg #[.string a0, .iface 30 (.int .i64 a0_1)])), (36, .iface 30 (.int .i64 r2)), (37, .iface 30 (.int .i64 r2)), (38, .bool false)]) (by kernel_rfl) ?_
  refine WL.both (fun b' => [(0, .iface 30 (.int .i64 r2)), (1, .iface 30 (.int .i64 a1)), (2, .bool a2), (6, .bool false), (7, .nilIface), (8, .bool false), (9, .iface 183 (.agg #[.string a0, .iface 30 (.int .i64 a0_1)])), (14, .bool a2), (15, .bool b'), (19, .bool false), (20, .tuple #[.nilIface, .bool false]), (21, .iface 183 (.agg #[.string a0, .iface 30 (.int .i64 a0_1)])), (22, .tuple #[.nilIface, .bool false]), (23, .nilIface), (24, .bool false), (25, .bool false), (26, .bool false), (27, .tuple #[]), (28, .tuple #[]), (29, .tuple #[]), (30, .bool false), (31, .iface 183 (.agg #[.string a0, .iface 30 (.int .i64 a0_1)])), (32, .tuple #[.iface 183 (.agg #[.string a0, .iface 30 (.int .i64 a0_1)]), .bool true]), (33, .bool true), (34, .iface 183 (.agg #[.string a0, .iface 30 (.int .i64 a0_1)])), (35, .iface 183 (.agg #[.string a0, .iface 30 (.int .i64 a0_1)])), (36, .iface 30 (.int .i64 r2)), (37, .iface 30 (.int .i64 r2)), (38, .bool false)]) a2 4 [] [] [0, 1, 2, 6, 7, 8, 9, 14, 15, 19, 20, 21, 22, 23, 24, 25, 26, 27, 28, 29, 30, 31, 32, 33, 34, 35, 36, 37, 38] (fun b' => [(0, .iface 30 (.int .i64 r2)), (1, .iface 30 (.int .i64 a1)), (2, .bool a2), (6, .bool false), (7, .nilIface), (8, .bool false), (9, .iface 183 (.agg #[.string a0, .iface 30 (.int .i64 a0_1)])), (14, .bool a2), (15, .bool b'), (19, .bool (b' && (r2 == a1))), (20, .tuple #[.nilIface, .bool false]), (21, .iface 183 (.agg #[.string a0, .iface 30 (.int .i64 a0_1)])), (22, .tuple #[.nilIface, .bool false]), (23, .nilIface), (24, .bool false), (25, .bool false), (26, .bool false), (27, .tuple #[]), (28, .tuple #[]), (29, .tuple #[]), (30, .bool false), (31, .iface 183 (.agg #[.string a0, .iface 30 (.int .i64 a0_1)])), (32, .tuple #[.iface 183 (.agg #[.string a0, .iface 30 (.int .i64 a0_1)]), .bool true]), (33, .bool true), (34, .iface 183 (.agg #[.string a0, .iface 30 (.int .i64 a0_1)])), (35, .iface 183 (.agg #[.string a0, .iface 30 (.int .i64 a0_1)])), (36, .iface 30 (.int .i64 r2)), (37, .iface 30 (.int .i64 r2)), (38, .bool false)]) [] [] (fun _ => by kernel_rfl) (fun _ => by kernel_rfl) ?_
  refine WP.done ?_
  refine WP.cond (a2 && (r2 == a1)) rfl rfl (fun c4 => ?_) (fun c4 => ?_)
  · replace hM := cond_t hM c4
    refine WP.seq ?_
    refine WP.run [] [0, 1, 2, 6, 7, 8, 9, 14, 15, 19, 20, 21, 22, 23, 24, 25, 26, 27, 28, 29, 30, 31, 32, 33, 34, 35, 36, 37, 38] (fun _ => [(0, .iface 30 (.int .i64 r2)), (1, .iface 30 (.int .i64 a1)), (2, .bool a2), (6, .bool true), (7, .nilIface), (8, .bool false), (9, .iface 183 (.agg #[.string a0, .iface 30 (.int .i64 a0_1)])), (14, .bool a2), (15, .bool a2), (19, .bool (a2 && (r2 == a1))), (20, .tuple #[.nilIface, .bool false]), (21, .iface 183 (.agg #[.string a0, .iface 30 (.int .i64 a0_1)])), (22, .tuple #[.nilIface, .bool false]), (23, .nilIface), (24, .bool false), (25, .bool false), (26, .bool false), (27, .tuple #[]), (28, .tuple #[]), (29, .tuple #[]), (30, .bool false), (31, .iface 183 (.agg #[.string a0, .iface 30 (.int .i64 a0_1)])), (32, .tuple #[.iface 183 (.agg #[.string a0, .iface 30 (.int .i64 a0_1)]), .bool true]), (33, .bool true), (34, .iface 183 (.agg #[.string a0, .iface 30 (.int .i64 a0_1)])), (35, .iface 183 (.agg #[.string a0, .iface 30 (.int .i64 a0_1)])), (36, .iface 30 (.int .i64 r2)), (37, .iface 30 (.int .i64 r2)), (38, .bool false)]) (fun _ => []) (fun _ => []) (fun _ => by kernel_rfl) (fun _ => ?_)
    obtain rfl := Option.some.inj hM
    exact WP.ret [] [] (.bool true) (by kernel_rfl) (fun w' hw => ⟨rfl, hw.pick [] rfl⟩)
  · replace hM := cond_f hM c4
    refine WP.skip ?_
    refine WP.seq ?_
    refine WP.seq ?_
    refine WP.region ?_
    refine WL.run 1 [] [0, 1, 2, 6, 7, 8, 9, 14, 15, 19, 20, 21, 22, 23, 24, 25, 26, 27, 28, 29, 30, 31, 32, 33, 34, 35, 36, 37, 38] (fun _ => [(0, .iface 30 (.int .i64 r2)), (1, .iface 30 (.int .i64 a1)), (2, .bool a2), (6, .bool false), (7, .nilIface), (8, .bool false), (9, .iface 183 (.agg #[.string a0, .iface 30 (.int .i64 a0_1)])), (14, .bool a2), (15, .bool a2), (19, .bool (a2 && (r2 == a1))), (20, .tuple #[.nilIface, .bool false]), (21, .iface 30 (.int .i64 r2)), (22, .tuple #[.nilIface, .bool false]), (23, .nilIface), (24, .bool false), (25, .bool false), (26, .bool false), (27, .tuple #[]), (28, .tuple #[]), (29, .tuple #[]), (30, .bool false), (31, .iface 183 (.agg #[.string a0, .iface 30 (.int .i64 a0_1)])), (32, .tuple #[.iface 183 (.agg #[.string a0, .iface 30 (.int .i64 a0_1)]), .bool true]), (33, .bool true), (34, .iface 183 (.agg #[.string a0, .iface 30 (.int .i64 a0_1)])), (35, .iface 183 (.agg #[.string a0, .iface 30 (.int .i64 a0_1)])), (36, .iface 30 (.int .i64 r2)), (37, .iface 30 (.int .i64 r2)), (38, .bool false)]) (fun _ => []) (fun _ => []) (fun _ => by kernel_rfl) (fun _ => ?_)
    refine WL.val (fun _ => run_assertLacks (t := 30) (v := .int .i64 r2) (z := .nilIface) (by kernel_rfl) (by kernel_rfl) (by kernel_rfl)) (by kernel_rfl) (by kernel_rfl) rfl ?_
    refine WL.run 5 [] [0, 1, 2, 6, 7, 8, 9, 14, 15, 19, 20, 21, 22, 23, 24, 25, 26, 27, 28, 29, 30, 31, 32, 33, 34, 35, 36, 37, 38] (fun _ => [(0, .iface 30 (.int .i64 r2)), (1, .iface 30 (.int .i64 a1)), (2, .bool a2), (6, .bool false), (7, .nilIface), (8, .bool false), (9, .iface 183 (.agg #[.string a0, .iface 30 (.int .i64 a0_1)])), (14, .bool a2), (15, .bool a2), (19, .bool (a2 && (r2 == a1))), (20, .tuple #[.nilIface, .bool false]), (21, .iface 30 (.int .i64 r2)), (22, .tuple #[.nilIface, .bool false]), (23, .nilIface), (24, .bool false), (25, .bool false), (26, .bool false), (27, .tuple #[]), (28, .tuple #[]), (29, .tuple #[]), (30, .bool false), (31, .iface 183 (.agg #[.string a0, .iface 30 (.int .i64 a0_1)])), (32, .tuple #[.iface 183 (.agg #[.string a0, .iface 30 (.int .i64 a0_1)]), .bool true]), (33, .bool true), (34, .iface 183 (.agg #[.string a0, .iface 30 (.int .i64 a0_1)])), (35, .iface 183 (.agg #[.string a0, .iface 30 (.int .i64 a0_1)])), (36, .iface 30 (.int .i64 r2)), (37, .iface 30 (.int .i64 r2)), (38, .bool false)]) (fun _ => []) (fun _ => []) (fun _ => by kernel_rfl) (fun _ => ?_)
    refine WP.done ?_
    refine WP.seq ?_
    refine WP.run [] [0, 1, 2, 6, 7, 8, 9, 14, 15, 19, 20, 21, 22, 23, 24, 25, 26, 27, 28, 29, 30, 31, 32, 33, 34, 35, 36, 37, 38] (fun _ => [(0, .iface 30 (.int .i64 r2)), (1, .iface 30 (.int .i64 a1)), (2, .bool a2), (6, .bool false), (7, .nilIface), (8, .bool false), (9, .iface 183 (.agg #[.string a0, .iface 30 (.int .i64 a0_1)])), (14, .bool a2), (15, .bool a2), (19, .bool (a2 && (r2 == a1))), (20, .tuple #[.nilIface, .bool false]), (21, .iface 30 (.int .i64 r2)), (22, .tuple #[.nilIface, .bool false]), (23, .nilIface), (24, .bool false), (25, .bool false), (26, .bool false), (27, .tuple #[]), (28, .tuple #[]), (29, .tuple #[]), (30, .bool false), (31, .iface 183 (.agg #[.string a0, .iface 30 (.int .i64 a0_1)])), (32, .tuple #[.iface 183 (.agg #[.string a0, .iface 30 (.int .i64 a0_1)]), .bool true]), (33, .bool true), (34, .iface 183 (.agg #[.string a0, .iface 30 (.int .i64 a0_1)])), (35, .iface 183 (.agg #[.string a0, .iface 30 (.int .i64 a0_1)])), (36, .iface 30 (.int .i64 r2)), (37, .iface 30 (.int .i64 r2)), (38, .bool false)]) (fun _ => []) (fun _ => []) (fun _ => by kernel_rfl) (fun _ => ?_)
    refine WP.no rfl rfl ?_
    refine WP.skip ?_
    refine WP.seq ?_
    refine WP.run [] [0, 1, 2, 6, 7, 8, 9, 14, 15, 19, 20, 21, 22, 23, 24, 25, 26, 27, 28, 29, 30, 31, 32, 33, 34, 35, 36, 37, 38] (fun _ => [(0, .iface 30 (.int .i64 r2)), (1, .iface 30 (.int .i64 a1)), (2, .bool a2), (6, .bool false), (7, .nilIface), (8, .bool false), (9, .iface 183 (.agg #[.string a0, .iface 30 (.int .i64 a0_1)])), (14, .bool a2), (15, .bool a2), (19, .bool (a2 && (r2 == a1))), (20, .tuple #[.nilIface, .bool false]), (21, .iface 30 (.int .i64 r2)), (22, .tuple #[.nilIface, .bool false]), (23, .nilIface), (24, .bool false), (25, .bool false), (26, .bool false), (27, .tuple #[]), (28, .tuple #[]), (29, .tuple #[]), (30, .bool false), (31, .iface 30 (.int .i64 r2)), (32, .tuple #[.iface 183 (.agg #[.string a0, .iface 30 (.int .i64 a0_1)]), .bool true]), (33, .bool true), (34, .iface 183 (.agg #[.string a0, .iface 30 (.int .i64 a0_1)])), (35, .iface 183 (.agg #[.string a0, .iface 30 (.int .i64 a0_1)])), (36, .iface 30 (.int .i64 r2)), (37, .iface 30 (.int .i64 r2)), (38, .bool false)]) (fun _ => []) (fun _ => []) (fun _ => by kernel_rfl) (fun _ => ?_)
    refine WP.block ?_
    refine WP.seq ?_
    refine WP.region ?_
    refine WL.val (fun _ => run_assertLacks (t := 30) (v := .int .i64 r2) (z := .nilIface) (by kernel_rfl) (by kernel_rfl) (by kernel_rfl)) (by kernel_rfl) (by kernel_rfl) rfl ?_
    refine WL.run 2 [] [0, 1, 2, 6, 7, 8, 9, 14, 15, 19, 20, 21, 22, 23, 24, 25, 26, 27, 28, 29, 30, 31, 32, 33, 34, 35, 36, 37, 38] (fun _ => [(0, .iface 30 (.int .i64 r2)), (1, .iface 30 (.int .i64 a1)), (2, .bool a2), (6, .bool false), (7, .nilIface), (8, .bool false), (9, .iface 183 (.agg #[.string a0, .iface 30 (.int .i64 a0_1)])), (14, .bool a2), (15, .bool a2), (19, .bool (a2 && (r2 == a1))), (20, .tuple #[.nilIface, .bool false]), (21, .iface 30 (.int .i64 r2)), (22, .tuple #[.nilIface, .bool false]), (23, .nilIface), (24, .bool false), (25, .bool false), (26, .bool false), (27, .tuple #[]), (28, .tuple #[]), (29, .tuple #[]), (30, .bool false), (31, .iface 30 (.int .i64 r2)), (32, .tuple #[.nilIface, .bool false]), (33, .bool false), (34, .nilIface), (35, .iface 183 (.agg #[.string a0, .iface 30 (.int .i64 a0_1)])), (36, .iface 30 (.int .i64 r2)), (37, .iface 30 (.int .i64 r2)), (38, .bool false)]) (fun _ => []) (fun _ => []) (fun _ => by kernel_rfl) (fun _ => ?_)
    refine WP.done ?_
    refine WP.no rfl rfl ?_
    refine WP.seq ?_
    refine WP.region ?_
    refine WL.val (fun _ => run_assertLacks (t := 30) (v := .int .i64 r2) (z := .nilIface) (by kernel_rfl) (by kernel_rfl) (by kernel_rfl)) (by kernel_rfl) (by kernel_rfl) rfl ?_
    refine WL.run 2 [] [0, 1, 2, 6, 7, 8, 9, 14, 15, 19, 20, 21, 22, 23, 24, 25, 26, 27, 28, 29, 30, 31, 32, 33, 34, 35, 36, 37, 38, 39, 40, 41] (fun _ => [(0, .iface 30 (.int .i64 r2)), (1, .iface 30 (.int .i64 a1)), (2, .bool a2), (6, .bool false), (7, .nilIface), (8, .bool false), (9, .iface 183 (.agg #[.string a0, .iface 30 (.int .i64 a0_1)])), (14, .bool a2), (15, .bool a2), (19, .bool (a2 && (r2 == a1))), (20, .tuple #[.nilIface, .bool false]), (21, .iface 30 (.int .i64 r2)), (22, .tuple #[.nilIface, .bool false]), (23, .nilIface), (24, .bool false), (25, .bool false), (26, .bool false), (27, .tuple #[]), (28, .tuple #[]), (29, .tuple #[]), (30, .bool false), (31, .iface 30 (.int .i64 r2)), (32, .tuple #[.nilIface, .bool false]), (33, .bool false), (34, .nilIface), (35, .iface 183 (.agg #[.string a0, .iface 30 (.int .i64 a0_1)])), (36, .iface 30 (.int .i64 r2)), (37, .iface 30 (.int .i64 r2)), (38, .bool false), (39, .tuple #[.nilIface, .bool false]), (40, .bool false), (41, .nilIface)]) (fun _ => []) (fun _ => []) (fun _ => by kernel_rfl) (fun _ => ?_)
    refine WP.done ?_
    refine WP.no rfl rfl ?_
    refine WP.seq ?_
    refine WP.run [] [0, 1, 2, 6, 7, 8, 9, 14, 15, 19, 20, 21, 22, 23, 24, 25, 26, 27, 28, 29, 30, 31, 32, 33, 34, 35, 36, 37, 38, 39, 40, 41] (fun _ => [(0, .iface 30 (.int .i64 r2)), (1, .iface 30 (.int .i64 a1)), (2, .bool a2), (6, .bool false), (7, .nilIface), (8, .bool false), (9, .iface 183 (.agg #[.string a0, .iface 30 (.int .i64 a0_1)])), (14, .bool a2), (15, .bool a2), (19, .bool (a2 && (r2 == a1))), (20, .tuple #[.nilIface, .bool false]), (21, .iface 30 (.int .i64 r2)), (22, .tuple #[.nilIface, .bool false]), (23, .nilIface), (24, .bool false), (25, .bool false), (26, .bool false), (27, .tuple #[]), (28, .tuple #[]), (29, .tuple #[]), (30, .bool false), (31, .iface 30 (.int .i64 r2)), (32, .tuple #[.nilIface, .bool false]), (33, .bool false), (34, .nilIface), (35, .iface 183 (.agg #[.string a0, .iface 30 (.int .i64 a0_1)])), (36, .iface 30 (.int .i64 r2)), (37, .iface 30 (.int .i64 r2)), (38, .bool false), (39, .tuple #[.nilIface, .bool false]), (40, .bool false), (41, .nilIface)]) (fun _ => []) (fun _ => []) (fun _ => by kernel_rfl) (fun _ => ?_)
    refine WP.seq ?_
    refine WP.run [] [0, 1, 2, 6, 7, 8, 9, 14, 15, 19, 20, 21, 22, 23, 24, 25, 26, 27, 28, 29, 30, 31, 32, 33, 34, 35, 36, 37, 38, 39, 40, 41] (fun _ => [(0, .iface 30 (.int .i64 r2)), (1, .iface 30 (.int .i64 a1)), (2, .bool a2), (6, .bool false), (7, .nilIface), (8, .bool false), (9, .iface 183 (.agg #[.string a0, .iface 30 (.int .i64 a0_1)])), (14, .bool a2), (15, .bool a2), (19, .bool (a2 && (r2 == a1))), (20, .tuple #[.nilIface, .bool false]), (21, .iface 30 (.int .i64 r2)), (22, .tuple #[.nilIface, .bool false]), (23, .nilIface), (24, .bool false), (25, .bool false), (26, .bool false), (27, .tuple #[]), (28, .tuple #[]), (29, .tuple #[]), (30, .bool false), (31, .iface 30 (.int .i64 r2)), (32, .tuple #[.nilIface, .bool false]), (33, .bool false), (34, .nilIface), (35, .iface 183 (.agg #[.string a0, .iface 30 (.int .i64 a0_1)])), (36, .iface 30 (.int .i64 r2)), (37, .iface 30 (.int .i64 r2)), (38, .bool false), (39, .tuple #[.nilIface, .bool false]), (40, .bool false), (41, .nilIface)]) (fun _ => []) (fun _ => []) (fun _ => by kernel_rfl) (fun _ => ?_)
    obtain rfl := Option.some.inj hM
    exact WP.ret [] [] (.bool false) (by kernel_rfl) (fun w' hw => ⟨rfl, hw.pick [] rfl⟩)

end Go.Proofs.YtbodofjnfmjbpaaGreatDoor

namespace Go.Proofs.YtbodofjnfmjbpaaGreatDoor
open Go Eng
set_option linter.unusedVariables false
set_option linter.unusedSimpArgs false

/-! ### errors.Is: function 83 -/
def errors_Is_1.f (a0 : ByteArray) (a0_1 : Int) (a1 : Int) : Option (Bool) :=
  (errors_is.f a0 a0_1 a1 true).bind fun r1 =>
  some r1

set_option maxRecDepth 100000 in
theorem errors_Is_1_calls (a0 : ByteArray) (a0_1 : Int) (a1 : Int) (r : Bool) (h : errors_Is_1.f a0 a0_1 a1 = some r) : Pure Tryz.prog Glob 83 #[.iface 183 (.agg #[.string a0, .iface 30 (.int .i64 a0_1)]), .iface 30 (.int .i64 a1)] (.bool r) := by
  intro w Z hS
  refine calls_of (args := [.iface 183 (.agg #[.string a0, .iface 30 (.int .i64 a0_1)]), .iface 30 (.int .i64 a1)]) (L := [(0, .iface 183 (.agg #[.string a0, .iface 30 (.int .i64 a0_1)])), (1, .iface 30 (.int .i64 a1))]) (N := 22) (S := Sat w Z [] [] Glob) Tryz.func83 rfl rfl (Nat.le_of_ble_eq_true rfl) rfl hS ?_
  have hM := h
  clear h hS
  unfold errors_Is_1.f at hM
  refine WP.seq ?_
  refine WP.run [] [0, 1, 4] (fun _ => [(0, .iface 183 (.agg #[.string a0, .iface 30 (.int .i64 a0_1)])), (1, .iface 30 (.int .i64 a1)), (4, .bool false)]) (fun _ => []) (fun _ => []) (fun _ => by kernel_rfl) (fun _ => ?_)
  refine WP.seq ?_
  refine WP.seq ?_
  refine WP.run [] [0, 1, 4, 11] (fun _ => [(0, .iface 183 (.agg #[.string a0, .iface 30 (.int .i64 a0_1)])), (1, .iface 30 (.int .i64 a1)), (4, .bool false), (11, .bool false)]) (fun _ => []) (fun _ => []) (fun _ => by kernel_rfl) (fun _ => ?_)
  refine WP.no rfl rfl ?_
  refine WP.skip ?_
  refine WP.seq ?_
  refine WP.run [] [0, 1, 4, 5] (fun _ => [(0, .iface 183 (.agg #[.string a0, .iface 30 (.int .i64 a0_1)])), (1, .iface 30 (.int .i64 a1)), (4, .bool false), (5, .bool true)]) (fun _ => []) (fun _ => []) (fun _ => by kernel_rfl) (fun _ => ?_)
  refine WP.seq ?_
  refine WP.region ?_
  refine WL.run 3 [] [4, 18, 19, 20] (fun _ => [(4, .bool false), (18, .iface 183 (.agg #[.string a0, .iface 30 (.int .i64 a0_1)])), (19, .iface 30 (.int .i64 a1)), (20, .bool true)]) (fun _ => []) (fun _ => []) (fun _ => by kernel_rfl) (fun _ => ?_)
  obtain ⟨r1, h2, hM⟩ := bind_some hM
  refine WL.callP [] [] (errors_is_calls a0 a0_1 a1 true _ h2) (fun _ h => h) (by kernel_rfl) (by kernel_rfl) rfl ?_
  refine WL.run 1 [] [4] (fun _ => [(4, .bool r1)]) (fun _ => []) (fun _ => []) (fun _ => by kernel_rfl) (fun _ => ?_)
  refine WP.done ?_
  obtain rfl := Option.some.inj hM
  exact WP.ret [] [] (.bool r1) (by kernel_rfl) (fun w' hw => ⟨rfl, hw.pick [] rfl⟩)

end Go.Proofs.YtbodofjnfmjbpaaGreatDoor

namespace Go.Proofs.YtbodofjnfmjbpaaGreatDoor
open Go Eng
set_option linter.unusedVariables false
set_option linter.unusedSimpArgs false

/-! ### errors.as: function 62 -/
def errors_as_1.f (a0 : ByteArray) (a0_1 : Int) (a1 : Int) : Option (Bool × Int) :=
  (ether_odd_Unwrap.f a0 a0_1).bind fun r3 =>
  some (true, r3)

set_option maxRecDepth 100000 in
theorem errors_as_1_calls (b_0 : Nat) (b_1 : Nat) (a0 : ByteArray) (a0_1 : Int) (a1 : Int) (r : Bool × Int) (h : errors_as_1.f a0 a0_1 a1 = some r) : Does Tryz.prog 62 #[.iface 183 (.agg #[.string a0, .iface 30 (.int .i64 a0_1)]), .iface 175 (.pointer (some ⟨b_0, 0, none⟩)), .agg #[.pointer (some ⟨2, 175, none⟩), .pointer (some ⟨b_1, 0, none⟩), .int .u64 150], .iface 148 (.agg #[.pointer (some ⟨2, 30, none⟩)])] [(b_0, .cells #[.int .i64 a1] 30 (0, 0)), (b_1, .cells #[.pointer (some ⟨b_0, 0, none⟩)] 175 (0, 0))] Glob (fun _ : Unit => .bool r.1) (fun _ => [(b_0, .cells #[.int .i64 r.2] 30 (0, 0)), (b_1, .cells #[.pointer (some ⟨b_0, 0, none⟩)] 175 (0, 0))]) (fun _ => []) (fun _ => Glob) := by
  intro w Z hS
  refine calls_of (args := [.iface 183 (.agg #[.string a0, .iface 30 (.int .i64 a0_1)]), .iface 175 (.pointer (some ⟨b_0, 0, none⟩)), .agg #[.pointer (some ⟨2, 175, none⟩), .pointer (some ⟨b_1, 0, none⟩), .int .u64 150], .iface 148 (.agg #[.pointer (some ⟨2, 30, none⟩)])]) (L := [(0, .iface 183 (.agg #[.string a0, .iface 30 (.int .i64 a0_1)])), (1, .iface 175 (.pointer (some ⟨b_0, 0, none⟩))), (2, .agg #[.pointer (some ⟨2, 175, none⟩), .pointer (some ⟨b_1, 0, none⟩), .int .u64 150]), (3, .iface 148 (.agg #[.pointer (some ⟨2, 30, none⟩)]))]) (N := 62) (S := Sat w Z [(b_0, .cells #[.int .i64 a1] 30 (0, 0)), (b_1, .cells #[.pointer (some ⟨b_0, 0, none⟩)] 175 (0, 0))] [] Glob) Tryz.func62 rfl rfl (Nat.le_of_ble_eq_true rfl) rfl hS ?_
  have hM := h
  clear h hS
  unfold errors_as_1.f at hM
  refine WP.seq ?_
  refine WP.run [] [0, 1, 3, 6, 8] (fun b1 => [(0, .iface 183 (.agg #[.string a0, .iface 30 (.int .i64 a0_1)])), (1, .iface 175 (.pointer (some ⟨b_0, 0, none⟩))), (3, .iface 148 (.agg #[.pointer (some ⟨2, 30, none⟩)])), (6, .pointer (some ⟨b1, 0, none⟩)), (8, .bool false)]) (fun b1 => [(b_0, .cells #[.int .i64 a1] 30 (0, 0)), (b_1, .cells #[.pointer (some ⟨b_0, 0, none⟩)] 175 (0, 0)), (b1, .cells #[.pointer (some ⟨2, 175, none⟩), .pointer (some ⟨b_1, 0, none⟩), .int .u64 150] 106 (0, 0))]) (fun b1 => []) (fun b1 => by kernel_rfl) (fun b1 => ?_)
  refine WP.block ?_
  refine WP.unroll 40 ?_
  refine WP.block ?_
  refine WP.seq ?_
  refine WP.seq ?_
  refine WP.run [] [0, 1, 3, 6, 8, 16, 17, 18, 19] (fun _ => [(0, .iface 183 (.agg #[.string a0, .iface 30 (.int .i64 a0_1)])), (1, .iface 175 (.pointer (some ⟨b_0, 0, none⟩))), (3, .iface 148 (.agg #[.pointer (some ⟨2, 30, none⟩)])), (6, .pointer (some ⟨b1, 0, none⟩)), (8, .bool false), (16, .iface 183 (.agg #[.string a0, .iface 30 (.int .i64 a0_1)])), (17, .iface 148 (.agg #[.pointer (some ⟨2, 183, none⟩)])), (18, .iface 148 (.agg #[.pointer (some ⟨2, 30, none⟩)])), (19, .bool false)]) (fun _ => [(b_0, .cells #[.int .i64 a1] 30 (0, 0)), (b_1, .cells #[.pointer (some ⟨b_0, 0, none⟩)] 175 (0, 0)), (b1, .cells #[.pointer (some ⟨2, 175, none⟩), .pointer (some ⟨b_1, 0, none⟩), .int .u64 150] 106 (0, 0))]) (fun _ => []) (fun _ => by kernel_rfl) (fun _ => ?_)
  refine WP.no rfl rfl ?_
  refine WP.skip ?_
  refine WP.seq ?_
  refine WP.seq ?_
  refine WP.region ?_
  refine WL.run 1 [] [0, 1, 3, 6, 8, 16, 17, 18, 19, 26] (fun _ => [(0, .iface 183 (.agg #[.string a0, .iface 30 (.int .i64 a0_1)])), (1, .iface 175 (.pointer (some ⟨b_0, 0, none⟩))), (3, .iface 148 (.agg #[.pointer (some ⟨2, 30, none⟩)])), (6, .pointer (some ⟨b1, 0, none⟩)), (8, .bool false), (16, .iface 183 (.agg #[.string a0, .iface 30 (.int .i64 a0_1)])), (17, .iface 148 (.agg #[.pointer (some ⟨2, 183, none⟩)])), (18, .iface 148 (.agg #[.pointer (some ⟨2, 30, none⟩)])), (19, .bool false), (26, .iface 183 (.agg #[.string a0, .iface 30 (.int .i64 a0_1)]))]) (fun _ => [(b_0, .cells #[.int .i64 a1] 30 (0, 0)), (b_1, .cells #[.pointer (some ⟨b_0, 0, none⟩)] 175 (0, 0)), (b1, .cells #[.pointer (some ⟨2, 175, none⟩), .pointer (some ⟨b_1, 0, none⟩), .int .u64 150] 106 (0, 0))]) (fun _ => []) (fun _ => by kernel_rfl) (fun _ => ?_)
  refine WL.val (fun _ => run_assertLacks (t := 183) (v := .agg #[.string a0, .iface 30 (.int .i64 a0_1)]) (z := .nilIface) (by kernel_rfl) (by kernel_rfl) (by kernel_rfl)) (by kernel_rfl) (by kernel_rfl) rfl ?_
  refine WL.run 5 [] [0, 1, 3, 6, 8, 9, 10, 16, 17, 18, 19, 25, 26, 27, 28, 29] (fun _ => [(0, .iface 183 (.agg #[.string a0, .iface 30 (.int .i64 a0_1)])), (1, .iface 175 (.pointer (some ⟨b_0, 0, none⟩))), (3, .iface 148 (.agg #[.pointer (some ⟨2, 30, none⟩)])), (6, .pointer (some ⟨b1, 0, none⟩)), (8, .bool false), (9, .nilIface), (10, .bool false), (16, .iface 183 (.agg #[.string a0, .iface 30 (.int .i64 a0_1)])), (17, .iface 148 (.agg #[.pointer (some ⟨2, 183, none⟩)])), (18, .iface 148 (.agg #[.pointer (some ⟨2, 30, none⟩)])), (19, .bool false), (25, .tuple #[.nilIface, .bool false]), (26, .iface 183 (.agg #[.string a0, .iface 30 (.int .i64 a0_1)])), (27, .tuple #[.nilIface, .bool false]), (28, .nilIface), (29, .bool false)]) (fun _ => [(b_0, .cells #[.int .i64 a1] 30 (0, 0)), (b_1, .cells #[.pointer (some ⟨b_0, 0, none⟩)] 175 (0, 0)), (b1, .cells #[.pointer (some ⟨2, 175, none⟩), .pointer (some ⟨b_1, 0, none⟩), .int .u64 150] 106 (0, 0))]) (fun _ => []) (fun _ => by kernel_rfl) (fun _ => ?_)
  refine WP.done ?_
  refine WP.seq ?_
  refine WP.run [] [0, 1, 3, 6, 8, 9, 10, 16, 17, 18, 19, 25, 26, 27, 28, 29, 30, 31, 32, 33, 34, 35] (fun _ => [(0, .iface 183 (.agg #[.string a0, .iface 30 (.int .i64 a0_1)])), (1, .iface 175 (.pointer (some ⟨b_0, 0, none⟩))), (3, .iface 148 (.agg #[.pointer (some ⟨2, 30, none⟩)])), (6, .pointer (some ⟨b1, 0, none⟩)), (8, .bool false), (9, .nilIface), (10, .bool false), (16, .iface 183 (.agg #[.string a0, .iface 30 (.int .i64 a0_1)])), (17, .iface 148 (.agg #[.pointer (some ⟨2, 183, none⟩)])), (18, .iface 148 (.agg #[.pointer (some ⟨2, 30, none⟩)])), (19, .bool false), (25, .tuple #[.nilIface, .bool false]), (26, .iface 183 (.agg #[.string a0, .iface 30 (.int .i64 a0_1)])), (27, .tuple #[.nilIface, .bool false]), (28, .nilIface), (29, .bool false), (30, .bool false), (31, .bool false), (32, .tuple #[]), (33, .tuple #[]), (34, .tuple #[]), (35, .bool false)]) (fun _ => [(b_0, .cells #[.int .i64 a1] 30 (0, 0)), (b_1, .cells #[.pointer (some ⟨b_0, 0, none⟩)] 175 (0, 0)), (b1, .cells #[.pointer (some ⟨2, 175, none⟩), .pointer (some ⟨b_1, 0, none⟩), .int .u64 150] 106 (0, 0))]) (fun _ => []) (fun _ => by kernel_rfl) (fun _ => ?_)
  refine WP.no rfl rfl ?_
  refine WP.skip ?_
  refine WP.seq ?_
  refine WP.run [] [0, 1, 3, 6, 8, 9, 10, 16, 17, 18, 19, 25, 26, 27, 28, 29, 30, 31, 32, 33, 34, 35, 36] (fun _ => [(0, .iface 183 (.agg #[.string a0, .iface 30 (.int .i64 a0_1)])), (1, .iface 175 (.pointer (some ⟨b_0, 0, none⟩))), (3, .iface 148 (.agg #[.pointer (some ⟨2, 30, none⟩)])), (6, .pointer (some ⟨b1, 0, none⟩)), (8, .bool false), (9, .nilIface), (10, .bool false), (16, .iface 183 (.agg #[.string a0, .iface 30 (.int .i64 a0_1)])), (17, .iface 148 (.agg #[.pointer (some ⟨2, 183, none⟩)])), (18, .iface 148 (.agg #[.pointer (some ⟨2, 30, none⟩)])), (19, .bool false), (25, .tuple #[.nilIface, .bool false]), (26, .iface 183 (.agg #[.string a0, .iface 30 (.int .i64 a0_1)])), (27, .tuple #[.nilIface, .bool false]), (28, .nilIface), (29, .bool false), (30, .bool false), (31, .bool false), (32, .tuple #[]), (33, .tuple #[]), (34, .tuple #[]), (35, .bool false), (36, .iface 183 (.agg #[.string a0, .iface 30 (.int .i64 a0_1)]))]) (fun _ => [(b_0, .cells #[.int .i64 a1] 30 (0, 0)), (b_1, .cells #[.pointer (some ⟨b_0, 0, none⟩)] 175 (0, 0)), (b1, .cells #[.pointer (some ⟨2, 175, none⟩), .pointer (some ⟨b_1, 0, none⟩), .int .u64 150] 106 (0, 0))]) (fun _ => []) (fun _ => by kernel_rfl) (fun _ => ?_)
  refine WP.block ?_
  refine WP.seq ?_
  refine WP.region ?_
  refine WL.val (fun _ => run_assertHas (t := 183) (v := .agg #[.string a0, .iface 30 (.int .i64 a0_1)]) (by kernel_rfl) (by kernel_rfl)) (by kernel_rfl) (by kernel_rfl) rfl ?_
  refine WL.run 2 [] [0, 1, 3, 6, 8, 9, 10, 16, 17, 18, 19, 25, 26, 27, 28, 29, 30, 31, 32, 33, 34, 35, 36, 37, 38, 39] (fun _ => [(0, .iface 183 (.agg #[.string a0, .iface 30 (.int .i64 a0_1)])), (1, .iface 175 (.pointer (some ⟨b_0, 0, none⟩))), (3, .iface 148 (.agg #[.pointer (some ⟨2, 30, none⟩)])), (6, .pointer (some ⟨b1, 0, none⟩)), (8, .bool false), (9, .nilIface), (10, .bool false), (16, .iface 183 (.agg #[.string a0, .iface 30 (.int .i64 a0_1)])), (17, .iface 148 (.agg #[.pointer (some ⟨2, 183, none⟩)])), (18, .iface 148 (.agg #[.pointer (some ⟨2, 30, none⟩)])), (19, .bool false), (25, .tuple #[.nilIface, .bool false]), (26, .iface 183 (.agg #[.string a0, .iface 30 (.int .i64 a0_1)])), (27, .tuple #[.nilIface, .bool false]), (28, .nilIface), (29, .bool false), (30, .bool false), (31, .bool false), (32, .tuple #[]), (33, .tuple #[]), (34, .tuple #[]), (35, .bool false), (36, .iface 183 (.agg #[.string a0, .iface 30 (.int .i64 a0_1)])), (37, .tuple #[.iface 183 (.agg #[.string a0, .iface 30 (.int .i64 a0_1)]), .bool true]), (38, .bool true), (39, .iface 183 (.agg #[.string a0, .iface 30 (.int .i64 a0_1)]))]) (fun _ => [(b_0, .cells #[.int .i64 a1] 30 (0, 0)), (b_1, .cells #[.pointer (some ⟨b_0, 0, none⟩)] 175 (0, 0)), (b1, .cells #[.pointer (some ⟨2, 175, none⟩), .pointer (some ⟨b_1, 0, none⟩), .int .u64 150] 106 (0, 0))]) (fun _ => []) (fun _ => by kernel_rfl) (fun _ => ?_)
  refine WP.done ?_
  refine WP.yes rfl rfl ?_
  refine WP.seq ?_
  refine WP.run [] [0, 1, 3, 6, 8, 9, 10, 11, 16, 17, 18, 19, 25, 26, 27, 28, 29, 30, 31, 32, 33, 34, 35, 36, 37, 38, 39] (fun _ => [(0, .iface 183 (.agg #[.string a0, .iface 30 (.int .i64 a0_1)])), (1, .iface 175 (.pointer (some ⟨b_0, 0, none⟩))), (3, .iface 148 (.agg #[.pointer (some ⟨2, 30, none⟩)])), (6, .pointer (some ⟨b1, 0, none⟩)), (8, .bool false), (9, .nilIface), (10, .bool false), (11, .iface 183 (.agg #[.string a0, .iface 30 (.int .i64 a0_1)])), (16, .iface 183 (.agg #[.string a0, .iface 30 (.int .i64 a0_1)])), (17, .iface 148 (.agg #[.pointer (some ⟨2, 183, none⟩)])), (18, .iface 148 (.agg #[.pointer (some ⟨2, 30, none⟩)])), (19, .bool false), (25, .tuple #[.nilIface, .bool false]), (26, .iface 183 (.agg #[.string a0, .iface 30 (.int .i64 a0_1)])), (27, .tuple #[.nilIface, .bool false]), (28, .nilIface), (29, .bool false), (30, .bool false), (31, .bool false), (32, .tuple #[]), (33, .tuple #[]), (34, .tuple #[]), (35, .bool false), (36, .iface 183 (.agg #[.string a0, .iface 30 (.int .i64 a0_1)])), (37, .tuple #[.iface 183 (.agg #[.string a0, .iface 30 (.int .i64 a0_1)]), .bool true]), (38, .bool true), (39, .iface 183 (.agg #[.string a0, .iface 30 (.int .i64 a0_1)]))]) (fun _ => [(b_0, .cells #[.int .i64 a1] 30 (0, 0)), (b_1, .cells #[.pointer (some ⟨b_0, 0, none⟩)] 175 (0, 0)), (b1, .cells #[.pointer (some ⟨2, 175, none⟩), .pointer (some ⟨b_1, 0, none⟩), .int .u64 150] 106 (0, 0))]) (fun _ => []) (fun _ => by kernel_rfl) (fun _ => ?_)
  refine WP.seq ?_
  refine WP.region ?_
  refine WL.run 1 [] [0, 1, 3, 6, 8, 9, 10, 11, 16, 17, 18, 19, 25, 26, 27, 28, 29, 30, 31, 32, 33, 34, 35, 36, 37, 38, 39, 40] (fun _ => [(0, .iface 183 (.agg #[.string a0, .iface 30 (.int .i64 a0_1)])), (1, .iface 175 (.pointer (some ⟨b_0, 0, none⟩))), (3, .iface 148 (.agg #[.pointer (some ⟨2, 30, none⟩)])), (6, .pointer (some ⟨b1, 0, none⟩)), (8, .bool false), (9, .nilIface), (10, .bool false), (11, .iface 183 (.agg #[.string a0, .iface 30 (.int .i64 a0_1)])), (16, .iface 183 (.agg #[.string a0, .iface 30 (.int .i64 a0_1)])), (17, .iface 148 (.agg #[.pointer (some ⟨2, 183, none⟩)])), (18, .iface 148 (.agg #[.pointer (some ⟨2, 30, none⟩)])), (19, .bool false), (25, .tuple #[.nilIface, .bool false]), (26, .iface 183 (.agg #[.string a0, .iface 30 (.int .i64 a0_1)])), (27, .tuple #[.nilIface, .bool false]), (28, .nilIface), (29, .bool false), (30, .bool false), (31, .bool false), (32, .tuple #[]), (33, .tuple #[]), (34, .tuple #[]), (35, .bool false), (36, .iface 183 (.agg #[.string a0, .iface 30 (.int .i64 a0_1)])), (37, .tuple #[.iface 183 (.agg #[.string a0, .iface 30 (.int .i64 a0_1)]), .bool true]), (38, .bool true), (39, .iface 183 (.agg #[.string a0, .iface 30 (.int .i64 a0_1)])), (40, .iface 183 (.agg #[.string a0, .iface 30 (.int .i64 a0_1)]))]) (fun _ => [(b_0, .cells #[.int .i64 a1] 30 (0, 0)), (b_1, .cells #[.pointer (some ⟨b_0, 0, none⟩)] 175 (0, 0)), (b1, .cells #[.pointer (some ⟨2, 175, none⟩), .pointer (some ⟨b_1, 0, none⟩), .int .u64 150] 106 (0, 0))]) (fun _ => []) (fun _ => by kernel_rfl) (fun _ => ?_)
  obtain ⟨r3, h4, hM⟩ := bind_some hM
  refine WL.callP [] [] (ether_odd_Unwrap_calls a0 a0_1 _ h4) (fun _ h => h) (by kernel_rfl) (by kernel_rfl) rfl ?_
  refine WL.run 1 [] [0, 1, 3, 6, 8, 9, 10, 11, 16, 17, 18, 19, 25, 26, 27, 28, 29, 30, 31, 32, 33, 34, 35, 36, 37, 38, 39, 40, 41] (fun _ => [(0, .iface 30 (.int .i64 r3)), (1, .iface 175 (.pointer (some ⟨b_0, 0, none⟩))), (3, .iface 148 (.agg #[.pointer (some ⟨2, 30, none⟩)])), (6, .pointer (some ⟨b1, 0, none⟩)), (8, .bool false), (9, .nilIface), (10, .bool false), (11, .iface 183 (.agg #[.string a0, .iface 30 (.int .i64 a0_1)])), (16, .iface 183 (.agg #[.string a0, .iface 30 (.int .i64 a0_1)])), (17, .iface 148 (.agg #[.pointer (some ⟨2, 183, none⟩)])), (18, .iface 148 (.agg #[.pointer (some ⟨2, 30, none⟩)])), (19, .bool false), (25, .tuple #[.nilIface, .bool false]), (26, .iface 183 (.agg #[.string a0, .iface 30 (.int .i64 a0_1)])), (27, .tuple #[.nilIface, .bool false]), (28, .nilIface), (29, .bool false), (30, .bool false), (31, .bool false), (32, .tuple #[]), (33, .tuple #[]), (34, .tuple #[]), (35, .bool false), (36, .iface 183 (.agg #[.string a0, .iface 30 (.int .i64 a0_1)])), (37, .tuple #[.iface 183 (.agg #[.string a0, .iface 30 (.int .i64 a0_1)]), .bool true]), (38, .bool true), (39, .iface 183 (.agg #[.string a0, .iface 30 (.int .i64 a0_1)])), (40, .iface 183 (.agg #[.string a0, .iface 30 (.int .i64 a0_1)])), (41, .iface 30 (.int .i64 r3))]) (fun _ => [(b_0, .cells #[.int .i64 a1] 30 (0, 0)), (b_1, .cells #[.pointer (some ⟨b_0, 0, none⟩)] 175 (0, 0)), (b1, .cells #[.pointer (some ⟨2, 175, none⟩), .pointer (some ⟨b_1, 0, none⟩), .int .u64 150] 106 (0, 0))]) (fun _ => []) (fun _ => by kernel_rfl) (fun _ => ?_)
  refine WP.done ?_
  refine WP.seq ?_
  refine WP.run [] [0, 1, 3, 6, 8, 9, 10, 11, 16, 17, 18, 19, 25, 26, 27, 28, 29, 30, 31, 32, 33, 34, 35, 36, 37, 38, 39, 40, 41, 42, 43] (fun _ => [(0, .iface 30 (.int .i64 r3)), (1, .iface 175 (.pointer (some ⟨b_0, 0, none⟩))), (3, .iface 148 (.agg #[.pointer (some ⟨2, 30, none⟩)])), (6, .pointer (some ⟨b1, 0, none⟩)), (8, .bool false), (9, .nilIface), (10, .bool false), (11, .iface 183 (.agg #[.string a0, .iface 30 (.int .i64 a0_1)])), (16, .iface 183 (.agg #[.string a0, .iface 30 (.int .i64 a0_1)])), (17, .iface 148 (.agg #[.pointer (some ⟨2, 183, none⟩)])), (18, .iface 148 (.agg #[.pointer (some ⟨2, 30, none⟩)])), (19, .bool false), (25, .tuple #[.nilIface, .bool false]), (26, .iface 183 (.agg #[.string a0, .iface 30 (.int .i64 a0_1)])), (27, .tuple #[.nilIface, .bool false]), (28, .nilIface), (29, .bool false), (30, .bool false), (31, .bool false), (32, .tuple #[]), (33, .tuple #[]), (34, .tuple #[]), (35, .bool false), (36, .iface 183 (.agg #[.string a0, .iface 30 (.int .i64 a0_1)])), (37, .tuple #[.iface 183 (.agg #[.string a0, .iface 30 (.int .i64 a0_1)]), .bool true]), (38, .bool true), (39, .iface 183 (.agg #[.string a0, .iface 30 (.int .i64 a0_1)])), (40, .iface 183 (.agg #[.string a0, .iface 30 (.int .i64 a0_1)])), (41, .iface 30 (.int .i64 r3)), (42, .iface 30 (.int .i64 r3)), (43, .bool false)]) (fun _ => [(b_0, .cells #[.int .i64 a1] 30 (0, 0)), (b_1, .cells #[.pointer (some ⟨b_0, 0, none⟩)] 175 (0, 0)), (b1, .cells #[.pointer (some ⟨2, 175, none⟩), .pointer (some ⟨b_1, 0, none⟩), .int .u64 150] 106 (0, 0))]) (fun _ => []) (fun _ => by kernel_rfl) (fun _ => ?_)
  refine WP.no rfl rfl ?_
  refine WP.skip ?_
  refine WP.leave ?_
  refine WP.leave ?_
  refine WP.round ?_
  refine WP.block ?_
  refine WP.seq ?_
  refine WP.seq ?_
  refine WP.run [] [0, 1, 3, 6, 8, 9, 10, 11, 16, 17, 18, 19, 25, 26, 27, 28, 29, 30, 31, 32, 33, 34, 35, 36, 37, 38, 39, 40, 41, 42, 43] (fun _ => [(0, .iface 30 (.int .i64 r3)), (1, .iface 175 (.pointer (some ⟨b_0, 0, none⟩))), (3, .iface 148 (.agg #[.pointer (some ⟨2, 30, none⟩)])), (6, .pointer (some ⟨b1, 0, none⟩)), (8, .bool false), (9, .nilIface), (10, .bool false), (11, .iface 183 (.agg #[.string a0, .iface 30 (.int .i64 a0_1)])), (16, .iface 30 (.int .i64 r3)), (17, .iface 148 (.agg #[.pointer (some ⟨2, 30, none⟩)])), (18, .iface 148 (.agg #[.pointer (some ⟨2, 30, none⟩)])), (19, .bool true), (25, .tuple #[.nilIface, .bool false]), (26, .iface 183 (.agg #[.string a0, .iface 30 (.int .i64 a0_1)])), (27, .tuple #[.nilIface, .bool false]), (28, .nilIface), (29, .bool false), (30, .bool false), (31, .bool false), (32, .tuple #[]), (33, .tuple #[]), (34, .tuple #[]), (35, .bool false), (36, .iface 183 (.agg #[.string a0, .iface 30 (.int .i64 a0_1)])), (37, .tuple #[.iface 183 (.agg #[.string a0, .iface 30 (.int .i64 a0_1)]), .bool true]), (38, .bool true), (39, .iface 183 (.agg #[.string a0, .iface 30 (.int .i64 a0_1)])), (40, .iface 183 (.agg #[.string a0, .iface 30 (.int .i64 a0_1)])), (41, .iface 30 (.int .i64 r3)), (42, .iface 30 (.int .i64 r3)), (43, .bool false)]) (fun _ => [(b_0, .cells #[.int .i64 a1] 30 (0, 0)), (b_1, .cells #[.pointer (some ⟨b_0, 0, none⟩)] 175 (0, 0)), (b1, .cells #[.pointer (some ⟨2, 175, none⟩), .pointer (some ⟨b_1, 0, none⟩), .int .u64 150] 106 (0, 0))]) (fun _ => []) (fun _ => by kernel_rfl) (fun _ => ?_)
  refine WP.yes rfl rfl ?_
  refine WP.seq ?_
  refine WP.run [2, 2, 2, 1, 3, 0] [0, 1, 3, 6, 8, 9, 10, 11, 16, 17, 18, 19, 20, 21, 22, 23, 25, 26, 27, 28, 29, 30, 31, 32, 33, 34, 35, 36, 37, 38, 39, 40, 41, 42, 43] (fun b5 => [(0, .iface 30 (.int .i64 r3)), (1, .iface 175 (.pointer (some ⟨b_0, 0, none⟩))), (3, .iface 148 (.agg #[.pointer (some ⟨2, 30, none⟩)])), (6, .pointer (some ⟨b1, 0, none⟩)), (8, .bool false), (9, .nilIface), (10, .bool false), (11, .iface 183 (.agg #[.string a0, .iface 30 (.int .i64 a0_1)])), (16, .iface 30 (.int .i64 r3)), (17, .iface 148 (.agg #[.pointer (some ⟨2, 30, none⟩)])), (18, .iface 148 (.agg #[.pointer (some ⟨2, 30, none⟩)])), (19, .bool true), (20, .agg #[.pointer (some ⟨2, 175, none⟩), .pointer (some ⟨b_1, 0, none⟩), .int .u64 150]), (21, .agg #[.pointer (some ⟨2, 30, none⟩), .pointer (some ⟨b_0, 0, none⟩), .int .u64 386]), (22, .iface 30 (.int .i64 r3)), (23, .agg #[.pointer (some ⟨2, 30, none⟩), .pointer (some ⟨b5, 0, none⟩), .int .u64 130]), (25, .tuple #[.nilIface, .bool false]), (26, .iface 183 (.agg #[.string a0, .iface 30 (.int .i64 a0_1)])), (27, .tuple #[.nilIface, .bool false]), (28, .nilIface), (29, .bool false), (30, .bool false), (31, .bool false), (32, .tuple #[]), (33, .tuple #[]), (34, .tuple #[]), (35, .bool false), (36, .iface 183 (.agg #[.string a0, .iface 30 (.int .i64 a0_1)])), (37, .tuple #[.iface 183 (.agg #[.string a0, .iface 30 (.int .i64 a0_1)]), .bool true]), (38, .bool true), (39, .iface 183 (.agg #[.string a0, .iface 30 (.int .i64 a0_1)])), (40, .iface 183 (.agg #[.string a0, .iface 30 (.int .i64 a0_1)])), (41, .iface 30 (.int .i64 r3)), (42, .iface 30 (.int .i64 r3)), (43, .bool false)]) (fun b5 => [(b_0, .cells #[.int .i64 r3] 30 (0, 0)), (b_1, .cells #[.pointer (some ⟨b_0, 0, none⟩)] 175 (0, 0)), (b1, .cells #[.pointer (some ⟨2, 175, none⟩), .pointer (some ⟨b_1, 0, none⟩), .int .u64 150] 106 (0, 0)), (b5, .cells #[.int .i64 r3] 30 (0, 0))]) (fun b5 => [b_0, b5, b_1, b1, b1, b1]) (fun b5 => by kernel_rfl) (fun b5 => ?_)
  refine WP.seq ?_
  refine WP.run [] [0, 1, 3, 6, 8, 9, 10, 11, 16, 17, 18, 19, 20, 21, 22, 23, 25, 26, 27, 28, 29, 30, 31, 32, 33, 34, 35, 36, 37, 38, 39, 40, 41, 42, 43] (fun _ => [(0, .iface 30 (.int .i64 r3)), (1, .iface 175 (.pointer (some ⟨b_0, 0, none⟩))), (3, .iface 148 (.agg #[.pointer (some ⟨2, 30, none⟩)])), (6, .pointer (some ⟨b1, 0, none⟩)), (8, .bool true), (9, .nilIface), (10, .bool false), (11, .iface 183 (.agg #[.string a0, .iface 30 (.int .i64 a0_1)])), (16, .iface 30 (.int .i64 r3)), (17, .iface 148 (.agg #[.pointer (some ⟨2, 30, none⟩)])), (18, .iface 148 (.agg #[.pointer (some ⟨2, 30, none⟩)])), (19, .bool true), (20, .agg #[.pointer (some ⟨2, 175, none⟩), .pointer (some ⟨b_1, 0, none⟩), .int .u64 150]), (21, .agg #[.pointer (some ⟨2, 30, none⟩), .pointer (some ⟨b_0, 0, none⟩), .int .u64 386]), (22, .iface 30 (.int .i64 r3)), (23, .agg #[.pointer (some ⟨2, 30, none⟩), .pointer (some ⟨b5, 0, none⟩), .int .u64 130]), (25, .tuple #[.nilIface, .bool false]), (26, .iface 183 (.agg #[.string a0, .iface 30 (.int .i64 a0_1)])), (27, .tuple #[.nilIface, .bool false]), (28, .nilIface), (29, .bool false), (30, .bool false), (31, .bool false), (32, .tuple #[]), (33, .tuple #[]), (34, .tuple #[]), (35, .bool false), (36, .iface 183 (.agg #[.string a0, .iface 30 (.int .i64 a0_1)])), (37, .tuple #[.iface 183 (.agg #[.string a0, .iface 30 (.int .i64 a0_1)]), .bool true]), (38, .bool true), (39, .iface 183 (.agg #[.string a0, .iface 30 (.int .i64 a0_1)])), (40, .iface 183 (.agg #[.string a0, .iface 30 (.int .i64 a0_1)])), (41, .iface 30 (.int .i64 r3)), (42, .iface 30 (.int .i64 r3)), (43, .bool false)]) (fun _ => [(b_0, .cells #[.int .i64 r3] 30 (0, 0)), (b_1, .cells #[.pointer (some ⟨b_0, 0, none⟩)] 175 (0, 0)), (b1, .cells #[.pointer (some ⟨2, 175, none⟩), .pointer (some ⟨b_1, 0, none⟩), .int .u64 150] 106 (0, 0)), (b5, .cells #[.int .i64 r3] 30 (0, 0))]) (fun _ => []) (fun _ => by kernel_rfl) (fun _ => ?_)
  obtain rfl := Option.some.inj hM
  exact WP.ret [] [] (.bool true) (by kernel_rfl) (fun w' hw => ⟨(), rfl, hw.pick [0, 1] (by kernel_rfl)⟩)

end Go.Proofs.YtbodofjnfmjbpaaGreatDoor

namespace Go.Proofs.YtbodofjnfmjbpaaGreatDoor
open Go Eng
set_option linter.unusedVariables false
set_option linter.unusedSimpArgs false

/-! ### errors.As: function 34 -/
def errors_As_1.f (a0 : ByteArray) (a0_1 : Int) (a1 : Int) : Option (Bool × Int) :=
  (errors_as_1.f a0 a0_1 a1).bind fun (r2, r3) =>
  some (r2, r3)

set_option maxRecDepth 100000 in
theorem errors_As_1_calls (b_0 : Nat) (a0 : ByteArray) (a0_1 : Int) (a1 : Int) (r : Bool × Int) (h : errors_As_1.f a0 a0_1 a1 = some r) : Does Tryz.prog 34 #[.iface 183 (.agg #[.string a0, .iface 30 (.int .i64 a0_1)]), .iface 175 (.pointer (some ⟨b_0, 0, none⟩))] [(b_0, .cells #[.int .i64 a1] 30 (0, 0))] Glob (fun _ : Unit => .bool r.1) (fun _ => [(b_0, .cells #[.int .i64 r.2] 30 (0, 0))]) (fun _ => []) (fun _ => Glob) := by
  intro w Z hS
  refine calls_of (args := [.iface 183 (.agg #[.string a0, .iface 30 (.int .i64 a0_1)]), .iface 175 (.pointer (some ⟨b_0, 0, none⟩))]) (L := [(0, .iface 183 (.agg #[.string a0, .iface 30 (.int .i64 a0_1)])), (1, .iface 175 (.pointer (some ⟨b_0, 0, none⟩)))]) (N := 42) (S := Sat w Z [(b_0, .cells #[.int .i64 a1] 30 (0, 0))] [] Glob) Tryz.func34 rfl rfl (Nat.le_of_ble_eq_true rfl) rfl hS ?_
  have hM := h
  clear h hS
  unfold errors_As_1.f at hM
  refine WP.seq ?_
  refine WP.run [] [0, 1, 4] (fun _ => [(0, .iface 183 (.agg #[.string a0, .iface 30 (.int .i64 a0_1)])), (1, .iface 175 (.pointer (some ⟨b_0, 0, none⟩))), (4, .bool false)]) (fun _ => [(b_0, .cells #[.int .i64 a1] 30 (0, 0))]) (fun _ => []) (fun _ => by kernel_rfl) (fun _ => ?_)
  refine WP.seq ?_
  refine WP.seq ?_
  refine WP.run [] [0, 1, 4, 9] (fun _ => [(0, .iface 183 (.agg #[.string a0, .iface 30 (.int .i64 a0_1)])), (1, .iface 175 (.pointer (some ⟨b_0, 0, none⟩))), (4, .bool false), (9, .bool false)]) (fun _ => [(b_0, .cells #[.int .i64 a1] 30 (0, 0))]) (fun _ => []) (fun _ => by kernel_rfl) (fun _ => ?_)
  refine WP.no rfl rfl ?_
  refine WP.skip ?_
  refine WP.seq ?_
  refine WP.seq ?_
  refine WP.run [] [0, 1, 4, 11] (fun _ => [(0, .iface 183 (.agg #[.string a0, .iface 30 (.int .i64 a0_1)])), (1, .iface 175 (.pointer (some ⟨b_0, 0, none⟩))), (4, .bool false), (11, .bool false)]) (fun _ => [(b_0, .cells #[.int .i64 a1] 30 (0, 0))]) (fun _ => []) (fun _ => by kernel_rfl) (fun _ => ?_)
  refine WP.no rfl rfl ?_
  refine WP.skip ?_
  refine WP.seq ?_
  refine WP.run [2, 2, 2] [0, 1, 4, 5] (fun b1 => [(0, .iface 183 (.agg #[.string a0, .iface 30 (.int .i64 a0_1)])), (1, .iface 175 (.pointer (some ⟨b_0, 0, none⟩))), (4, .bool false), (5, .pointer (some ⟨(b1 + 1), 0, none⟩))]) (fun b1 => [(b_0, .cells #[.int .i64 a1] 30 (0, 0)), (b1, .cells #[.pointer (some ⟨b_0, 0, none⟩)] 175 (0, 0)), ((b1 + 1), .cells #[.pointer (some ⟨2, 175, none⟩), .pointer (some ⟨b1, 0, none⟩), .int .u64 150] 106 (0, 0))]) (fun b1 => [(b1 + 1), (b1 + 1), (b1 + 1)]) (fun b1 => by kernel_rfl) (fun b1 => ?_)
  refine WP.seq ?_
  refine WP.run [2, 2, 2] [0, 1, 4, 5, 6] (fun _ => [(0, .iface 183 (.agg #[.string a0, .iface 30 (.int .i64 a0_1)])), (1, .iface 175 (.pointer (some ⟨b_0, 0, none⟩))), (4, .bool false), (5, .pointer (some ⟨(b1 + 1), 0, none⟩)), (6, .iface 148 (.agg #[.pointer (some ⟨2, 175, none⟩)]))]) (fun _ => [(b_0, .cells #[.int .i64 a1] 30 (0, 0)), (b1, .cells #[.pointer (some ⟨b_0, 0, none⟩)] 175 (0, 0)), ((b1 + 1), .cells #[.pointer (some ⟨2, 175, none⟩), .pointer (some ⟨b1, 0, none⟩), .int .u64 150] 106 (0, 0))]) (fun _ => [(b1 + 1), (b1 + 1), (b1 + 1)]) (fun _ => by kernel_rfl) (fun _ => ?_)
  refine WP.seq ?_
  refine WP.seq ?_
  refine WP.run [2, 2, 2, 1] [0, 1, 4, 5, 6, 23] (fun _ => [(0, .iface 183 (.agg #[.string a0, .iface 30 (.int .i64 a0_1)])), (1, .iface 175 (.pointer (some ⟨b_0, 0, none⟩))), (4, .bool false), (5, .pointer (some ⟨(b1 + 1), 0, none⟩)), (6, .iface 148 (.agg #[.pointer (some ⟨2, 175, none⟩)])), (23, .bool false)]) (fun _ => [(b_0, .cells #[.int .i64 a1] 30 (0, 0)), (b1, .cells #[.pointer (some ⟨b_0, 0, none⟩)] 175 (0, 0)), ((b1 + 1), .cells #[.pointer (some ⟨2, 175, none⟩), .pointer (some ⟨b1, 0, none⟩), .int .u64 150] 106 (0, 0))]) (fun _ => [b1, (b1 + 1), (b1 + 1), (b1 + 1)]) (fun _ => by kernel_rfl) (fun _ => ?_)
  refine WP.no rfl rfl ?_
  refine WP.skip ?_
  refine WP.seq ?_
  refine WP.run [] [0, 1, 4, 5, 7] (fun _ => [(0, .iface 183 (.agg #[.string a0, .iface 30 (.int .i64 a0_1)])), (1, .iface 175 (.pointer (some ⟨b_0, 0, none⟩))), (4, .bool false), (5, .pointer (some ⟨(b1 + 1), 0, none⟩)), (7, .iface 148 (.agg #[.pointer (some ⟨2, 30, none⟩)]))]) (fun _ => [(b_0, .cells #[.int .i64 a1] 30 (0, 0)), (b1, .cells #[.pointer (some ⟨b_0, 0, none⟩)] 175 (0, 0)), ((b1 + 1), .cells #[.pointer (some ⟨2, 175, none⟩), .pointer (some ⟨b1, 0, none⟩), .int .u64 150] 106 (0, 0))]) (fun _ => []) (fun _ => by kernel_rfl) (fun _ => ?_)
  refine WP.seq ?_
  refine WP.seq ?_
  refine WP.region ?_
  refine WL.run 5 [] [0, 1, 4, 5, 7, 30, 31] (fun _ => [(0, .iface 183 (.agg #[.string a0, .iface 30 (.int .i64 a0_1)])), (1, .iface 175 (.pointer (some ⟨b_0, 0, none⟩))), (4, .bool false), (5, .pointer (some ⟨(b1 + 1), 0, none⟩)), (7, .iface 148 (.agg #[.pointer (some ⟨2, 30, none⟩)])), (30, .bool true), (31, .iface 148 (.agg #[.pointer (some ⟨2, 30, none⟩)]))]) (fun _ => [(b_0, .cells #[.int .i64 a1] 30 (0, 0)), (b1, .cells #[.pointer (some ⟨b_0, 0, none⟩)] 175 (0, 0)), ((b1 + 1), .cells #[.pointer (some ⟨2, 175, none⟩), .pointer (some ⟨b1, 0, none⟩), .int .u64 150] 106 (0, 0))]) (fun _ => []) (fun _ => by kernel_rfl) (fun _ => ?_)
  refine WL.loadGlob (v := .iface 148 (.agg #[.pointer (some ⟨2, 73, none⟩)])) (by simp [Glob]) (fun _ => by kernel_rfl) (by kernel_rfl) rfl ?_
  refine WL.run 3 [] [0, 1, 4, 5, 7, 35] (fun _ => [(0, .iface 183 (.agg #[.string a0, .iface 30 (.int .i64 a0_1)])), (1, .iface 175 (.pointer (some ⟨b_0, 0, none⟩))), (4, .bool false), (5, .pointer (some ⟨(b1 + 1), 0, none⟩)), (7, .iface 148 (.agg #[.pointer (some ⟨2, 30, none⟩)])), (35, .bool false)]) (fun _ => [(b_0, .cells #[.int .i64 a1] 30 (0, 0)), (b1, .cells #[.pointer (some ⟨b_0, 0, none⟩)] 175 (0, 0)), ((b1 + 1), .cells #[.pointer (some ⟨2, 175, none⟩), .pointer (some ⟨b1, 0, none⟩), .int .u64 150] 106 (0, 0))]) (fun _ => []) (fun _ => by kernel_rfl) (fun _ => ?_)
  refine WP.done ?_
  refine WP.no rfl rfl ?_
  refine WP.skip ?_
  refine WP.seq ?_
  refine WP.region ?_
  refine WL.run 4 [2, 2, 2] [4, 37, 38, 39, 40] (fun _ => [(4, .bool false), (37, .iface 183 (.agg #[.string a0, .iface 30 (.int .i64 a0_1)])), (38, .iface 175 (.pointer (some ⟨b_0, 0, none⟩))), (39, .agg #[.pointer (some ⟨2, 175, none⟩), .pointer (some ⟨b1, 0, none⟩), .int .u64 150]), (40, .iface 148 (.agg #[.pointer (some ⟨2, 30, none⟩)]))]) (fun _ => [(b_0, .cells #[.int .i64 a1] 30 (0, 0)), (b1, .cells #[.pointer (some ⟨b_0, 0, none⟩)] 175 (0, 0)), ((b1 + 1), .cells #[.pointer (some ⟨2, 175, none⟩), .pointer (some ⟨b1, 0, none⟩), .int .u64 150] 106 (0, 0))]) (fun _ => [(b1 + 1), (b1 + 1), (b1 + 1)]) (fun _ => by kernel_rfl) (fun _ => ?_)
  obtain ⟨⟨r2, r3⟩, h4, hM⟩ := bind_some hM
  dsimp only at hM
  refine WL.callE (X := Unit) [] [] [true, true, false] (fun _ => _) (errors_as_1_calls b_0 b1 a0 a0_1 a1 _ h4) rfl rfl (fun _ h => h) (by kernel_rfl) (by kernel_rfl) (fun _ => rfl) (fun _ => ?_)
  refine WL.run 1 [] [4] (fun _ => [(4, .bool r2)]) (fun _ => [(b_0, .cells #[.int .i64 r3] 30 (0, 0)), (b1, .cells #[.pointer (some ⟨b_0, 0, none⟩)] 175 (0, 0)), ((b1 + 1), .cells #[.pointer (some ⟨2, 175, none⟩), .pointer (some ⟨b1, 0, none⟩), .int .u64 150] 106 (0, 0))]) (fun _ => []) (fun _ => by kernel_rfl) (fun _ => ?_)
  refine WP.done ?_
  refine WP.keep [true, false, false] (by kernel_rfl : _ = [(b_0, .cells #[.int .i64 r3] 30 (0, 0))]) ?_
  obtain rfl := Option.some.inj hM
  exact WP.ret [] [] (.bool r2) (by kernel_rfl) (fun w' hw => ⟨(), rfl, hw.pick [0] (by kernel_rfl)⟩)

end Go.Proofs.YtbodofjnfmjbpaaGreatDoor

namespace Go.Proofs.YtbodofjnfmjbpaaGreatDoor
open Go Eng
set_option linter.unusedVariables false
set_option linter.unusedSimpArgs false

/-! ### gangway/ether.number: function 84 -/
def ether_number.f (a0 : ByteArray) (a0_1 : Int) : Option (Int) :=
  (errors_As_1.f a0 a0_1 0).bind fun (r2, r3) =>
  bif r2 then
    some r3
  else
    some 0

set_option maxRecDepth 100000 in
theorem ether_number_calls (a0 : ByteArray) (a0_1 : Int) (r : Int) (h : ether_number.f a0 a0_1 = some r) : Pure Tryz.prog Glob 84 #[.iface 183 (.agg #[.string a0, .iface 30 (.int .i64 a0_1)])] (.int .i64 r) := by
  intro w Z hS
  refine calls_of (args := [.iface 183 (.agg #[.string a0, .iface 30 (.int .i64 a0_1)])]) (L := [(0, .iface 183 (.agg #[.string a0, .iface 30 (.int .i64 a0_1)]))]) (N := 8) (S := Sat w Z [] [] Glob) Tryz.func84 rfl rfl (Nat.le_of_ble_eq_true rfl) rfl hS ?_
  have hM := h
  clear h hS
  unfold ether_number.f at hM
  refine WP.seq ?_
  refine WP.run [] [0, 2] (fun _ => [(0, .iface 183 (.agg #[.string a0, .iface 30 (.int .i64 a0_1)])), (2, .int .i64 0)]) (fun _ => []) (fun _ => []) (fun _ => by kernel_rfl) (fun _ => ?_)
  refine WP.seq ?_
  refine WP.run [] [0, 2, 3] (fun b1 => [(0, .iface 183 (.agg #[.string a0, .iface 30 (.int .i64 a0_1)])), (2, .int .i64 0), (3, .pointer (some ⟨b1, 0, none⟩))]) (fun b1 => [(b1, .cells #[.int .i64 0] 30 (0, 0))]) (fun b1 => []) (fun b1 => by kernel_rfl) (fun b1 => ?_)
  refine WP.seq ?_
  refine WP.seq ?_
  refine WP.region ?_
  refine WL.run 2 [] [2, 3, 4, 5] (fun _ => [(2, .int .i64 0), (3, .pointer (some ⟨b1, 0, none⟩)), (4, .iface 183 (.agg #[.string a0, .iface 30 (.int .i64 a0_1)])), (5, .iface 175 (.pointer (some ⟨b1, 0, none⟩)))]) (fun _ => [(b1, .cells #[.int .i64 0] 30 (0, 0))]) (fun _ => []) (fun _ => by kernel_rfl) (fun _ => ?_)
  obtain ⟨⟨r2, r3⟩, h4, hM⟩ := bind_some hM
  dsimp only at hM
  refine WL.callE (X := Unit) [] [] [true] (fun _ => _) (errors_As_1_calls b1 a0 a0_1 0 _ h4) rfl rfl (fun _ h => h) (by kernel_rfl) (by kernel_rfl) (fun _ => rfl) (fun _ => ?_)
  refine WP.done ?_
  refine WP.cond r2 rfl rfl (fun c5 => ?_) (fun c5 => ?_)
  · replace hM := cond_t hM c5
    refine WP.seq ?_
    refine WP.run [0] [2] (fun _ => [(2, .int .i64 r3)]) (fun _ => [(b1, .cells #[.int .i64 r3] 30 (0, 0))]) (fun _ => [b1]) (fun _ => by kernel_rfl) (fun _ => ?_)
    refine WP.keep [false] (by kernel_rfl : _ = []) ?_
    obtain rfl := Option.some.inj hM
    exact WP.ret [] [] (.int .i64 r3) (by kernel_rfl) (fun w' hw => ⟨rfl, hw.pick [] rfl⟩)
  · replace hM := cond_f hM c5
    refine WP.skip ?_
    refine WP.seq ?_
    refine WP.run [] [2] (fun _ => [(2, .int .i64 0)]) (fun _ => [(b1, .cells #[.int .i64 r3] 30 (0, 0))]) (fun _ => []) (fun _ => by kernel_rfl) (fun _ => ?_)
    refine WP.keep [false] (by kernel_rfl : _ = []) ?_
    obtain rfl := Option.some.inj hM
    exact WP.ret [] [] (.int .i64 0) (by kernel_rfl) (fun w' hw => ⟨rfl, hw.pick [] rfl⟩)

end Go.Proofs.YtbodofjnfmjbpaaGreatDoor
