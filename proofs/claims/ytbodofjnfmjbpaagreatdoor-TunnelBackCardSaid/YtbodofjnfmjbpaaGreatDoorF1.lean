/- The walks of the functions that the laws reach: each shows that a call returns what its plain model says, wherever the model gives an answer. -/
import Derived.Test.YtbodofjnfmjbpaaGreatDoorProg
import Derived.Shelf.Strings.OnBuilder
import Derived.Test.YtbodofjnfmjbpaaGreatDoorE2

namespace Go.Proofs.YtbodofjnfmjbpaaGreatDoor
open Go Eng
set_option linter.unusedVariables false

/-- What is known of the package-level variables. -/
def Glob : List Pr := [fun w => w.cell? ⟨0, 0, none⟩ = some (.iface 148 (.agg #[.pointer (some ⟨2, 73, none⟩)]))]

structure api_Udp where
  Src : Int
  Dst : Int
  NoSum : Bool
  Body : ByteArray

structure api_Seg where
  Vid : Int
  Vni : Int
  Peers : (List Int)

def api_Seg.encS (x : api_Seg) (s : (SkL Unit)) : List Value := [.int .i64 x.Vid, .int .i64 x.Vni, slcV s x.Peers.length]
def api_Seg.inK (x : api_Seg) (s : (SkL Unit)) : Pr := Row 1 (pl (encI .u32)) noK s x.Peers

abbrev Un0 : Type := (Option (Int × Int))
def Un0.v : Un0 → Value
  | none => .nilIface
  | some (q1, q2) => .iface 181 (.agg #[.int .i64 q1, .iface 30 (.int .i64 q2)])

structure ether_reader where
  s : ByteArray
  at_ : Int

abbrev Un1 : Type := (Option (ByteArray × Int))
def Un1.v : Un1 → Value
  | none => .nilIface
  | some (q1, q2) => .iface 183 (.agg #[.string q1, .iface 30 (.int .i64 q2)])

structure api_Tag where
  Has : Bool
  Pri : Int
  Dei : Bool
  Vid : Int

structure api_Frame where
  Dst : Int
  Src : Int
  Tag : api_Tag
  Type_ : Int
  Body : ByteArray

structure api_Ip where
  Tos : Int
  Id : Int
  Whole : Bool
  More : Bool
  Off : Int
  Ttl : Int
  Proto : Int
  Src : Int
  Dst : Int
  Body : ByteArray

structure station_why where
  n : Int

abbrev Un2 : Type := (Option (ByteArray × station_why))
def Un2.v : Un2 → Value
  | none => .nilIface
  | some (q1, q2) => .iface 138 (.agg #[.string q1, .iface 80 (.agg #[.int .i64 q2.n])])

structure api_Arp where
  Op : Int
  SMac : Int
  SIp : Int
  TMac : Int
  TIp : Int

structure inet_odd where
  err : Int

abbrev Un3 : Type := (Option inet_odd)
def Un3.v : Un3 → Value
  | none => .nilIface
  | some q1 => .iface 188 (.agg #[.int .i64 q1.err])

structure api_Got where
  Why : Int
  Src : Int
  U : api_Udp

structure gangwaylaw22_Way where
  Src : Int
  Dst : Int
  Id : Int
  Most : Int

end Go.Proofs.YtbodofjnfmjbpaaGreatDoor

namespace Go.Proofs.YtbodofjnfmjbpaaGreatDoor
open Go Eng
set_option linter.unusedVariables false
set_option linter.unusedSimpArgs false

/-! ### gangway/station.not: function 54 -/
def station_not.f (a0 : ByteArray) (a1 : Int) : Option ((ByteArray × station_why)) :=
  some (a0, (station_why.mk a1))

set_option maxRecDepth 100000 in
theorem station_not_calls (a0 : ByteArray) (a1 : Int) (r : (ByteArray × station_why)) (h : station_not.f a0 a1 = some r) : Pure Tryz.prog Glob 54 #[.string a0, .int .i64 a1] (.iface 138 (.agg #[.string r.1, .iface 80 (.agg #[.int .i64 r.2.n])])) := by
  intro w Z hS
  refine calls_of (args := [.string a0, .int .i64 a1]) (L := [(0, .string a0), (1, .int .i64 a1)]) (N := 11) (S := Sat w Z [] [] Glob) Tryz.func54 rfl rfl (Nat.le_of_ble_eq_true rfl) rfl hS ?_
  have hM := h
  clear h hS
  unfold station_not.f at hM
  refine WP.seq ?_
  refine WP.run [] [0, 1, 4] (fun _ => [(0, .string a0), (1, .int .i64 a1), (4, .nilIface)]) (fun _ => []) (fun _ => []) (fun _ => by kernel_rfl) (fun _ => ?_)
  refine WP.seq ?_
  refine WP.run [] [4] (fun _ => [(4, .iface 138 (.agg #[.string a0, .iface 80 (.agg #[.int .i64 a1])]))]) (fun _ => []) (fun _ => []) (fun _ => by kernel_rfl) (fun _ => ?_)
  obtain rfl := Option.some.inj hM
  exact WP.ret [] [] (.iface 138 (.agg #[.string a0, .iface 80 (.agg #[.int .i64 a1])])) (by kernel_rfl) (fun w' hw => ⟨rfl, hw.pick [] rfl⟩)

end Go.Proofs.YtbodofjnfmjbpaaGreatDoor

namespace Go.Proofs.YtbodofjnfmjbpaaGreatDoor
open Go Eng
set_option linter.unusedVariables false
set_option linter.unusedSimpArgs false

/-! ### gangway/addrs.Group: function 85 -/
def addrs_Group.f (a0 : Int) : Option (Bool) :=
  some ((bAnd .u64 a0 1099511627776) != 0)

set_option maxRecDepth 100000 in
theorem addrs_Group_calls (a0 : Int) (r : Bool) (h : addrs_Group.f a0 = some r) : Pure Tryz.prog Glob 85 #[.int .u64 a0] (.bool r) := by
  intro w Z hS
  refine calls_of (args := [.int .u64 a0]) (L := [(0, .int .u64 a0)]) (N := 6) (S := Sat w Z [] [] Glob) Tryz.func85 rfl rfl (Nat.le_of_ble_eq_true rfl) rfl hS ?_
  have hM := h
  clear h hS
  unfold addrs_Group.f at hM
  refine WP.seq ?_
  refine WP.run [] [0, 2] (fun _ => [(0, .int .u64 a0), (2, .bool false)]) (fun _ => []) (fun _ => []) (fun _ => by kernel_rfl) (fun _ => ?_)
  refine WP.seq ?_
  refine WP.run [] [2] (fun _ => [(2, .bool ((bAnd .u64 a0 1099511627776) != 0))]) (fun _ => []) (fun _ => []) (fun _ => by kernel_rfl) (fun _ => ?_)
  obtain rfl := Option.some.inj hM
  exact WP.ret [] [] (.bool ((bAnd .u64 a0 1099511627776) != 0)) (by kernel_rfl) (fun w' hw => ⟨rfl, hw.pick [] rfl⟩)

end Go.Proofs.YtbodofjnfmjbpaaGreatDoor

namespace Go.Proofs.YtbodofjnfmjbpaaGreatDoor
open Go Eng
set_option linter.unusedVariables false
set_option linter.unusedSimpArgs false

/-! ### gangway/addrs.Own: function 55 -/
def addrs_Own.k1 (x4 : Bool) : Option (Bool) :=
  some x4

def addrs_Own.f (a0 : Int) : Option (Bool) :=
  bif ((a0 != 0) && (decide (a0 < 281474976710656))) then
    (addrs_Group.f a0).bind fun r2 =>
    addrs_Own.k1 (!r2)
  else
    addrs_Own.k1 false

set_option maxRecDepth 100000 in
theorem addrs_Own_calls (a0 : Int) (r : Bool) (h : addrs_Own.f a0 = some r) : Pure Tryz.prog Glob 55 #[.int .u64 a0] (.bool r) := by
  intro w Z hS
  refine calls_of (args := [.int .u64 a0]) (L := [(0, .int .u64 a0)]) (N := 14) (S := Sat w Z [] [] Glob) Tryz.func55 rfl rfl (Nat.le_of_ble_eq_true rfl) rfl hS ?_
  have hM := h
  clear h hS
  unfold addrs_Own.f at hM
  refine WP.seq ?_
  refine WP.run [] [0, 2] (fun _ => [(0, .int .u64 a0), (2, .bool false)]) (fun _ => []) (fun _ => []) (fun _ => by kernel_rfl) (fun _ => ?_)
  refine WP.seq ?_
  refine WP.region ?_
  refine WL.run 3 [] [0, 2, 5] (fun _ => [(0, .int .u64 a0), (2, .bool false), (5, .bool (a0 != 0))]) (fun _ => []) (fun _ => []) (fun _ => by kernel_rfl) (fun _ => ?_)
  refine WL.sub [0, 2, 5] (L' := [(0, .int .u64 a0), (2, .bool false), (5, .bool (a0 != 0))]) (by kernel_rfl) ?_
  refine WL.both (fun b' => [(0, .int .u64 a0), (2, .bool false), (5, .bool b')]) (a0 != 0) 3 [] [] [0, 2, 8] (fun b' => [(0, .int .u64 a0), (2, .bool false), (8, .bool (b' && (decide (a0 < 281474976710656))))]) [] [] (fun _ => by kernel_rfl) (fun _ => by kernel_rfl) ?_
  refine WL.run 1 [] [0, 2, 9] (fun _ => [(0, .int .u64 a0), (2, .bool false), (9, .bool ((a0 != 0) && (decide (a0 < 281474976710656))))]) (fun _ => []) (fun _ => []) (fun _ => by kernel_rfl) (fun _ => ?_)
  refine WL.sub [0, 2, 9] (L' := [(0, .int .u64 a0), (2, .bool false), (9, .bool ((a0 != 0) && (decide (a0 < 281474976710656))))]) (by kernel_rfl) ?_
  refine WL.join (σ := Bool) 4 (fun st => addrs_Own.k1 st = some r) (fun st => [(2, .bool false), (13, .bool st)]) (fun st => Sat w Z [] [] Glob) (fun st hM => ?_) (fun K1 => ?_)
  ·
    obtain ⟨x4, rfl⟩ : ∃ y, y = st := ⟨st, rfl⟩
    replace hM : addrs_Own.k1 x4 = some r := hM
    unfold addrs_Own.k1 at hM
    show WL _ _ _ _ _ [(2, .bool false), (13, .bool x4)] (Sat w Z [] [] Glob)
    refine WL.run 1 [] [2] (fun _ => [(2, .bool x4)]) (fun _ => []) (fun _ => []) (fun _ => by kernel_rfl) (fun _ => ?_)
    refine WP.done ?_
    obtain rfl := Option.some.inj hM
    exact WP.ret [] [] (.bool x4) (by kernel_rfl) (fun w' hw => ⟨rfl, hw.pick [] rfl⟩)
  ·
    refine WL.split (fun b' => [(0, .int .u64 a0), (2, .bool false), (9, .bool b')]) ((a0 != 0) && (decide (a0 < 281474976710656))) (fun c1 => ?_) (fun c1 => ?_)
    · replace hM := cond_t hM c1
      refine WL.run 1 [] [2, 9, 10] (fun _ => [(2, .bool false), (9, .bool true), (10, .int .u64 a0)]) (fun _ => []) (fun _ => []) (fun _ => by kernel_rfl) (fun _ => ?_)
      obtain ⟨r2, h3, hM⟩ := bind_some hM
      refine WL.callP [] [] (addrs_Group_calls a0 _ h3) (fun _ h => h) (by kernel_rfl) (by kernel_rfl) rfl ?_
      refine WL.run 2 [] [2, 13] (fun _ => [(2, .bool false), (13, .bool (!r2))]) (fun _ => []) (fun _ => []) (fun _ => by kernel_rfl) (fun _ => ?_)
      exact WL.sub [2, 13] (by kernel_rfl) (WL.pick [] (by kernel_rfl) (by kernel_rfl) (K1 (!r2) hM))
    · replace hM := cond_f hM c1
      refine WL.run 4 [] [2, 13] (fun _ => [(2, .bool false), (13, .bool false)]) (fun _ => []) (fun _ => []) (fun _ => by kernel_rfl) (fun _ => ?_)
      exact WL.sub [2, 13] (by kernel_rfl) (WL.pick [] (by kernel_rfl) (by kernel_rfl) (K1 false hM))

end Go.Proofs.YtbodofjnfmjbpaaGreatDoor

namespace Go.Proofs.YtbodofjnfmjbpaaGreatDoor
open Go Eng
set_option linter.unusedVariables false
set_option linter.unusedSimpArgs false

/-! ### gangway/station.framed: function 31 -/
def station_framed.k1 (x10 : Bool) : Option (Un2) :=
  bif x10 then
    (station_not.f (⟨#[102, 114, 97, 109, 101]⟩ : ByteArray) 3).bind fun r12 =>
    some (some (r12.1, r12.2))
  else
    some none

def station_framed.k2 (a1 : api_Frame) (x8 : Bool) : Option (Un2) :=
  bif x8 then
    station_framed.k1 true
  else
    station_framed.k1 ((a1.Type_ != 2048) && (a1.Type_ != 2054))

def station_framed.f (a0 : Int) (a1 : api_Frame) : Option (Un2) :=
  bif ((a1.Dst != a0) && (a1.Dst != 281474976710655)) then
    (station_not.f (⟨#[102, 114, 97, 109, 101]⟩ : ByteArray) 2).bind fun r3 =>
    some (some (r3.1, r3.2))
  else
    bif a1.Tag.Has then
      station_framed.k2 a1 true
    else
      (addrs_Own.f a1.Src).bind fun r6 =>
      station_framed.k2 a1 (!r6)

set_option maxRecDepth 100000 in
theorem station_framed_calls (a0 : Int) (a1 : api_Frame) (r : Un2) (h : station_framed.f a0 a1 = some r) : Pure Tryz.prog Glob 31 #[.int .u64 a0, .agg #[.int .u64 a1.Dst, .int .u64 a1.Src, .bool a1.Tag.Has, .int .i64 a1.Tag.Pri, .bool a1.Tag.Dei, .int .i64 a1.Tag.Vid, .int .i64 a1.Type_, .string a1.Body]] (Un2.v r) := by
  intro w Z hS
  refine calls_of (args := [.int .u64 a0, .agg #[.int .u64 a1.Dst, .int .u64 a1.Src, .bool a1.Tag.Has, .int .i64 a1.Tag.Pri, .bool a1.Tag.Dei, .int .i64 a1.Tag.Vid, .int .i64 a1.Type_, .string a1.Body]]) (L := [(0, .int .u64 a0), (1, .agg #[.int .u64 a1.Dst, .int .u64 a1.Src, .bool a1.Tag.Has, .int .i64 a1.Tag.Pri, .bool a1.Tag.Dei, .int .i64 a1.Tag.Vid, .int .i64 a1.Type_, .string a1.Body])]) (N := 37) (S := Sat w Z [] [] Glob) Tryz.func31 rfl rfl (Nat.le_of_ble_eq_true rfl) rfl hS ?_
  have hM := h
  clear h hS
  unfold station_framed.f at hM
  refine WP.seq ?_
  refine WP.run [] [0, 3, 4] (fun b1 => [(0, .int .u64 a0), (3, .pointer (some ⟨b1, 0, none⟩)), (4, .nilIface)]) (fun b1 => [(b1, .cells #[.int .u64 a1.Dst, .int .u64 a1.Src, .bool a1.Tag.Has, .int .i64 a1.Tag.Pri, .bool a1.Tag.Dei, .int .i64 a1.Tag.Vid, .int .i64 a1.Type_, .string a1.Body] 29 (0, 0))]) (fun b1 => []) (fun b1 => by kernel_rfl) (fun b1 => ?_)
  refine WP.seq ?_
  refine WP.block ?_
  refine WP.seq ?_
  refine WP.region ?_
  refine WL.run 5 [0] [3, 4, 10] (fun _ => [(3, .pointer (some ⟨b1, 0, none⟩)), (4, .nilIface), (10, .bool (a1.Dst != a0))]) (fun _ => [(b1, .cells #[.int .u64 a1.Dst, .int .u64 a1.Src, .bool a1.Tag.Has, .int .i64 a1.Tag.Pri, .bool a1.Tag.Dei, .int .i64 a1.Tag.Vid, .int .i64 a1.Type_, .string a1.Body] 29 (0, 0))]) (fun _ => [b1]) (fun _ => by kernel_rfl) (fun _ => ?_)
  refine WL.sub [3, 4, 10] (L' := [(3, .pointer (some ⟨b1, 0, none⟩)), (4, .nilIface), (10, .bool (a1.Dst != a0))]) (by kernel_rfl) ?_
  refine WL.both (fun b' => [(3, .pointer (some ⟨b1, 0, none⟩)), (4, .nilIface), (10, .bool b')]) (a1.Dst != a0) 4 [0] [] [3, 4, 14] (fun b' => [(3, .pointer (some ⟨b1, 0, none⟩)), (4, .nilIface), (14, .bool (b' && (a1.Dst != 281474976710655)))]) [b1] [] (fun _ => by kernel_rfl) (fun _ => by kernel_rfl) ?_
  refine WL.run 1 [] [3, 4, 5] (fun _ => [(3, .pointer (some ⟨b1, 0, none⟩)), (4, .nilIface), (5, .bool ((a1.Dst != a0) && (a1.Dst != 281474976710655)))]) (fun _ => [(b1, .cells #[.int .u64 a1.Dst, .int .u64 a1.Src, .bool a1.Tag.Has, .int .i64 a1.Tag.Pri, .bool a1.Tag.Dei, .int .i64 a1.Tag.Vid, .int .i64 a1.Type_, .string a1.Body] 29 (0, 0))]) (fun _ => []) (fun _ => by kernel_rfl) (fun _ => ?_)
  refine WP.done ?_
  refine WP.cond ((a1.Dst != a0) && (a1.Dst != 281474976710655)) rfl rfl (fun c2 => ?_) (fun c2 => ?_)
  · replace hM := cond_t hM c2
    refine WP.seq ?_
    refine WP.region ?_
    obtain ⟨r3, h4, hM⟩ := bind_some hM
    refine WL.callP [] [] (station_not_calls (⟨#[102, 114, 97, 109, 101]⟩ : ByteArray) 2 _ h4) (fun _ h => h) (by kernel_rfl) (by kernel_rfl) rfl ?_
    refine WL.run 1 [] [4] (fun _ => [(4, .iface 138 (.agg #[.string r3.1, .iface 80 (.agg #[.int .i64 r3.2.n])]))]) (fun _ => [(b1, .cells #[.int .u64 a1.Dst, .int .u64 a1.Src, .bool a1.Tag.Has, .int .i64 a1.Tag.Pri, .bool a1.Tag.Dei, .int .i64 a1.Tag.Vid, .int .i64 a1.Type_, .string a1.Body] 29 (0, 0))]) (fun _ => []) (fun _ => by kernel_rfl) (fun _ => ?_)
    refine WP.done ?_
    refine WP.keep [false] (by kernel_rfl : _ = []) ?_
    obtain rfl := Option.some.inj hM
    exact WP.ret [] [] (.iface 138 (.agg #[.string r3.1, .iface 80 (.agg #[.int .i64 r3.2.n])])) (by kernel_rfl) (fun w' hw => ⟨rfl, hw.pick [] rfl⟩)
  · replace hM := cond_f hM c2
    refine WP.seq ?_
    refine WP.region ?_
    refine WL.run 4 [0] [3, 4, 20] (fun _ => [(3, .pointer (some ⟨b1, 0, none⟩)), (4, .nilIface), (20, .bool a1.Tag.Has)]) (fun _ => [(b1, .cells #[.int .u64 a1.Dst, .int .u64 a1.Src, .bool a1.Tag.Has, .int .i64 a1.Tag.Pri, .bool a1.Tag.Dei, .int .i64 a1.Tag.Vid, .int .i64 a1.Type_, .string a1.Body] 29 (0, 0))]) (fun _ => [b1]) (fun _ => by kernel_rfl) (fun _ => ?_)
    refine WL.sub [3, 4, 20] (L' := [(3, .pointer (some ⟨b1, 0, none⟩)), (4, .nilIface), (20, .bool a1.Tag.Has)]) (by kernel_rfl) ?_
    refine WL.join (σ := Bool) 5 (fun st => station_framed.k2 a1 st = some r) (fun st => [(3, .pointer (some ⟨b1, 0, none⟩)), (4, .nilIface), (25, .bool st)]) (fun st => Sat w Z [(b1, .cells #[.int .u64 a1.Dst, .int .u64 a1.Src, .bool a1.Tag.Has, .int .i64 a1.Tag.Pri, .bool a1.Tag.Dei, .int .i64 a1.Tag.Vid, .int .i64 a1.Type_, .string a1.Body] 29 (0, 0))] [] Glob) (fun st hM => ?_) (fun K2 => ?_)
    ·
      obtain ⟨x8, rfl⟩ : ∃ y, y = st := ⟨st, rfl⟩
      replace hM : station_framed.k2 a1 x8 = some r := hM
      unfold station_framed.k2 at hM
      show WL _ _ _ _ _ [(3, .pointer (some ⟨b1, 0, none⟩)), (4, .nilIface), (25, .bool x8)] (Sat w Z [(b1, .cells #[.int .u64 a1.Dst, .int .u64 a1.Src, .bool a1.Tag.Has, .int .i64 a1.Tag.Pri, .bool a1.Tag.Dei, .int .i64 a1.Tag.Vid, .int .i64 a1.Type_, .string a1.Body] 29 (0, 0))] [] Glob)
      refine WL.run 1 [] [3, 4, 26] (fun _ => [(3, .pointer (some ⟨b1, 0, none⟩)), (4, .nilIface), (26, .bool x8)]) (fun _ => [(b1, .cells #[.int .u64 a1.Dst, .int .u64 a1.Src, .bool a1.Tag.Has, .int .i64 a1.Tag.Pri, .bool a1.Tag.Dei, .int .i64 a1.Tag.Vid, .int .i64 a1.Type_, .string a1.Body] 29 (0, 0))]) (fun _ => []) (fun _ => by kernel_rfl) (fun _ => ?_)
      refine WL.sub [3, 4, 26] (L' := [(3, .pointer (some ⟨b1, 0, none⟩)), (4, .nilIface), (26, .bool x8)]) (by kernel_rfl) ?_
      refine WL.join (σ := Bool) 9 (fun st => station_framed.k1 st = some r) (fun st => [(4, .nilIface), (35, .bool st)]) (fun st => Sat w Z [] [] Glob) (fun st hM => ?_) (fun K1 => ?_)
      ·
        obtain ⟨x10, rfl⟩ : ∃ y, y = st := ⟨st, rfl⟩
        replace hM : station_framed.k1 x10 = some r := hM
        unfold station_framed.k1 at hM
        show WL _ _ _ _ _ [(4, .nilIface), (35, .bool x10)] (Sat w Z [] [] Glob)
        refine WL.run 1 [] [4, 16] (fun _ => [(4, .nilIface), (16, .bool x10)]) (fun _ => []) (fun _ => []) (fun _ => by kernel_rfl) (fun _ => ?_)
        refine WP.done ?_
        refine WP.cond x10 rfl rfl (fun c11 => ?_) (fun c11 => ?_)
        · replace hM := cond_t hM c11
          refine WP.seq ?_
          refine WP.region ?_
          obtain ⟨r12, h13, hM⟩ := bind_some hM
          refine WL.callP [] [] (station_not_calls (⟨#[102, 114, 97, 109, 101]⟩ : ByteArray) 3 _ h13) (fun _ h => h) (by kernel_rfl) (by kernel_rfl) rfl ?_
          refine WL.run 1 [] [4] (fun _ => [(4, .iface 138 (.agg #[.string r12.1, .iface 80 (.agg #[.int .i64 r12.2.n])]))]) (fun _ => []) (fun _ => []) (fun _ => by kernel_rfl) (fun _ => ?_)
          refine WP.done ?_
          obtain rfl := Option.some.inj hM
          exact WP.ret [] [] (.iface 138 (.agg #[.string r12.1, .iface 80 (.agg #[.int .i64 r12.2.n])])) (by kernel_rfl) (fun w' hw => ⟨rfl, hw.pick [] rfl⟩)
        · replace hM := cond_f hM c11
          refine WP.skip ?_
          refine WP.leave ?_
          refine WP.seq ?_
          refine WP.run [] [4] (fun _ => [(4, .nilIface)]) (fun _ => []) (fun _ => []) (fun _ => by kernel_rfl) (fun _ => ?_)
          obtain rfl := Option.some.inj hM
          exact WP.ret [] [] (.nilIface) (by kernel_rfl) (fun w' hw => ⟨rfl, hw.pick [] rfl⟩)
      ·
        refine WL.split (fun b' => [(3, .pointer (some ⟨b1, 0, none⟩)), (4, .nilIface), (26, .bool b')]) x8 (fun c9 => ?_) (fun c9 => ?_)
        · replace hM := cond_t hM c9
          refine WL.run 9 [] [4, 35] (fun _ => [(4, .nilIface), (35, .bool true)]) (fun _ => [(b1, .cells #[.int .u64 a1.Dst, .int .u64 a1.Src, .bool a1.Tag.Has, .int .i64 a1.Tag.Pri, .bool a1.Tag.Dei, .int .i64 a1.Tag.Vid, .int .i64 a1.Type_, .string a1.Body] 29 (0, 0))]) (fun _ => []) (fun _ => by kernel_rfl) (fun _ => ?_)
          exact WL.sub [4, 35] (by kernel_rfl) (WL.pick [] (by kernel_rfl) (by kernel_rfl) (K1 true hM))
        · replace hM := cond_f hM c9
          refine WL.run 4 [0] [3, 4, 26, 30] (fun _ => [(3, .pointer (some ⟨b1, 0, none⟩)), (4, .nilIface), (26, .bool false), (30, .bool (a1.Type_ != 2048))]) (fun _ => [(b1, .cells #[.int .u64 a1.Dst, .int .u64 a1.Src, .bool a1.Tag.Has, .int .i64 a1.Tag.Pri, .bool a1.Tag.Dei, .int .i64 a1.Tag.Vid, .int .i64 a1.Type_, .string a1.Body] 29 (0, 0))]) (fun _ => [b1]) (fun _ => by kernel_rfl) (fun _ => ?_)
          refine WL.sub [3, 4, 26, 30] (L' := [(3, .pointer (some ⟨b1, 0, none⟩)), (4, .nilIface), (26, .bool false), (30, .bool (a1.Type_ != 2048))]) (by kernel_rfl) ?_
          refine WL.both (fun b' => [(3, .pointer (some ⟨b1, 0, none⟩)), (4, .nilIface), (26, .bool false), (30, .bool b')]) (a1.Type_ != 2048) 4 [0] [] [4, 26, 34] (fun b' => [(4, .nilIface), (26, .bool false), (34, .bool (b' && (a1.Type_ != 2054)))]) [b1] [] (fun _ => by kernel_rfl) (fun _ => by kernel_rfl) ?_
          refine WL.run 1 [] [4, 35] (fun _ => [(4, .nilIface), (35, .bool ((a1.Type_ != 2048) && (a1.Type_ != 2054)))]) (fun _ => [(b1, .cells #[.int .u64 a1.Dst, .int .u64 a1.Src, .bool a1.Tag.Has, .int .i64 a1.Tag.Pri, .bool a1.Tag.Dei, .int .i64 a1.Tag.Vid, .int .i64 a1.Type_, .string a1.Body] 29 (0, 0))]) (fun _ => []) (fun _ => by kernel_rfl) (fun _ => ?_)
          exact WL.sub [4, 35] (by kernel_rfl) (WL.pick [] (by kernel_rfl) (by kernel_rfl) (K1 ((a1.Type_ != 2048) && (a1.Type_ != 2054)) hM))
    ·
      refine WL.split (fun b' => [(3, .pointer (some ⟨b1, 0, none⟩)), (4, .nilIface), (20, .bool b')]) a1.Tag.Has (fun c5 => ?_) (fun c5 => ?_)
      · replace hM := cond_t hM c5
        refine WL.run 5 [] [3, 4, 25] (fun _ => [(3, .pointer (some ⟨b1, 0, none⟩)), (4, .nilIface), (25, .bool true)]) (fun _ => [(b1, .cells #[.int .u64 a1.Dst, .int .u64 a1.Src, .bool a1.Tag.Has, .int .i64 a1.Tag.Pri, .bool a1.Tag.Dei, .int .i64 a1.Tag.Vid, .int .i64 a1.Type_, .string a1.Body] 29 (0, 0))]) (fun _ => []) (fun _ => by kernel_rfl) (fun _ => ?_)
        exact WL.sub [3, 4, 25] (by kernel_rfl) (WL.pick [0] (by kernel_rfl) (by kernel_rfl) (K2 true hM))
      · replace hM := cond_f hM c5
        refine WL.run 2 [0] [3, 4, 20, 22] (fun _ => [(3, .pointer (some ⟨b1, 0, none⟩)), (4, .nilIface), (20, .bool false), (22, .int .u64 a1.Src)]) (fun _ => [(b1, .cells #[.int .u64 a1.Dst, .int .u64 a1.Src, .bool a1.Tag.Has, .int .i64 a1.Tag.Pri, .bool a1.Tag.Dei, .int .i64 a1.Tag.Vid, .int .i64 a1.Type_, .string a1.Body] 29 (0, 0))]) (fun _ => [b1]) (fun _ => by kernel_rfl) (fun _ => ?_)
        obtain ⟨r6, h7, hM⟩ := bind_some hM
        refine WL.callP [] [] (addrs_Own_calls a1.Src _ h7) (fun _ h => h) (by kernel_rfl) (by kernel_rfl) rfl ?_
        refine WL.run 2 [] [3, 4, 25] (fun _ => [(3, .pointer (some ⟨b1, 0, none⟩)), (4, .nilIface), (25, .bool (!r6))]) (fun _ => [(b1, .cells #[.int .u64 a1.Dst, .int .u64 a1.Src, .bool a1.Tag.Has, .int .i64 a1.Tag.Pri, .bool a1.Tag.Dei, .int .i64 a1.Tag.Vid, .int .i64 a1.Type_, .string a1.Body] 29 (0, 0))]) (fun _ => []) (fun _ => by kernel_rfl) (fun _ => ?_)
        exact WL.sub [3, 4, 25] (by kernel_rfl) (WL.pick [0] (by kernel_rfl) (by kernel_rfl) (K2 (!r6) hM))

end Go.Proofs.YtbodofjnfmjbpaaGreatDoor

namespace Go.Proofs.YtbodofjnfmjbpaaGreatDoor
open Go Eng
set_option linter.unusedVariables false
set_option linter.unusedSimpArgs false

/-! ### gangway/octets.part: function 101 -/
def octets_part.f (a0 : ByteArray) (a1 : Int) (a2 : Int) : Option (ByteArray × Un0) :=
  bif ((decide (a1 < 0)) || (decide (a2 < 0))) then
    some ((⟨#[]⟩ : ByteArray), some (a1, 1))
  else
    bif ((decide (a1 > (a0.size : Int))) || (decide (a2 > (i64 ((a0.size : Int) - a1))))) then
      some ((⟨#[]⟩ : ByteArray), some (a1, 10))
    else
      (sliceS a0 a1 (i64 (a1 + a2))).bind fun t3 =>
      some (t3, none)

set_option maxRecDepth 100000 in
theorem octets_part_calls (a0 : ByteArray) (a1 : Int) (a2 : Int) (r : ByteArray × Un0) (h : octets_part.f a0 a1 a2 = some r) : Pure Tryz.prog Glob 101 #[.string a0, .int .i64 a1, .int .i64 a2] (.tuple #[.string r.1, Un0.v r.2]) := by
  intro w Z hS
  refine calls_of (args := [.string a0, .int .i64 a1, .int .i64 a2]) (L := [(0, .string a0), (1, .int .i64 a1), (2, .int .i64 a2)]) (N := 42) (S := Sat w Z [] [] Glob) Tryz.func101 rfl rfl (Nat.le_of_ble_eq_true rfl) rfl hS ?_
  have hM := h
  clear h hS
  unfold octets_part.f at hM
  refine WP.seq ?_
  refine WP.run [] [0, 1, 2, 6, 7] (fun _ => [(0, .string a0), (1, .int .i64 a1), (2, .int .i64 a2), (6, .string (⟨#[]⟩ : ByteArray)), (7, .nilIface)]) (fun _ => []) (fun _ => []) (fun _ => by kernel_rfl) (fun _ => ?_)
  refine WP.seq ?_
  refine WP.block ?_
  refine WP.seq ?_
  refine WP.region ?_
  refine WL.run 3 [] [0, 1, 2, 6, 7, 11] (fun _ => [(0, .string a0), (1, .int .i64 a1), (2, .int .i64 a2), (6, .string (⟨#[]⟩ : ByteArray)), (7, .nilIface), (11, .bool (decide (a1 < 0)))]) (fun _ => []) (fun _ => []) (fun _ => by kernel_rfl) (fun _ => ?_)
  refine WL.sub [0, 1, 2, 6, 7, 11] (L' := [(0, .string a0), (1, .int .i64 a1), (2, .int .i64 a2), (6, .string (⟨#[]⟩ : ByteArray)), (7, .nilIface), (11, .bool (decide (a1 < 0)))]) (by kernel_rfl) ?_
  refine WL.both (fun b' => [(0, .string a0), (1, .int .i64 a1), (2, .int .i64 a2), (6, .string (⟨#[]⟩ : ByteArray)), (7, .nilIface), (11, .bool b')]) (decide (a1 < 0)) 3 [] [] [0, 1, 2, 6, 7, 14] (fun b' => [(0, .string a0), (1, .int .i64 a1), (2, .int .i64 a2), (6, .string (⟨#[]⟩ : ByteArray)), (7, .nilIface), (14, .bool (b' || (decide (a2 < 0))))]) [] [] (fun _ => by kernel_rfl) (fun _ => by kernel_rfl) ?_
  refine WL.run 1 [] [0, 1, 2, 6, 7, 8] (fun _ => [(0, .string a0), (1, .int .i64 a1), (2, .int .i64 a2), (6, .string (⟨#[]⟩ : ByteArray)), (7, .nilIface), (8, .bool ((decide (a1 < 0)) || (decide (a2 < 0))))]) (fun _ => []) (fun _ => []) (fun _ => by kernel_rfl) (fun _ => ?_)
  refine WP.done ?_
  refine WP.cond ((decide (a1 < 0)) || (decide (a2 < 0))) rfl rfl (fun c1 => ?_) (fun c1 => ?_)
  · replace hM := cond_t hM c1
    refine WP.seq ?_
    refine WP.run [] [0, 1, 2, 6, 7] (fun _ => [(0, .string a0), (1, .int .i64 a1), (2, .int .i64 a2), (6, .string (⟨#[]⟩ : ByteArray)), (7, .iface 181 (.agg #[.int .i64 a1, .iface 30 (.int .i64 1)]))]) (fun _ => []) (fun _ => []) (fun _ => by kernel_rfl) (fun _ => ?_)
    obtain rfl := Option.some.inj hM
    exact WP.ret [] [] (.tuple #[.string (⟨#[]⟩ : ByteArray), .iface 181 (.agg #[.int .i64 a1, .iface 30 (.int .i64 1)])]) (by kernel_rfl) (fun w' hw => ⟨rfl, hw.pick [] rfl⟩)
  · replace hM := cond_f hM c1
    refine WP.seq ?_
    refine WP.region ?_
    refine WL.run 5 [] [0, 1, 2, 6, 7, 24] (fun _ => [(0, .string a0), (1, .int .i64 a1), (2, .int .i64 a2), (6, .string (⟨#[]⟩ : ByteArray)), (7, .nilIface), (24, .bool (decide (a1 > (a0.size : Int))))]) (fun _ => []) (fun _ => []) (fun _ => by kernel_rfl) (fun _ => ?_)
    refine WL.sub [0, 1, 2, 6, 7, 24] (L' := [(0, .string a0), (1, .int .i64 a1), (2, .int .i64 a2), (6, .string (⟨#[]⟩ : ByteArray)), (7, .nilIface), (24, .bool (decide (a1 > (a0.size : Int))))]) (by kernel_rfl) ?_
    refine WL.both (fun b' => [(0, .string a0), (1, .int .i64 a1), (2, .int .i64 a2), (6, .string (⟨#[]⟩ : ByteArray)), (7, .nilIface), (24, .bool b')]) (decide (a1 > (a0.size : Int))) 7 [] [] [0, 1, 2, 6, 7, 31] (fun b' => [(0, .string a0), (1, .int .i64 a1), (2, .int .i64 a2), (6, .string (⟨#[]⟩ : ByteArray)), (7, .nilIface), (31, .bool (b' || (decide (a2 > (i64 ((a0.size : Int) - a1))))))]) [] [] (fun _ => by kernel_rfl) (fun _ => by kernel_rfl) ?_
    refine WL.run 1 [] [0, 1, 2, 6, 7, 19] (fun _ => [(0, .string a0), (1, .int .i64 a1), (2, .int .i64 a2), (6, .string (⟨#[]⟩ : ByteArray)), (7, .nilIface), (19, .bool ((decide (a1 > (a0.size : Int))) || (decide (a2 > (i64 ((a0.size : Int) - a1))))))]) (fun _ => []) (fun _ => []) (fun _ => by kernel_rfl) (fun _ => ?_)
    refine WP.done ?_
    refine WP.cond ((decide (a1 > (a0.size : Int))) || (decide (a2 > (i64 ((a0.size : Int) - a1))))) rfl rfl (fun c2 => ?_) (fun c2 => ?_)
    · replace hM := cond_t hM c2
      refine WP.seq ?_
      refine WP.run [] [0, 1, 2, 6, 7] (fun _ => [(0, .string a0), (1, .int .i64 a1), (2, .int .i64 a2), (6, .string (⟨#[]⟩ : ByteArray)), (7, .iface 181 (.agg #[.int .i64 a1, .iface 30 (.int .i64 10)]))]) (fun _ => []) (fun _ => []) (fun _ => by kernel_rfl) (fun _ => ?_)
      obtain rfl := Option.some.inj hM
      exact WP.ret [] [] (.tuple #[.string (⟨#[]⟩ : ByteArray), .iface 181 (.agg #[.int .i64 a1, .iface 30 (.int .i64 10)])]) (by kernel_rfl) (fun w' hw => ⟨rfl, hw.pick [] rfl⟩)
    · replace hM := cond_f hM c2
      refine WP.skip ?_
      refine WP.leave ?_
      refine WP.seq ?_
      refine WP.region ?_
      refine WL.run 5 [] [6, 7, 36, 37, 40] (fun _ => [(6, .string (⟨#[]⟩ : ByteArray)), (7, .nilIface), (36, .string a0), (37, .int .i64 a1), (40, .int .i64 (i64 (a1 + a2)))]) (fun _ => []) (fun _ => []) (fun _ => by kernel_rfl) (fun _ => ?_)
      obtain ⟨t3, h4, hM⟩ := bind_some hM
      refine WL.val (fun _ => run_sliceS (s := a0) (kl := .i64) (kh := .i64) (l := a1) (h := i64 (a1 + a2)) (by kernel_rfl) (by kernel_rfl) (by kernel_rfl) (by kernel_rfl) h4) (by kernel_rfl) (by kernel_rfl) rfl ?_
      refine WL.run 2 [] [6, 7] (fun _ => [(6, .string t3), (7, .nilIface)]) (fun _ => []) (fun _ => []) (fun _ => by kernel_rfl) (fun _ => ?_)
      refine WP.done ?_
      obtain rfl := Option.some.inj hM
      exact WP.ret [] [] (.tuple #[.string t3, .nilIface]) (by kernel_rfl) (fun w' hw => ⟨rfl, hw.pick [] rfl⟩)

end Go.Proofs.YtbodofjnfmjbpaaGreatDoor

namespace Go.Proofs.YtbodofjnfmjbpaaGreatDoor
open Go Eng
set_option linter.unusedVariables false
set_option linter.unusedSimpArgs false

/-! ### (gangway/octets.at).Unwrap: function 161 -/
def octets_at_Unwrap.f (a0 : Int) (a0_1 : Int) : Option (Int) :=
  some a0_1

set_option maxRecDepth 100000 in
theorem octets_at_Unwrap_calls (a0 : Int) (a0_1 : Int) (r : Int) (h : octets_at_Unwrap.f a0 a0_1 = some r) : Pure Tryz.prog Glob 161 #[.agg #[.int .i64 a0, .iface 30 (.int .i64 a0_1)]] (.iface 30 (.int .i64 r)) := by
  intro w Z hS
  refine calls_of (args := [.agg #[.int .i64 a0, .iface 30 (.int .i64 a0_1)]]) (L := [(0, .agg #[.int .i64 a0, .iface 30 (.int .i64 a0_1)])]) (N := 5) (S := Sat w Z [] [] Glob) Tryz.func161 rfl rfl (Nat.le_of_ble_eq_true rfl) rfl hS ?_
  have hM := h
  clear h hS
  unfold octets_at_Unwrap.f at hM
  refine WP.seq ?_
  refine WP.run [] [1, 2] (fun b1 => [(1, .pointer (some ⟨b1, 0, none⟩)), (2, .nilIface)]) (fun b1 => [(b1, .cells #[.int .i64 a0, .iface 30 (.int .i64 a0_1)] 181 (0, 0))]) (fun b1 => []) (fun b1 => by kernel_rfl) (fun b1 => ?_)
  refine WP.seq ?_
  refine WP.run [0] [2] (fun _ => [(2, .iface 30 (.int .i64 a0_1))]) (fun _ => [(b1, .cells #[.int .i64 a0, .iface 30 (.int .i64 a0_1)] 181 (0, 0))]) (fun _ => [b1]) (fun _ => by kernel_rfl) (fun _ => ?_)
  refine WP.keep [false] (by kernel_rfl : _ = []) ?_
  obtain rfl := Option.some.inj hM
  exact WP.ret [] [] (.iface 30 (.int .i64 a0_1)) (by kernel_rfl) (fun w' hw => ⟨rfl, hw.pick [] rfl⟩)

end Go.Proofs.YtbodofjnfmjbpaaGreatDoor

namespace Go.Proofs.YtbodofjnfmjbpaaGreatDoor
open Go Eng
set_option linter.unusedVariables false
set_option linter.unusedSimpArgs false

/-! ### errors.as: function 62 -/
def errors_as.f (a0 : Int) (a0_1 : Int) (a1 : Int) : Option (Bool × Int) :=
  (octets_at_Unwrap.f a0 a0_1).bind fun r3 =>
  some (true, r3)

set_option maxRecDepth 100000 in
theorem errors_as_calls (b_0 : Nat) (b_1 : Nat) (a0 : Int) (a0_1 : Int) (a1 : Int) (r : Bool × Int) (h : errors_as.f a0 a0_1 a1 = some r) : Does Tryz.prog 62 #[.iface 181 (.agg #[.int .i64 a0, .iface 30 (.int .i64 a0_1)]), .iface 175 (.pointer (some ⟨b_0, 0, none⟩)), .agg #[.pointer (some ⟨2, 175, none⟩), .pointer (some ⟨b_1, 0, none⟩), .int .u64 150], .iface 148 (.agg #[.pointer (some ⟨2, 30, none⟩)])] [(b_0, .cells #[.int .i64 a1] 30 (0, 0)), (b_1, .cells #[.pointer (some ⟨b_0, 0, none⟩)] 175 (0, 0))] Glob (fun _ : Unit => .bool r.1) (fun _ => [(b_0, .cells #[.int .i64 r.2] 30 (0, 0)), (b_1, .cells #[.pointer (some ⟨b_0, 0, none⟩)] 175 (0, 0))]) (fun _ => []) (fun _ => Glob) := by
  intro w Z hS
  refine calls_of (args := [.iface 181 (.agg #[.int .i64 a0, .iface 30 (.int .i64 a0_1)]), .iface 175 (.pointer (some ⟨b_0, 0, none⟩)), .agg #[.pointer (some ⟨2, 175, none⟩), .pointer (some ⟨b_1, 0, none⟩), .int .u64 150], .iface 148 (.agg #[.pointer (some ⟨2, 30, none⟩)])]) (L := [(0, .iface 181 (.agg #[.int .i64 a0, .iface 30 (.int .i64 a0_1)])), (1, .iface 175 (.pointer (some ⟨b_0, 0, none⟩))), (2, .agg #[.pointer (some ⟨2, 175, none⟩), .pointer (some ⟨b_1, 0, none⟩), .int .u64 150]), (3, .iface 148 (.agg #[.pointer (some ⟨2, 30, none⟩)]))]) (N := 62) (S := Sat w Z [(b_0, .cells #[.int .i64 a1] 30 (0, 0)), (b_1, .cells #[.pointer (some ⟨b_0, 0, none⟩)] 175 (0, 0))] [] Glob) Tryz.func62 rfl rfl (Nat.le_of_ble_eq_true rfl) rfl hS ?_
  have hM := h
  clear h hS
  unfold errors_as.f at hM
  refine WP.seq ?_
  refine WP.run [] [0, 1, 3, 6, 8] (fun b1 => [(0, .iface 181 (.agg #[.int .i64 a0, .iface 30 (.int .i64 a0_1)])), (1, .iface 175 (.pointer (some ⟨b_0, 0, none⟩))), (3, .iface 148 (.agg #[.pointer (some ⟨2, 30, none⟩)])), (6, .pointer (some ⟨b1, 0, none⟩)), (8, .bool false)]) (fun b1 => [(b_0, .cells #[.int .i64 a1] 30 (0, 0)), (b_1, .cells #[.pointer (some ⟨b_0, 0, none⟩)] 175 (0, 0)), (b1, .cells #[.pointer (some ⟨2, 175, none⟩), .pointer (some ⟨b_1, 0, none⟩), .int .u64 150] 106 (0, 0))]) (fun b1 => []) (fun b1 => by kernel_rfl) (fun b1 => ?_)
  refine WP.block ?_
  refine WP.unroll 40 ?_
  refine WP.block ?_
  refine WP.seq ?_
  refine WP.seq ?_
  refine WP.run [] [0, 1, 3, 6, 8, 16, 17, 18, 19] (fun _ => [(0, .iface 181 (.agg #[.int .i64 a0, .iface 30 (.int .i64 a0_1)])), (1, .iface 175 (.pointer (some ⟨b_0, 0, none⟩))), (3, .iface 148 (.agg #[.pointer (some ⟨2, 30, none⟩)])), (6, .pointer (some ⟨b1, 0, none⟩)), (8, .bool false), (16, .iface 181 (.agg #[.int .i64 a0, .iface 30 (.int .i64 a0_1)])), (17, .iface 148 (.agg #[.pointer (some ⟨2, 181, none⟩)])), (18, .iface 148 (.agg #[.pointer (some ⟨2, 30, none⟩)])), (19, .bool false)]) (fun _ => [(b_0, .cells #[.int .i64 a1] 30 (0, 0)), (b_1, .cells #[.pointer (some ⟨b_0, 0, none⟩)] 175 (0, 0)), (b1, .cells #[.pointer (some ⟨2, 175, none⟩), .pointer (some ⟨b_1, 0, none⟩), .int .u64 150] 106 (0, 0))]) (fun _ => []) (fun _ => by kernel_rfl) (fun _ => ?_)
  refine WP.no rfl rfl ?_
  refine WP.skip ?_
  refine WP.seq ?_
  refine WP.seq ?_
  refine WP.region ?_
  refine WL.run 1 [] [0, 1, 3, 6, 8, 16, 17, 18, 19, 26] (fun _ => [(0, .iface 181 (.agg #[.int .i64 a0, .iface 30 (.int .i64 a0_1)])), (1, .iface 175 (.pointer (some ⟨b_0, 0, none⟩))), (3, .iface 148 (.agg #[.pointer (some ⟨2, 30, none⟩)])), (6, .pointer (some ⟨b1, 0, none⟩)), (8, .bool false), (16, .iface 181 (.agg #[.int .i64 a0, .iface 30 (.int .i64 a0_1)])), (17, .iface 148 (.agg #[.pointer (some ⟨2, 181, none⟩)])), (18, .iface 148 (.agg #[.pointer (some ⟨2, 30, none⟩)])), (19, .bool false), (26, .iface 181 (.agg #[.int .i64 a0, .iface 30 (.int .i64 a0_1)]))]) (fun _ => [(b_0, .cells #[.int .i64 a1] 30 (0, 0)), (b_1, .cells #[.pointer (some ⟨b_0, 0, none⟩)] 175 (0, 0)), (b1, .cells #[.pointer (some ⟨2, 175, none⟩), .pointer (some ⟨b_1, 0, none⟩), .int .u64 150] 106 (0, 0))]) (fun _ => []) (fun _ => by kernel_rfl) (fun _ => ?_)
  refine WL.val (fun _ => run_assertLacks (t := 181) (v := .agg #[.int .i64 a0, .iface 30 (.int .i64 a0_1)]) (z := .nilIface) (by kernel_rfl) (by kernel_rfl) (by kernel_rfl)) (by kernel_rfl) (by kernel_rfl) rfl ?_
  refine WL.run 5 [] [0, 1, 3, 6, 8, 9, 10, 16, 17, 18, 19, 25, 26, 27, 28, 29] (fun _ => [(0, .iface 181 (.agg #[.int .i64 a0, .iface 30 (.int .i64 a0_1)])), (1, .iface 175 (.pointer (some ⟨b_0, 0, none⟩))), (3, .iface 148 (.agg #[.pointer (some ⟨2, 30, none⟩)])), (6, .pointer (some ⟨b1, 0, none⟩)), (8, .bool false), (9, .nilIface), (10, .bool false), (16, .iface 181 (.agg #[.int .i64 a0, .iface 30 (.int .i64 a0_1)])), (17, .iface 148 (.agg #[.pointer (some ⟨2, 181, none⟩)])), (18, .iface 148 (.agg #[.pointer (some ⟨2, 30, none⟩)])), (19, .bool false), (25, .tuple #[.nilIface, .bool false]), (26, .iface 181 (.agg #[.int .i64 a0, .iface 30 (.int .i64 a0_1)])), (27, .tuple #[.nilIface, .bool false]), (28, .nilIface), (29, .bool false)]) (fun _ => [(b_0, .cells #[.int .i64 a1] 30 (0, 0)), (b_1, .cells #[.pointer (some ⟨b_0, 0, none⟩)] 175 (0, 0)), (b1, .cells #[.pointer (some ⟨2, 175, none⟩), .pointer (some ⟨b_1, 0, none⟩), .int .u64 150] 106 (0, 0))]) (fun _ => []) (fun _ => by kernel_rfl) (fun _ => ?_)
  refine WP.done ?_
  refine WP.seq ?_
  refine WP.run [] [0, 1, 3, 6, 8, 9, 10, 16, 17, 18, 19, 25, 26, 27, 28, 29, 30, 31, 32, 33, 34, 35] (fun _ => [(0, .iface 181 (.agg #[.int .i64 a0, .iface 30 (.int .i64 a0_1)])), (1, .iface 175 (.pointer (some ⟨b_0, 0, none⟩))), (3, .iface 148 (.agg #[.pointer (some ⟨2, 30, none⟩)])), (6, .pointer (some ⟨b1, 0, none⟩)), (8, .bool false), (9, .nilIface), (10, .bool false), (16, .iface 181 (.agg #[.int .i64 a0, .iface 30 (.int .i64 a0_1)])), (17, .iface 148 (.agg #[.pointer (some ⟨2, 181, none⟩)])), (18, .iface 148 (.agg #[.pointer (some ⟨2, 30, none⟩)])), (19, .bool false), (25, .tuple #[.nilIface, .bool false]), (26, .iface 181 (.agg #[.int .i64 a0, .iface 30 (.int .i64 a0_1)])), (27, .tuple #[.nilIface, .bool false]), (28, .nilIface), (29, .bool false), (30, .bool false), (31, .bool false), (32, .tuple #[]), (33, .tuple #[]), (34, .tuple #[]), (35, .bool false)]) (fun _ => [(b_0, .cells #[.int .i64 a1] 30 (0, 0)), (b_1, .cells #[.pointer (some ⟨b_0, 0, none⟩)] 175 (0, 0)), (b1, .cells #[.pointer (some ⟨2, 175, none⟩), .pointer (some ⟨b_1, 0, none⟩), .int .u64 150] 106 (0, 0))]) (fun _ => []) (fun _ => by kernel_rfl) (fun _ => ?_)
  refine WP.no rfl rfl ?_
  refine WP.skip ?_
  refine WP.seq ?_
  refine WP.run [] [0, 1, 3, 6, 8, 9, 10, 16, 17, 18, 19, 25, 26, 27, 28, 29, 30, 31, 32, 33, 34, 35, 36] (fun _ => [(0, .iface 181 (.agg #[.int .i64 a0, .iface 30 (.int .i64 a0_1)])), (1, .iface 175 (.pointer (some ⟨b_0, 0, none⟩))), (3, .iface 148 (.agg #[.pointer (some ⟨2, 30, none⟩)])), (6, .pointer (some ⟨b1, 0, none⟩)), (8, .bool false), (9, .nilIface), (10, .bool false), (16, .iface 181 (.agg #[.int .i64 a0, .iface 30 (.int .i64 a0_1)])), (17, .iface 148 (.agg #[.pointer (some ⟨2, 181, none⟩)])), (18, .iface 148 (.agg #[.pointer (some ⟨2, 30, none⟩)])), (19, .bool false), (25, .tuple #[.nilIface, .bool false]), (26, .iface 181 (.agg #[.int .i64 a0, .iface 30 (.int .i64 a0_1)])), (27, .tuple #[.nilIface, .bool false]), (28, .nilIface), (29, .bool false), (30, .bool false), (31, .bool false), (32, .tuple #[]), (33, .tuple #[]), (34, .tuple #[]), (35, .bool false), (36, .iface 181 (.agg #[.int .i64 a0, .iface 30 (.int .i64 a0_1)]))]) (fun _ => [(b_0, .cells #[.int .i64 a1] 30 (0, 0)), (b_1, .cells #[.pointer (some ⟨b_0, 0, none⟩)] 175 (0, 0)), (b1, .cells #[.pointer (some ⟨2, 175, none⟩), .pointer (some ⟨b_1, 0, none⟩), .int .u64 150] 106 (0, 0))]) (fun _ => []) (fun _ => by kernel_rfl) (fun _ => ?_)
  refine WP.block ?_
  refine WP.seq ?_
  refine WP.region ?_
  refine WL.val (fun _ => run_assertHas (t := 181) (v := .agg #[.int .i64 a0, .iface 30 (.int .i64 a0_1)]) (by kernel_rfl) (by kernel_rfl)) (by kernel_rfl) (by kernel_rfl) rfl ?_
  refine WL.run 2 [] [0, 1, 3, 6, 8, 9, 10, 16, 17, 18, 19, 25, 26, 27, 28, 29, 30, 31, 32, 33, 34, 35, 36, 37, 38, 39] (fun _ => [(0, .iface 181 (.agg #[.int .i64 a0, .iface 30 (.int .i64 a0_1)])), (1, .iface 175 (.pointer (some ⟨b_0, 0, none⟩))), (3, .iface 148 (.agg #[.pointer (some ⟨2, 30, none⟩)])), (6, .pointer (some ⟨b1, 0, none⟩)), (8, .bool false), (9, .nilIface), (10, .bool false), (16, .iface 181 (.agg #[.int .i64 a0, .iface 30 (.int .i64 a0_1)])), (17, .iface 148 (.agg #[.pointer (some ⟨2, 181, none⟩)])), (18, .iface 148 (.agg #[.pointer (some ⟨2, 30, none⟩)])), (19, .bool false), (25, .tuple #[.nilIface, .bool false]), (26, .iface 181 (.agg #[.int .i64 a0, .iface 30 (.int .i64 a0_1)])), (27, .tuple #[.nilIface, .bool false]), (28, .nilIface), (29, .bool false), (30, .bool false), (31, .bool false), (32, .tuple #[]), (33, .tuple #[]), (34, .tuple #[]), (35, .bool false), (36, .iface 181 (.agg #[.int .i64 a0, .iface 30 (.int .i64 a0_1)])), (37, .tuple #[.iface 181 (.agg #[.int .i64 a0, .iface 30 (.int .i64 a0_1)]), .bool true]), (38, .bool true), (39, .iface 181 (.agg #[.int .i64 a0, .iface 30 (.int .i64 a0_1)]))]) (fun _ => [(b_0, .cells #[.int .i64 a1] 30 (0, 0)), (b_1, .cells #[.pointer (some ⟨b_0, 0, none⟩)] 175 (0, 0)), (b1, .cells #[.pointer (some ⟨2, 175, none⟩), .pointer (some ⟨b_1, 0, none⟩), .int .u64 150] 106 (0, 0))]) (fun _ => []) (fun _ => by kernel_rfl) (fun _ => ?_)
  refine WP.done ?_
  refine WP.yes rfl rfl ?_
  refine WP.seq ?_
  refine WP.run [] [0, 1, 3, 6, 8, 9, 10, 11, 16, 17, 18, 19, 25, 26, 27, 28, 29, 30, 31, 32, 33, 34, 35, 36, 37, 38, 39] (fun _ => [(0, .iface 181 (.agg #[.int .i64 a0, .iface 30 (.int .i64 a0_1)])), (1, .iface 175 (.pointer (some ⟨b_0, 0, none⟩))), (3, .iface 148 (.agg #[.pointer (some ⟨2, 30, none⟩)])), (6, .pointer (some ⟨b1, 0, none⟩)), (8, .bool false), (9, .nilIface), (10, .bool false), (11, .iface 181 (.agg #[.int .i64 a0, .iface 30 (.int .i64 a0_1)])), (16, .iface 181 (.agg #[.int .i64 a0, .iface 30 (.int .i64 a0_1)])), (17, .iface 148 (.agg #[.pointer (some ⟨2, 181, none⟩)])), (18, .iface 148 (.agg #[.pointer (some ⟨2, 30, none⟩)])), (19, .bool false), (25, .tuple #[.nilIface, .bool false]), (26, .iface 181 (.agg #[.int .i64 a0, .iface 30 (.int .i64 a0_1)])), (27, .tuple #[.nilIface, .bool false]), (28, .nilIface), (29, .bool false), (30, .bool false), (31, .bool false), (32, .tuple #[]), (33, .tuple #[]), (34, .tuple #[]), (35, .bool false), (36, .iface 181 (.agg #[.int .i64 a0, .iface 30 (.int .i64 a0_1)])), (37, .tuple #[.iface 181 (.agg #[.int .i64 a0, .iface 30 (.int .i64 a0_1)]), .bool true]), (38, .bool true), (39, .iface 181 (.agg #[.int .i64 a0, .iface 30 (.int .i64 a0_1)]))]) (fun _ => [(b_0, .cells #[.int .i64 a1] 30 (0, 0)), (b_1, .cells #[.pointer (some ⟨b_0, 0, none⟩)] 175 (0, 0)), (b1, .cells #[.pointer (some ⟨2, 175, none⟩), .pointer (some ⟨b_1, 0, none⟩), .int .u64 150] 106 (0, 0))]) (fun _ => []) (fun _ => by kernel_rfl) (fun _ => ?_)
  refine WP.seq ?_
  refine WP.region ?_
  refine WL.run 1 [] [0, 1, 3, 6, 8, 9, 10, 11, 16, 17, 18, 19, 25, 26, 27, 28, 29, 30, 31, 32, 33, 34, 35, 36, 37, 38, 39, 40] (fun _ => [(0, .iface 181 (.agg #[.int .i64 a0, .iface 30 (.int .i64 a0_1)])), (1, .iface 175 (.pointer (some ⟨b_0, 0, none⟩))), (3, .iface 148 (.agg #[.pointer (some ⟨2, 30, none⟩)])), (6, .pointer (some ⟨b1, 0, none⟩)), (8, .bool false), (9, .nilIface), (10, .bool false), (11, .iface 181 (.agg #[.int .i64 a0, .iface 30 (.int .i64 a0_1)])), (16, .iface 181 (.agg #[.int .i64 a0, .iface 30 (.int .i64 a0_1)])), (17, .iface 148 (.agg #[.pointer (some ⟨2, 181, none⟩)])), (18, .iface 148 (.agg #[.pointer (some ⟨2, 30, none⟩)])), (19, .bool false), (25, .tuple #[.nilIface, .bool false]), (26, .iface 181 (.agg #[.int .i64 a0, .iface 30 (.int .i64 a0_1)])), (27, .tuple #[.nilIface, .bool false]), (28, .nilIface), (29, .bool false), (30, .bool false), (31, .bool false), (32, .tuple #[]), (33, .tuple #[]), (34, .tuple #[]), (35, .bool false), (36, .iface 181 (.agg #[.int .i64 a0, .iface 30 (.int .i64 a0_1)])), (37, .tuple #[.iface 181 (.agg #[.int .i64 a0, .iface 30 (.int .i64 a0_1)]), .bool true]), (38, .bool true), (39, .iface 181 (.agg #[.int .i64 a0, .iface 30 (.int .i64 a0_1)])), (40, .iface 181 (.agg #[.int .i64 a0, .iface 30 (.int .i64 a0_1)]))]) (fun _ => [(b_0, .cells #[.int .i64 a1] 30 (0, 0)), (b_1, .cells #[.pointer (some ⟨b_0, 0, none⟩)] 175 (0, 0)), (b1, .cells #[.pointer (some ⟨2, 175, none⟩), .pointer (some ⟨b_1, 0, none⟩), .int .u64 150] 106 (0, 0))]) (fun _ => []) (fun _ => by kernel_rfl) (fun _ => ?_)
  obtain ⟨r3, h4, hM⟩ := bind_some hM
  refine WL.callP [] [] (octets_at_Unwrap_calls a0 a0_1 _ h4) (fun _ h => h) (by kernel_rfl) (by kernel_rfl) rfl ?_
  refine WL.run 1 [] [0, 1, 3, 6, 8, 9, 10, 11, 16, 17, 18, 19, 25, 26, 27, 28, 29, 30, 31, 32, 33, 34, 35, 36, 37, 38, 39, 40, 41] (fun _ => [(0, .iface 30 (.int .i64 r3)), (1, .iface 175 (.pointer (some ⟨b_0, 0, none⟩))), (3, .iface 148 (.agg #[.pointer (some ⟨2, 30, none⟩)])), (6, .pointer (some ⟨b1, 0, none⟩)), (8, .bool false), (9, .nilIface), (10, .bool false), (11, .iface 181 (.agg #[.int .i64 a0, .iface 30 (.int .i64 a0_1)])), (16, .iface 181 (.agg #[.int .i64 a0, .iface 30 (.int .i64 a0_1)])), (17, .iface 148 (.agg #[.pointer (some ⟨2, 181, none⟩)])), (18, .iface 148 (.agg #[.pointer (some ⟨2, 30, none⟩)])), (19, .bool false), (25, .tuple #[.nilIface, .bool false]), (26, .iface 181 (.agg #[.int .i64 a0, .iface 30 (.int .i64 a0_1)])), (27, .tuple #[.nilIface, .bool false]), (28, .nilIface), (29, .bool false), (30, .bool false), (31, .bool false), (32, .tuple #[]), (33, .tuple #[]), (34, .tuple #[]), (35, .bool false), (36, .iface 181 (.agg #[.int .i64 a0, .iface 30 (.int .i64 a0_1)])), (37, .tuple #[.iface 181 (.agg #[.int .i64 a0, .iface 30 (.int .i64 a0_1)]), .bool true]), (38, .bool true), (39, .iface 181 (.agg #[.int .i64 a0, .iface 30 (.int .i64 a0_1)])), (40, .iface 181 (.agg #[.int .i64 a0, .iface 30 (.int .i64 a0_1)])), (41, .iface 30 (.int .i64 r3))]) (fun _ => [(b_0, .cells #[.int .i64 a1] 30 (0, 0)), (b_1, .cells #[.pointer (some ⟨b_0, 0, none⟩)] 175 (0, 0)), (b1, .cells #[.pointer (some ⟨2, 175, none⟩), .pointer (some ⟨b_1, 0, none⟩), .int .u64 150] 106 (0, 0))]) (fun _ => []) (fun _ => by kernel_rfl) (fun _ => ?_)
  refine WP.done ?_
  refine WP.seq ?_
  refine WP.run [] [0, 1, 3, 6, 8, 9, 10, 11, 16, 17, 18, 19, 25, 26, 27, 28, 29, 30, 31, 32, 33, 34, 35, 36, 37, 38, 39, 40, 41, 42, 43] (fun _ => [(0, .iface 30 (.int .i64 r3)), (1, .iface 175 (.pointer (some ⟨b_0, 0, none⟩))), (3, .iface 148 (.agg #[.pointer (some ⟨2, 30, none⟩)])), (6, .pointer (some ⟨b1, 0, none⟩)), (8, .bool false), (9, .nilIface), (10, .bool false), (11, .iface 181 (.agg #[.int .i64 a0, .iface 30 (.int .i64 a0_1)])), (16, .iface 181 (.agg #[.int .i64 a0, .iface 30 (.int .i64 a0_1)])), (17, .iface 148 (.agg #[.pointer (some ⟨2, 181, none⟩)])), (18, .iface 148 (.agg #[.pointer (some ⟨2, 30, none⟩)])), (19, .bool false), (25, .tuple #[.nilIface, .bool false]), (26, .iface 181 (.agg #[.int .i64 a0, .iface 30 (.int .i64 a0_1)])), (27, .tuple #[.nilIface, .bool false]), (28, .nilIface), (29, .bool false), (30, .bool false), (31, .bool false), (32, .tuple #[]), (33, .tuple #[]), (34, .tuple #[]), (35, .bool false), (36, .iface 181 (.agg #[.int .i64 a0, .iface 30 (.int .i64 a0_1)])), (37, .tuple #[.iface 181 (.agg #[.int .i64 a0, .iface 30 (.int .i64 a0_1)]), .bool true]), (38, .bool true), (39, .iface 181 (.agg #[.int .i64 a0, .iface 30 (.int .i64 a0_1)])), (40, .iface 181 (.agg #[.int .i64 a0, .iface 30 (.int .i64 a0_1)])), (41, .iface 30 (.int .i64 r3)), (42, .iface 30 (.int .i64 r3)), (43, .bool false)]) (fun _ => [(b_0, .cells #[.int .i64 a1] 30 (0, 0)), (b_1, .cells #[.pointer (some ⟨b_0, 0, none⟩)] 175 (0, 0)), (b1, .cells #[.pointer (some ⟨2, 175, none⟩), .pointer (some ⟨b_1, 0, none⟩), .int .u64 150] 106 (0, 0))]) (fun _ => []) (fun _ => by kernel_rfl) (fun _ => ?_)
  refine WP.no rfl rfl ?_
  refine WP.skip ?_
  refine WP.leave ?_
  refine WP.leave ?_
  refine WP.round ?_
  refine WP.block ?_
  refine WP.seq ?_
  refine WP.seq ?_
  refine WP.run [] [0, 1, 3, 6, 8, 9, 10, 11, 16, 17, 18, 19, 25, 26, 27, 28, 29, 30, 31, 32, 33, 34, 35, 36, 37, 38, 39, 40, 41, 42, 43] (fun _ => [(0, .iface 30 (.int .i64 r3)), (1, .iface 175 (.pointer (some ⟨b_0, 0, none⟩))), (3, .iface 148 (.agg #[.pointer (some ⟨2, 30, none⟩)])), (6, .pointer (some ⟨b1, 0, none⟩)), (8, .bool false), (9, .nilIface), (10, .bool false), (11, .iface 181 (.agg #[.int .i64 a0, .iface 30 (.int .i64 a0_1)])), (16, .iface 30 (.int .i64 r3)), (17, .iface 148 (.agg #[.pointer (some ⟨2, 30, none⟩)])), (18, .iface 148 (.agg #[.pointer (some ⟨2, 30, none⟩)])), (19, .bool true), (25, .tuple #[.nilIface, .bool false]), (26, .iface 181 (.agg #[.int .i64 a0, .iface 30 (.int .i64 a0_1)])), (27, .tuple #[.nilIface, .bool false]), (28, .nilIface), (29, .bool false), (30, .bool false), (31, .bool false), (32, .tuple #[]), (33, .tuple #[]), (34, .tuple #[]), (35, .bool false), (36, .iface 181 (.agg #[.int .i64 a0, .iface 30 (.int .i64 a0_1)])), (37, .tuple #[.iface 181 (.agg #[.int .i64 a0, .iface 30 (.int .i64 a0_1)]), .bool true]), (38, .bool true), (39, .iface 181 (.agg #[.int .i64 a0, .iface 30 (.int .i64 a0_1)])), (40, .iface 181 (.agg #[.int .i64 a0, .iface 30 (.int .i64 a0_1)])), (41, .iface 30 (.int .i64 r3)), (42, .iface 30 (.int .i64 r3)), (43, .bool false)]) (fun _ => [(b_0, .cells #[.int .i64 a1] 30 (0, 0)), (b_1, .cells #[.pointer (some ⟨b_0, 0, none⟩)] 175 (0, 0)), (b1, .cells #[.pointer (some ⟨2, 175, none⟩), .pointer (some ⟨b_1, 0, none⟩), .int .u64 150] 106 (0, 0))]) (fun _ => []) (fun _ => by kernel_rfl) (fun _ => ?_)
  refine WP.yes rfl rfl ?_
  refine WP.seq ?_
  refine WP.run [2, 2, 2, 1, 3, 0] [0, 1, 3, 6, 8, 9, 10, 11, 16, 17, 18, 19, 20, 21, 22, 23, 25, 26, 27, 28, 29, 30, 31, 32, 33, 34, 35, 36, 37, 38, 39, 40, 41, 42, 43] (fun b5 => [(0, .iface 30 (.int .i64 r3)), (1, .iface 175 (.pointer (some ⟨b_0, 0, none⟩))), (3, .iface 148 (.agg #[.pointer (some ⟨2, 30, none⟩)])), (6, .pointer (some ⟨b1, 0, none⟩)), (8, .bool false), (9, .nilIface), (10, .bool false), (11, .iface 181 (.agg #[.int .i64 a0, .iface 30 (.int .i64 a0_1)])), (16, .iface 30 (.int .i64 r3)), (17, .iface 148 (.agg #[.pointer (some ⟨2, 30, none⟩)])), (18, .iface 148 (.agg #[.pointer (some ⟨2, 30, none⟩)])), (19, .bool true), (20, .agg #[.pointer (some ⟨2, 175, none⟩), .pointer (some ⟨b_1, 0, none⟩), .int .u64 150]), (21, .agg #[.pointer (some ⟨2, 30, none⟩), .pointer (some ⟨b_0, 0, none⟩), .int .u64 386]), (22, .iface 30 (.int .i64 r3)), (23, .agg #[.pointer (some ⟨2, 30, none⟩), .pointer (some ⟨b5, 0, none⟩), .int .u64 130]), (25, .tuple #[.nilIface, .bool false]), (26, .iface 181 (.agg #[.int .i64 a0, .iface 30 (.int .i64 a0_1)])), (27, .tuple #[.nilIface, .bool false]), (28, .nilIface), (29, .bool false), (30, .bool false), (31, .bool false), (32, .tuple #[]), (33, .tuple #[]), (34, .tuple #[]), (35, .bool false), (36, .iface 181 (.agg #[.int .i64 a0, .iface 30 (.int .i64 a0_1)])), (37, .tuple #[.iface 181 (.agg #[.int .i64 a0, .iface 30 (.int .i64 a0_1)]), .bool true]), (38, .bool true), (39, .iface 181 (.agg #[.int .i64 a0, .iface 30 (.int .i64 a0_1)])), (40, .iface 181 (.agg #[.int .i64 a0, .iface 30 (.int .i64 a0_1)])), (41, .iface 30 (.int .i64 r3)), (42, .iface 30 (.int .i64 r3)), (43, .bool false)]) (fun b5 => [(b_0, .cells #[.int .i64 r3] 30 (0, 0)), (b_1, .cells #[.pointer (some ⟨b_0, 0, none⟩)] 175 (0, 0)), (b1, .cells #[.pointer (some ⟨2, 175, none⟩), .pointer (some ⟨b_1, 0, none⟩), .int .u64 150] 106 (0, 0)), (b5, .cells #[.int .i64 r3] 30 (0, 0))]) (fun b5 => [b_0, b5, b_1, b1, b1, b1]) (fun b5 => by kernel_rfl) (fun b5 => ?_)
  refine WP.seq ?_
  refine WP.run [] [0, 1, 3, 6, 8, 9, 10, 11, 16, 17, 18, 19, 20, 21, 22, 23, 25, 26, 27, 28, 29, 30, 31, 32, 33, 34, 35, 36, 37, 38, 39, 40, 41, 42, 43] (fun _ => [(0, .iface 30 (.int .i64 r3)), (1, .iface 175 (.pointer (some ⟨b_0, 0, none⟩))), (3, .iface 148 (.agg #[.pointer (some ⟨2, 30, none⟩)])), (6, .pointer (some ⟨b1, 0, none⟩)), (8, .bool true), (9, .nilIface), (10, .bool false), (11, .iface 181 (.agg #[.int .i64 a0, .iface 30 (.int .i64 a0_1)])), (16, .iface 30 (.int .i64 r3)), (17, .iface 148 (.agg #[.pointer (some ⟨2, 30, none⟩)])), (18, .iface 148 (.agg #[.pointer (some ⟨2, 30, none⟩)])), (19, .bool true), (20, .agg #[.pointer (some ⟨2, 175, none⟩), .pointer (some ⟨b_1, 0, none⟩), .int .u64 150]), (21, .agg #[.pointer (some ⟨2, 30, none⟩), .pointer (some ⟨b_0, 0, none⟩), .int .u64 386]), (22, .iface 30 (.int .i64 r3)), (23, .agg #[.pointer (some ⟨2, 30, none⟩), .pointer (some ⟨b5, 0, none⟩), .int .u64 130]), (25, .tuple #[.nilIface, .bool false]), (26, .iface 181 (.agg #[.int .i64 a0, .iface 30 (.int .i64 a0_1)])), (27, .tuple #[.nilIface, .bool false]), (28, .nilIface), (29, .bool false), (30, .bool false), (31, .bool false), (32, .tuple #[]), (33, .tuple #[]), (34, .tuple #[]), (35, .bool false), (36, .iface 181 (.agg #[.int .i64 a0, .iface 30 (.int .i64 a0_1)])), (37, .tuple #[.iface 181 (.agg #[.int .i64 a0, .iface 30 (.int .i64 a0_1)]), .bool true]), (38, .bool true), (39, .iface 181 (.agg #[.int .i64 a0, .iface 30 (.int .i64 a0_1)])), (40, .iface 181 (.agg #[.int .i64 a0, .iface 30 (.int .i64 a0_1)])), (41, .iface 30 (.int .i64 r3)), (42, .iface 30 (.int .i64 r3)), (43, .bool false)]) (fun _ => [(b_0, .cells #[.int .i64 r3] 30 (0, 0)), (b_1, .cells #[.pointer (some ⟨b_0, 0, none⟩)] 175 (0, 0)), (b1, .cells #[.pointer (some ⟨2, 175, none⟩), .pointer (some ⟨b_1, 0, none⟩), .int .u64 150] 106 (0, 0)), (b5, .cells #[.int .i64 r3] 30 (0, 0))]) (fun _ => []) (fun _ => by kernel_rfl) (fun _ => ?_)
  obtain rfl := Option.some.inj hM
  exact WP.ret [] [] (.bool true) (by kernel_rfl) (fun w' hw => ⟨(), rfl, hw.pick [0, 1] (by kernel_rfl)⟩)

end Go.Proofs.YtbodofjnfmjbpaaGreatDoor

namespace Go.Proofs.YtbodofjnfmjbpaaGreatDoor
open Go Eng
set_option linter.unusedVariables false
set_option linter.unusedSimpArgs false

/-! ### errors.As: function 34 -/
def errors_As.f (a0 : Int) (a0_1 : Int) (a1 : Int) : Option (Bool × Int) :=
  (errors_as.f a0 a0_1 a1).bind fun (r2, r3) =>
  some (r2, r3)

set_option maxRecDepth 100000 in
theorem errors_As_calls (b_0 : Nat) (a0 : Int) (a0_1 : Int) (a1 : Int) (r : Bool × Int) (h : errors_As.f a0 a0_1 a1 = some r) : Does Tryz.prog 34 #[.iface 181 (.agg #[.int .i64 a0, .iface 30 (.int .i64 a0_1)]), .iface 175 (.pointer (some ⟨b_0, 0, none⟩))] [(b_0, .cells #[.int .i64 a1] 30 (0, 0))] Glob (fun _ : Unit => .bool r.1) (fun _ => [(b_0, .cells #[.int .i64 r.2] 30 (0, 0))]) (fun _ => []) (fun _ => Glob) := by
  intro w Z hS
  refine calls_of (args := [.iface 181 (.agg #[.int .i64 a0, .iface 30 (.int .i64 a0_1)]), .iface 175 (.pointer (some ⟨b_0, 0, none⟩))]) (L := [(0, .iface 181 (.agg #[.int .i64 a0, .iface 30 (.int .i64 a0_1)])), (1, .iface 175 (.pointer (some ⟨b_0, 0, none⟩)))]) (N := 42) (S := Sat w Z [(b_0, .cells #[.int .i64 a1] 30 (0, 0))] [] Glob) Tryz.func34 rfl rfl (Nat.le_of_ble_eq_true rfl) rfl hS ?_
  have hM := h
  clear h hS
  unfold errors_As.f at hM
  refine WP.seq ?_
  refine WP.run [] [0, 1, 4] (fun _ => [(0, .iface 181 (.agg #[.int .i64 a0, .iface 30 (.int .i64 a0_1)])), (1, .iface 175 (.pointer (some ⟨b_0, 0, none⟩))), (4, .bool false)]) (fun _ => [(b_0, .cells #[.int .i64 a1] 30 (0, 0))]) (fun _ => []) (fun _ => by kernel_rfl) (fun _ => ?_)
  refine WP.seq ?_
  refine WP.seq ?_
  refine WP.run [] [0, 1, 4, 9] (fun _ => [(0, .iface 181 (.agg #[.int .i64 a0, .iface 30 (.int .i64 a0_1)])), (1, .iface 175 (.pointer (some ⟨b_0, 0, none⟩))), (4, .bool false), (9, .bool false)]) (fun _ => [(b_0, .cells #[.int .i64 a1] 30 (0, 0))]) (fun _ => []) (fun _ => by kernel_rfl) (fun _ => ?_)
  refine WP.no rfl rfl ?_
  refine WP.skip ?_
  refine WP.seq ?_
  refine WP.seq ?_
  refine WP.run [] [0, 1, 4, 11] (fun _ => [(0, .iface 181 (.agg #[.int .i64 a0, .iface 30 (.int .i64 a0_1)])), (1, .iface 175 (.pointer (some ⟨b_0, 0, none⟩))), (4, .bool false), (11, .bool false)]) (fun _ => [(b_0, .cells #[.int .i64 a1] 30 (0, 0))]) (fun _ => []) (fun _ => by kernel_rfl) (fun _ => ?_)
  refine WP.no rfl rfl ?_
  refine WP.skip ?_
  refine WP.seq ?_
  refine WP.run [2, 2, 2] [0, 1, 4, 5] (fun b1 => [(0, .iface 181 (.agg #[.int .i64 a0, .iface 30 (.int .i64 a0_1)])), (1, .iface 175 (.pointer (some ⟨b_0, 0, none⟩))), (4, .bool false), (5, .pointer (some ⟨(b1 + 1), 0, none⟩))]) (fun b1 => [(b_0, .cells #[.int .i64 a1] 30 (0, 0)), (b1, .cells #[.pointer (some ⟨b_0, 0, none⟩)] 175 (0, 0)), ((b1 + 1), .cells #[.pointer (some ⟨2, 175, none⟩), .pointer (some ⟨b1, 0, none⟩), .int .u64 150] 106 (0, 0))]) (fun b1 => [(b1 + 1), (b1 + 1), (b1 + 1)]) (fun b1 => by kernel_rfl) (fun b1 => ?_)
  refine WP.seq ?_
  refine WP.run [2, 2, 2] [0, 1, 4, 5, 6] (fun _ => [(0, .iface 181 (.agg #[.int .i64 a0, .iface 30 (.int .i64 a0_1)])), (1, .iface 175 (.pointer (some ⟨b_0, 0, none⟩))), (4, .bool false), (5, .pointer (some ⟨(b1 + 1), 0, none⟩)), (6, .iface 148 (.agg #[.pointer (some ⟨2, 175, none⟩)]))]) (fun _ => [(b_0, .cells #[.int .i64 a1] 30 (0, 0)), (b1, .cells #[.pointer (some ⟨b_0, 0, none⟩)] 175 (0, 0)), ((b1 + 1), .cells #[.pointer (some ⟨2, 175, none⟩), .pointer (some ⟨b1, 0, none⟩), .int .u64 150] 106 (0, 0))]) (fun _ => [(b1 + 1), (b1 + 1), (b1 + 1)]) (fun _ => by kernel_rfl) (fun _ => ?_)
  refine WP.seq ?_
  refine WP.seq ?_
  refine WP.run [2, 2, 2, 1] [0, 1, 4, 5, 6, 23] (fun _ => [(0, .iface 181 (.agg #[.int .i64 a0, .iface 30 (.int .i64 a0_1)])), (1, .iface 175 (.pointer (some ⟨b_0, 0, none⟩))), (4, .bool false), (5, .pointer (some ⟨(b1 + 1), 0, none⟩)), (6, .iface 148 (.agg #[.pointer (some ⟨2, 175, none⟩)])), (23, .bool false)]) (fun _ => [(b_0, .cells #[.int .i64 a1] 30 (0, 0)), (b1, .cells #[.pointer (some ⟨b_0, 0, none⟩)] 175 (0, 0)), ((b1 + 1), .cells #[.pointer (some ⟨2, 175, none⟩), .pointer (some ⟨b1, 0, none⟩), .int .u64 150] 106 (0, 0))]) (fun _ => [b1, (b1 + 1), (b1 + 1), (b1 + 1)]) (fun _ => by kernel_rfl) (fun _ => ?_)
  refine WP.no rfl rfl ?_
  refine WP.skip ?_
  refine WP.seq ?_
  refine WP.run [] [0, 1, 4, 5, 7] (fun _ => [(0, .iface 181 (.agg #[.int .i64 a0, .iface 30 (.int .i64 a0_1)])), (1, .iface 175 (.pointer (some ⟨b_0, 0, none⟩))), (4, .bool false), (5, .pointer (some ⟨(b1 + 1), 0, none⟩)), (7, .iface 148 (.agg #[.pointer (some ⟨2, 30, none⟩)]))]) (fun _ => [(b_0, .cells #[.int .i64 a1] 30 (0, 0)), (b1, .cells #[.pointer (some ⟨b_0, 0, none⟩)] 175 (0, 0)), ((b1 + 1), .cells #[.pointer (some ⟨2, 175, none⟩), .pointer (some ⟨b1, 0, none⟩), .int .u64 150] 106 (0, 0))]) (fun _ => []) (fun _ => by kernel_rfl) (fun _ => ?_)
  refine WP.seq ?_
  refine WP.seq ?_
  refine WP.region ?_
  refine WL.run 5 [] [0, 1, 4, 5, 7, 30, 31] (fun _ => [(0, .iface 181 (.agg #[.int .i64 a0, .iface 30 (.int .i64 a0_1)])), (1, .iface 175 (.pointer (some ⟨b_0, 0, none⟩))), (4, .bool false), (5, .pointer (some ⟨(b1 + 1), 0, none⟩)), (7, .iface 148 (.agg #[.pointer (some ⟨2, 30, none⟩)])), (30, .bool true), (31, .iface 148 (.agg #[.pointer (some ⟨2, 30, none⟩)]))]) (fun _ => [(b_0, .cells #[.int .i64 a1] 30 (0, 0)), (b1, .cells #[.pointer (some ⟨b_0, 0, none⟩)] 175 (0, 0)), ((b1 + 1), .cells #[.pointer (some ⟨2, 175, none⟩), .pointer (some ⟨b1, 0, none⟩), .int .u64 150] 106 (0, 0))]) (fun _ => []) (fun _ => by kernel_rfl) (fun _ => ?_)
  refine WL.loadGlob (v := .iface 148 (.agg #[.pointer (some ⟨2, 73, none⟩)])) (by simp [Glob]) (fun _ => by kernel_rfl) (by kernel_rfl) rfl ?_
  refine WL.run 3 [] [0, 1, 4, 5, 7, 35] (fun _ => [(0, .iface 181 (.agg #[.int .i64 a0, .iface 30 (.int .i64 a0_1)])), (1, .iface 175 (.pointer (some ⟨b_0, 0, none⟩))), (4, .bool false), (5, .pointer (some ⟨(b1 + 1), 0, none⟩)), (7, .iface 148 (.agg #[.pointer (some ⟨2, 30, none⟩)])), (35, .bool false)]) (fun _ => [(b_0, .cells #[.int .i64 a1] 30 (0, 0)), (b1, .cells #[.pointer (some ⟨b_0, 0, none⟩)] 175 (0, 0)), ((b1 + 1), .cells #[.pointer (some ⟨2, 175, none⟩), .pointer (some ⟨b1, 0, none⟩), .int .u64 150] 106 (0, 0))]) (fun _ => []) (fun _ => by kernel_rfl) (fun _ => ?_)
  refine WP.done ?_
  refine WP.no rfl rfl ?_
  refine WP.skip ?_
  refine WP.seq ?_
  refine WP.region ?_
  refine WL.run 4 [2, 2, 2] [4, 37, 38, 39, 40] (fun _ => [(4, .bool false), (37, .iface 181 (.agg #[.int .i64 a0, .iface 30 (.int .i64 a0_1)])), (38, .iface 175 (.pointer (some ⟨b_0, 0, none⟩))), (39, .agg #[.pointer (some ⟨2, 175, none⟩), .pointer (some ⟨b1, 0, none⟩), .int .u64 150]), (40, .iface 148 (.agg #[.pointer (some ⟨2, 30, none⟩)]))]) (fun _ => [(b_0, .cells #[.int .i64 a1] 30 (0, 0)), (b1, .cells #[.pointer (some ⟨b_0, 0, none⟩)] 175 (0, 0)), ((b1 + 1), .cells #[.pointer (some ⟨2, 175, none⟩), .pointer (some ⟨b1, 0, none⟩), .int .u64 150] 106 (0, 0))]) (fun _ => [(b1 + 1), (b1 + 1), (b1 + 1)]) (fun _ => by kernel_rfl) (fun _ => ?_)
  obtain ⟨⟨r2, r3⟩, h4, hM⟩ := bind_some hM
  dsimp only at hM
  refine WL.callE (X := Unit) [] [] [true, true, false] (fun _ => _) (errors_as_calls b_0 b1 a0 a0_1 a1 _ h4) rfl rfl (fun _ h => h) (by kernel_rfl) (by kernel_rfl) (fun _ => rfl) (fun _ => ?_)
  refine WL.run 1 [] [4] (fun _ => [(4, .bool r2)]) (fun _ => [(b_0, .cells #[.int .i64 r3] 30 (0, 0)), (b1, .cells #[.pointer (some ⟨b_0, 0, none⟩)] 175 (0, 0)), ((b1 + 1), .cells #[.pointer (some ⟨2, 175, none⟩), .pointer (some ⟨b1, 0, none⟩), .int .u64 150] 106 (0, 0))]) (fun _ => []) (fun _ => by kernel_rfl) (fun _ => ?_)
  refine WP.done ?_
  refine WP.keep [true, false, false] (by kernel_rfl : _ = [(b_0, .cells #[.int .i64 r3] 30 (0, 0))]) ?_
  obtain rfl := Option.some.inj hM
  exact WP.ret [] [] (.bool r2) (by kernel_rfl) (fun w' hw => ⟨(), rfl, hw.pick [0] (by kernel_rfl)⟩)

end Go.Proofs.YtbodofjnfmjbpaaGreatDoor

namespace Go.Proofs.YtbodofjnfmjbpaaGreatDoor
open Go Eng
set_option linter.unusedVariables false
set_option linter.unusedSimpArgs false

/-! ### gangway/octets.number: function 102 -/
def octets_number.f (a0 : Int) (a0_1 : Int) : Option (Int) :=
  (errors_As.f a0 a0_1 0).bind fun (r2, r3) =>
  bif r2 then
    some r3
  else
    some 0

set_option maxRecDepth 100000 in
theorem octets_number_calls (a0 : Int) (a0_1 : Int) (r : Int) (h : octets_number.f a0 a0_1 = some r) : Pure Tryz.prog Glob 102 #[.iface 181 (.agg #[.int .i64 a0, .iface 30 (.int .i64 a0_1)])] (.int .i64 r) := by
  intro w Z hS
  refine calls_of (args := [.iface 181 (.agg #[.int .i64 a0, .iface 30 (.int .i64 a0_1)])]) (L := [(0, .iface 181 (.agg #[.int .i64 a0, .iface 30 (.int .i64 a0_1)]))]) (N := 12) (S := Sat w Z [] [] Glob) Tryz.func102 rfl rfl (Nat.le_of_ble_eq_true rfl) rfl hS ?_
  have hM := h
  clear h hS
  unfold octets_number.f at hM
  refine WP.seq ?_
  refine WP.run [] [0, 2] (fun _ => [(0, .iface 181 (.agg #[.int .i64 a0, .iface 30 (.int .i64 a0_1)])), (2, .int .i64 0)]) (fun _ => []) (fun _ => []) (fun _ => by kernel_rfl) (fun _ => ?_)
  refine WP.seq ?_
  refine WP.run [] [0, 2, 3] (fun b1 => [(0, .iface 181 (.agg #[.int .i64 a0, .iface 30 (.int .i64 a0_1)])), (2, .int .i64 0), (3, .pointer (some ⟨b1, 0, none⟩))]) (fun b1 => [(b1, .cells #[.int .i64 0] 30 (0, 0))]) (fun b1 => []) (fun b1 => by kernel_rfl) (fun b1 => ?_)
  refine WP.seq ?_
  refine WP.seq ?_
  refine WP.region ?_
  refine WL.run 5 [] [2, 3, 6, 7, 8] (fun _ => [(2, .int .i64 0), (3, .pointer (some ⟨b1, 0, none⟩)), (6, .bool true), (7, .iface 181 (.agg #[.int .i64 a0, .iface 30 (.int .i64 a0_1)])), (8, .iface 175 (.pointer (some ⟨b1, 0, none⟩)))]) (fun _ => [(b1, .cells #[.int .i64 0] 30 (0, 0))]) (fun _ => []) (fun _ => by kernel_rfl) (fun _ => ?_)
  obtain ⟨⟨r2, r3⟩, h4, hM⟩ := bind_some hM
  dsimp only at hM
  refine WL.callE (X := Unit) [] [] [true] (fun _ => _) (errors_As_calls b1 a0 a0_1 0 _ h4) rfl rfl (fun _ h => h) (by kernel_rfl) (by kernel_rfl) (fun _ => rfl) (fun _ => ?_)
  refine WL.run 1 [] [2, 3, 10] (fun _ => [(2, .int .i64 0), (3, .pointer (some ⟨b1, 0, none⟩)), (10, .bool r2)]) (fun _ => [(b1, .cells #[.int .i64 r3] 30 (0, 0))]) (fun _ => []) (fun _ => by kernel_rfl) (fun _ => ?_)
  refine WP.done ?_
  refine WP.cond r2 rfl rfl (fun c5 => ?_) (fun c5 => ?_)
  · replace hM := cond_t hM c5
    refine WP.seq ?_
    refine WP.run [0] [2] (fun _ => [(2, .int .i64 r3)]) (fun _ => [(b1, .cells #[.int .i64 r3] 30 (0, 0))]) (fun _ => [b1]) (fun _ => by kernel_rfl) (fun _ => ?_)
    refine WP.keep [false] (by kernel_rfl : _ = []) ?_
    obtain rfl := Option.some.inj hM
    exact WP.ret [] [] (.int .i64 r3) (by kernel_rfl) (fun w' hw => ⟨rfl, hw.pick [] rfl⟩)
  · replace hM := cond_f hM c5
    refine WP.skip ?_
    refine WP.seq ?_
    refine WP.run [] [2] (fun _ => [(2, .int .i64 0)]) (fun _ => [(b1, .cells #[.int .i64 r3] 30 (0, 0))]) (fun _ => []) (fun _ => by kernel_rfl) (fun _ => ?_)
    refine WP.keep [false] (by kernel_rfl : _ = []) ?_
    obtain rfl := Option.some.inj hM
    exact WP.ret [] [] (.int .i64 0) (by kernel_rfl) (fun w' hw => ⟨rfl, hw.pick [] rfl⟩)

end Go.Proofs.YtbodofjnfmjbpaaGreatDoor

namespace Go.Proofs.YtbodofjnfmjbpaaGreatDoor
open Go Eng
set_option linter.unusedVariables false
set_option linter.unusedSimpArgs false

/-! ### gangway/octets.Get: function 78 -/
def octets_Get.l1 (a2 : Int) (r2 : ByteArray) : Nat → Int → Int → Option (Int × Int)
  | 0, _, _ => none
  | n + 1, x9, x10 =>
    bif decide (x10 < a2) then
      (idxS r2 x10).bind fun t12 =>
      octets_Get.l1 a2 r2 n (bOr .u64 (u64 (x9 * 256)) (u64 t12)) (i64 (x10 + 1))
    else
      some (x9, 0)

def octets_Get.f (k : Nat) (a0 : ByteArray) (a1 : Int) (a2 : Int) : Option (Int × Int) :=
  bif ((decide (a2 < 1)) || (decide (a2 > 8))) then
    some (0, 1)
  else
    (octets_part.f a0 a1 a2).bind fun (r2, r3) =>
    match r3 with
    | none =>
      octets_Get.l1 a2 r2 k 0 0
    | some (q5, q6) =>
      (octets_number.f q5 q6).bind fun r7 =>
      some (0, r7)

set_option maxRecDepth 100000 in
theorem octets_Get_calls (k : Nat) (a0 : ByteArray) (a1 : Int) (a2 : Int) (r : Int × Int) (h : octets_Get.f k a0 a1 a2 = some r) : Pure Tryz.prog Glob 78 #[.string a0, .int .i64 a1, .int .i64 a2] (.tuple #[.int .u64 r.1, .int .i64 r.2]) := by
  intro w Z hS
  refine calls_of (args := [.string a0, .int .i64 a1, .int .i64 a2]) (L := [(0, .string a0), (1, .int .i64 a1), (2, .int .i64 a2)]) (N := 42) (S := Sat w Z [] [] Glob) Tryz.func78 rfl rfl (Nat.le_of_ble_eq_true rfl) rfl hS ?_
  have hM := h
  clear h hS
  unfold octets_Get.f at hM
  refine WP.seq ?_
  refine WP.run [] [0, 1, 2, 6, 7] (fun _ => [(0, .string a0), (1, .int .i64 a1), (2, .int .i64 a2), (6, .int .u64 0), (7, .int .i64 0)]) (fun _ => []) (fun _ => []) (fun _ => by kernel_rfl) (fun _ => ?_)
  refine WP.seq ?_
  refine WP.seq ?_
  refine WP.region ?_
  refine WL.run 3 [] [0, 1, 2, 6, 7, 14] (fun _ => [(0, .string a0), (1, .int .i64 a1), (2, .int .i64 a2), (6, .int .u64 0), (7, .int .i64 0), (14, .bool (decide (a2 < 1)))]) (fun _ => []) (fun _ => []) (fun _ => by kernel_rfl) (fun _ => ?_)
  refine WL.sub [0, 1, 2, 6, 7, 14] (L' := [(0, .string a0), (1, .int .i64 a1), (2, .int .i64 a2), (6, .int .u64 0), (7, .int .i64 0), (14, .bool (decide (a2 < 1)))]) (by kernel_rfl) ?_
  refine WL.both (fun b' => [(0, .string a0), (1, .int .i64 a1), (2, .int .i64 a2), (6, .int .u64 0), (7, .int .i64 0), (14, .bool b')]) (decide (a2 < 1)) 3 [] [] [0, 1, 2, 6, 7, 17] (fun b' => [(0, .string a0), (1, .int .i64 a1), (2, .int .i64 a2), (6, .int .u64 0), (7, .int .i64 0), (17, .bool (b' || (decide (a2 > 8))))]) [] [] (fun _ => by kernel_rfl) (fun _ => by kernel_rfl) ?_
  refine WP.done ?_
  refine WP.cond ((decide (a2 < 1)) || (decide (a2 > 8))) rfl rfl (fun c1 => ?_) (fun c1 => ?_)
  · replace hM := cond_t hM c1
    refine WP.seq ?_
    refine WP.run [] [0, 1, 2, 6, 7] (fun _ => [(0, .string a0), (1, .int .i64 a1), (2, .int .i64 a2), (6, .int .u64 0), (7, .int .i64 1)]) (fun _ => []) (fun _ => []) (fun _ => by kernel_rfl) (fun _ => ?_)
    obtain rfl := Option.some.inj hM
    exact WP.ret [] [] (.tuple #[.int .u64 0, .int .i64 1]) (by kernel_rfl) (fun w' hw => ⟨rfl, hw.pick [] rfl⟩)
  · replace hM := cond_f hM c1
    refine WP.skip ?_
    refine WP.seq ?_
    refine WP.region ?_
    refine WL.run 3 [] [2, 6, 7, 19, 20, 21] (fun _ => [(2, .int .i64 a2), (6, .int .u64 0), (7, .int .i64 0), (19, .string a0), (20, .int .i64 a1), (21, .int .i64 a2)]) (fun _ => []) (fun _ => []) (fun _ => by kernel_rfl) (fun _ => ?_)
    obtain ⟨⟨r2, r3⟩, h4, hM⟩ := bind_some hM
    dsimp only at hM
    refine WL.callP [] [] (octets_part_calls a0 a1 a2 _ h4) (fun _ h => h) (by kernel_rfl) (by kernel_rfl) rfl ?_
    refine WL.run 5 [] [2, 6, 7, 8, 9] (fun _ => [(2, .int .i64 a2), (6, .int .u64 0), (7, .int .i64 0), (8, .string r2), (9, Un0.v r3)]) (fun _ => []) (fun _ => []) (fun _ => by kernel_rfl) (fun _ => ?_)
    refine WP.done ?_
    refine WP.seq ?_
    refine WP.seq ?_
    refine WP.region ?_
    refine WL.run 1 [] [2, 6, 7, 8, 9, 25] (fun _ => [(2, .int .i64 a2), (6, .int .u64 0), (7, .int .i64 0), (8, .string r2), (9, Un0.v r3), (25, Un0.v r3)]) (fun _ => []) (fun _ => []) (fun _ => by kernel_rfl) (fun _ => ?_)
    rcases r3 with _ | ⟨q5, q6⟩
    · dsimp only at hM
      refine WL.run 1 [] [2, 6, 7, 8, 9, 26] (fun _ => [(2, .int .i64 a2), (6, .int .u64 0), (7, .int .i64 0), (8, .string r2), (9, .nilIface), (26, .bool false)]) (fun _ => []) (fun _ => []) (fun _ => by kernel_rfl) (fun _ => ?_)
      refine WP.done ?_
      refine WP.no rfl rfl ?_
      refine WP.skip ?_
      refine WP.seq ?_
      refine WP.run [] [2, 6, 7, 8, 10] (fun _ => [(2, .int .i64 a2), (6, .int .u64 0), (7, .int .i64 0), (8, .string r2), (10, .int .u64 0)]) (fun _ => []) (fun _ => []) (fun _ => by kernel_rfl) (fun _ => ?_)
      refine WP.seq ?_
      refine WP.seq ?_
      refine WP.run [] [6, 7, 8, 10, 29, 30] (fun _ => [(6, .int .u64 0), (7, .int .i64 0), (8, .string r2), (10, .int .u64 0), (29, .int .i64 a2), (30, .int .i64 0)]) (fun _ => []) (fun _ => []) (fun _ => by kernel_rfl) (fun _ => ?_)
      refine WP.block ?_
      refine WP.sub [6, 7, 8, 10, 29, 30] (L' := [(6, .int .u64 0), (7, .int .i64 0), (8, .string r2), (10, .int .u64 0), (29, .int .i64 a2), (30, .int .i64 0)]) (by kernel_rfl) ?_
      refine WP.loop (σ := Int × Int) (fun n st => octets_Get.l1 a2 r2 n st.1 st.2) r (fun st => [(6, .int .u64 0), (7, .int .i64 0), (8, .string r2), (10, .int .u64 st.1), (29, .int .i64 a2), (30, .int .i64 st.2)]) (fun st => Sat w Z [] [] Glob) (st := (0, 0)) (fun n st hM => ?_) hM
      rcases n with _ | n
      · exact nomatch (show (none : Option _) = some r from hM)
      obtain ⟨x9, x10⟩ := st
      replace hM : octets_Get.l1 a2 r2 (n + 1) x9 x10 = some r := hM
      rw [octets_Get.l1] at hM
      show WP _ _ _ _ _ [(6, .int .u64 0), (7, .int .i64 0), (8, .string r2), (10, .int .u64 x9), (29, .int .i64 a2), (30, .int .i64 x10)] (Sat w Z [] [] Glob)
      refine WP.seq ?_
      refine WP.run [] [6, 7, 8, 10, 29, 30, 31] (fun _ => [(6, .int .u64 0), (7, .int .i64 0), (8, .string r2), (10, .int .u64 x9), (29, .int .i64 a2), (30, .int .i64 x10), (31, .bool (decide (x10 < a2)))]) (fun _ => []) (fun _ => []) (fun _ => by kernel_rfl) (fun _ => ?_)
      refine WP.seq ?_
      refine WP.cond (decide (x10 < a2)) rfl rfl (fun c11 => ?_) (fun c11 => ?_)
      · replace hM := cond_t hM c11
        refine WP.skip ?_
        refine WP.seq ?_
        refine WP.block ?_
        refine WP.seq ?_
        refine WP.run [] [6, 7, 8, 10, 11, 29, 30, 31, 32] (fun _ => [(6, .int .u64 0), (7, .int .i64 0), (8, .string r2), (10, .int .u64 x9), (11, .int .i64 x10), (29, .int .i64 a2), (30, .int .i64 x10), (31, .bool (decide (x10 < a2))), (32, .int .i64 x10)]) (fun _ => []) (fun _ => []) (fun _ => by kernel_rfl) (fun _ => ?_)
        refine WP.region ?_
        refine WL.run 4 [] [6, 7, 8, 10, 11, 29, 30, 31, 32, 33, 34, 35, 36] (fun _ => [(6, .int .u64 0), (7, .int .i64 0), (8, .string r2), (10, .int .u64 x9), (11, .int .i64 x10), (29, .int .i64 a2), (30, .int .i64 x10), (31, .bool (decide (x10 < a2))), (32, .int .i64 x10), (33, .int .u64 x9), (34, .int .u64 (u64 (x9 * 256))), (35, .string r2), (36, .int .i64 x10)]) (fun _ => []) (fun _ => []) (fun _ => by kernel_rfl) (fun _ => ?_)
        obtain ⟨t12, h13, hM⟩ := bind_some hM
        refine WL.val (fun _ => run_idxS (s := r2) (k := .i64) (i := x10) (by kernel_rfl) (by kernel_rfl) (by kernel_rfl) h13) (by kernel_rfl) (by kernel_rfl) rfl ?_
        refine WL.run 3 [] [6, 7, 8, 10, 11, 29, 30, 31, 32, 33, 34, 35, 36, 37, 38, 39] (fun _ => [(6, .int .u64 0), (7, .int .i64 0), (8, .string r2), (10, .int .u64 (bOr .u64 (u64 (x9 * 256)) (u64 t12))), (11, .int .i64 x10), (29, .int .i64 a2), (30, .int .i64 x10), (31, .bool (decide (x10 < a2))), (32, .int .i64 x10), (33, .int .u64 x9), (34, .int .u64 (u64 (x9 * 256))), (35, .string r2), (36, .int .i64 x10), (37, .int .u8 t12), (38, .int .u64 (u64 t12)), (39, .int .u64 (bOr .u64 (u64 (x9 * 256)) (u64 t12)))]) (fun _ => []) (fun _ => []) (fun _ => by kernel_rfl) (fun _ => ?_)
        refine WP.done ?_
        refine WP.leave ?_
        refine WP.run [] [6, 7, 8, 10, 11, 29, 30, 31, 32, 33, 34, 35, 36, 37, 38, 39, 40] (fun _ => [(6, .int .u64 0), (7, .int .i64 0), (8, .string r2), (10, .int .u64 (bOr .u64 (u64 (x9 * 256)) (u64 t12))), (11, .int .i64 x10), (29, .int .i64 a2), (30, .int .i64 (i64 (x10 + 1))), (31, .bool (decide (x10 < a2))), (32, .int .i64 x10), (33, .int .u64 x9), (34, .int .u64 (u64 (x9 * 256))), (35, .string r2), (36, .int .i64 x10), (37, .int .u8 t12), (38, .int .u64 (u64 t12)), (39, .int .u64 (bOr .u64 (u64 (x9 * 256)) (u64 t12))), (40, .int .i64 (i64 (x10 + 1)))]) (fun _ => []) (fun _ => []) (fun _ => by kernel_rfl) (fun _ => ?_)
        exact WP.again' [6, 7, 8, 10, 29, 30] (bOr .u64 (u64 (x9 * 256)) (u64 t12), i64 (x10 + 1)) hM (by kernel_rfl) (fun _ h => h.pick [] (by kernel_rfl))
      · replace hM := cond_f hM c11
        refine WP.exit rfl ?_
        refine WP.seq ?_
        refine WP.run [] [6, 7] (fun _ => [(6, .int .u64 x9), (7, .int .i64 0)]) (fun _ => []) (fun _ => []) (fun _ => by kernel_rfl) (fun _ => ?_)
        obtain rfl := Option.some.inj hM
        exact WP.ret [] [] (.tuple #[.int .u64 x9, .int .i64 0]) (by kernel_rfl) (fun w' hw => ⟨rfl, hw.pick [] rfl⟩)
    · dsimp only at hM
      refine WL.run 1 [] [2, 6, 7, 8, 9, 26] (fun _ => [(2, .int .i64 a2), (6, .int .u64 0), (7, .int .i64 0), (8, .string r2), (9, .iface 181 (.agg #[.int .i64 q5, .iface 30 (.int .i64 q6)])), (26, .bool true)]) (fun _ => []) (fun _ => []) (fun _ => by kernel_rfl) (fun _ => ?_)
      refine WP.done ?_
      refine WP.yes rfl rfl ?_
      refine WP.seq ?_
      refine WP.region ?_
      refine WL.run 1 [] [2, 6, 7, 8, 27] (fun _ => [(2, .int .i64 a2), (6, .int .u64 0), (7, .int .i64 0), (8, .string r2), (27, .iface 181 (.agg #[.int .i64 q5, .iface 30 (.int .i64 q6)]))]) (fun _ => []) (fun _ => []) (fun _ => by kernel_rfl) (fun _ => ?_)
      obtain ⟨r7, h8, hM⟩ := bind_some hM
      refine WL.callP [] [] (octets_number_calls q5 q6 _ h8) (fun _ h => h) (by kernel_rfl) (by kernel_rfl) rfl ?_
      refine WL.run 2 [] [2, 6, 7, 8] (fun _ => [(2, .int .i64 a2), (6, .int .u64 0), (7, .int .i64 r7), (8, .string r2)]) (fun _ => []) (fun _ => []) (fun _ => by kernel_rfl) (fun _ => ?_)
      refine WP.done ?_
      obtain rfl := Option.some.inj hM
      exact WP.ret [] [] (.tuple #[.int .u64 0, .int .i64 r7]) (by kernel_rfl) (fun w' hw => ⟨rfl, hw.pick [] rfl⟩)

end Go.Proofs.YtbodofjnfmjbpaaGreatDoor

namespace Go.Proofs.YtbodofjnfmjbpaaGreatDoor
open Go Eng
set_option linter.unusedVariables false
set_option linter.unusedSimpArgs false

/-! ### gangway/arp.Parse$1: function 86 -/
def arp_Parse_1.f (k : Nat) (a0 : Int) (a1 : ByteArray) (a2 : Int) : Option (Int × Int) :=
  (octets_Get.f k a1 a2 a0).bind fun (r1, r2) =>
  some (r1, i64 (a2 + a0))

set_option maxRecDepth 100000 in
theorem arp_Parse_1_calls (k : Nat) (b_0 : Nat) (b_1 : Nat) (a0 : Int) (a1 : ByteArray) (a2 : Int) (r : Int × Int) (h : arp_Parse_1.f k a0 a1 a2 = some r) : Does Tryz.prog 86 #[.int .i64 a0, .pointer (some ⟨b_0, 0, none⟩), .pointer (some ⟨b_1, 0, none⟩)] [(b_0, .cells #[.string a1] 9 (0, 0)), (b_1, .cells #[.int .i64 a2] 3 (0, 0))] Glob (fun _ : Unit => .int .u64 r.1) (fun _ => [(b_0, .cells #[.string a1] 9 (0, 0)), (b_1, .cells #[.int .i64 r.2] 3 (0, 0))]) (fun _ => []) (fun _ => Glob) := by
  intro w Z hS
  refine calls_of (args := [.int .i64 a0, .pointer (some ⟨b_0, 0, none⟩), .pointer (some ⟨b_1, 0, none⟩)]) (L := [(0, .int .i64 a0), (1, .pointer (some ⟨b_0, 0, none⟩)), (2, .pointer (some ⟨b_1, 0, none⟩))]) (N := 18) (S := Sat w Z [(b_0, .cells #[.string a1] 9 (0, 0)), (b_1, .cells #[.int .i64 a2] 3 (0, 0))] [] Glob) Tryz.func86 rfl rfl (Nat.le_of_ble_eq_true rfl) rfl hS ?_
  have hM := h
  clear h hS
  unfold arp_Parse_1.f at hM
  refine WP.seq ?_
  refine WP.run [] [0, 1, 2, 4] (fun _ => [(0, .int .i64 a0), (1, .pointer (some ⟨b_0, 0, none⟩)), (2, .pointer (some ⟨b_1, 0, none⟩)), (4, .int .u64 0)]) (fun _ => [(b_0, .cells #[.string a1] 9 (0, 0)), (b_1, .cells #[.int .i64 a2] 3 (0, 0))]) (fun _ => []) (fun _ => by kernel_rfl) (fun _ => ?_)
  refine WP.seq ?_
  refine WP.region ?_
  refine WL.run 3 [0, 1] [0, 2, 4, 8, 9, 10] (fun _ => [(0, .int .i64 a0), (2, .pointer (some ⟨b_1, 0, none⟩)), (4, .int .u64 0), (8, .string a1), (9, .int .i64 a2), (10, .int .i64 a0)]) (fun _ => [(b_0, .cells #[.string a1] 9 (0, 0)), (b_1, .cells #[.int .i64 a2] 3 (0, 0))]) (fun _ => [b_1, b_0]) (fun _ => by kernel_rfl) (fun _ => ?_)
  obtain ⟨⟨r1, r2⟩, h3, hM⟩ := bind_some hM
  dsimp only at hM
  refine WL.callP [] [] (octets_Get_calls k a1 a2 a0 _ h3) (fun _ h => h) (by kernel_rfl) (by kernel_rfl) rfl ?_
  refine WL.run 5 [] [0, 2, 4, 5] (fun _ => [(0, .int .i64 a0), (2, .pointer (some ⟨b_1, 0, none⟩)), (4, .int .u64 0), (5, .int .u64 r1)]) (fun _ => [(b_0, .cells #[.string a1] 9 (0, 0)), (b_1, .cells #[.int .i64 a2] 3 (0, 0))]) (fun _ => []) (fun _ => by kernel_rfl) (fun _ => ?_)
  refine WP.done ?_
  refine WP.seq ?_
  refine WP.run [1, 1] [4, 5] (fun _ => [(4, .int .u64 0), (5, .int .u64 r1)]) (fun _ => [(b_0, .cells #[.string a1] 9 (0, 0)), (b_1, .cells #[.int .i64 (i64 (a2 + a0))] 3 (0, 0))]) (fun _ => [b_1, b_1]) (fun _ => by kernel_rfl) (fun _ => ?_)
  refine WP.seq ?_
  refine WP.run [] [4] (fun _ => [(4, .int .u64 r1)]) (fun _ => [(b_0, .cells #[.string a1] 9 (0, 0)), (b_1, .cells #[.int .i64 (i64 (a2 + a0))] 3 (0, 0))]) (fun _ => []) (fun _ => by kernel_rfl) (fun _ => ?_)
  obtain rfl := Option.some.inj hM
  exact WP.ret [] [] (.int .u64 r1) (by kernel_rfl) (fun w' hw => ⟨(), rfl, hw.pick [0, 1] (by kernel_rfl)⟩)

end Go.Proofs.YtbodofjnfmjbpaaGreatDoor

namespace Go.Proofs.YtbodofjnfmjbpaaGreatDoor
open Go Eng
set_option linter.unusedVariables false
set_option linter.unusedSimpArgs false

/-! ### internal/stringslite.HasPrefix: function 110 -/
def stringslite_HasPrefix.k1 (x4 : Bool) : Option (Bool) :=
  some x4

def stringslite_HasPrefix.f (a0 : ByteArray) (a1 : ByteArray) : Option (Bool) :=
  bif decide ((a0.size : Int) ≥ (a1.size : Int)) then
    (sliceS a0 0 (a1.size : Int)).bind fun t2 =>
    stringslite_HasPrefix.k1 (t2.toList == a1.toList)
  else
    stringslite_HasPrefix.k1 false

set_option maxRecDepth 100000 in
theorem stringslite_HasPrefix_calls (a0 : ByteArray) (a1 : ByteArray) (r : Bool) (h : stringslite_HasPrefix.f a0 a1 = some r) : Pure Tryz.prog Glob 110 #[.string a0, .string a1] (.bool r) := by
  intro w Z hS
  refine calls_of (args := [.string a0, .string a1]) (L := [(0, .string a0), (1, .string a1)]) (N := 18) (S := Sat w Z [] [] Glob) Tryz.func110 rfl rfl (Nat.le_of_ble_eq_true rfl) rfl hS ?_
  have hM := h
  clear h hS
  unfold stringslite_HasPrefix.f at hM
  refine WP.seq ?_
  refine WP.run [] [0, 1, 4] (fun _ => [(0, .string a0), (1, .string a1), (4, .bool false)]) (fun _ => []) (fun _ => []) (fun _ => by kernel_rfl) (fun _ => ?_)
  refine WP.seq ?_
  refine WP.region ?_
  refine WL.run 6 [] [0, 1, 4, 10] (fun _ => [(0, .string a0), (1, .string a1), (4, .bool false), (10, .bool (decide ((a0.size : Int) ≥ (a1.size : Int))))]) (fun _ => []) (fun _ => []) (fun _ => by kernel_rfl) (fun _ => ?_)
  refine WL.sub [0, 1, 4, 10] (L' := [(0, .string a0), (1, .string a1), (4, .bool false), (10, .bool (decide ((a0.size : Int) ≥ (a1.size : Int))))]) (by kernel_rfl) ?_
  refine WL.join (σ := Bool) 7 (fun st => stringslite_HasPrefix.k1 st = some r) (fun st => [(4, .bool false), (17, .bool st)]) (fun st => Sat w Z [] [] Glob) (fun st hM => ?_) (fun K1 => ?_)
  ·
    obtain ⟨x4, rfl⟩ : ∃ y, y = st := ⟨st, rfl⟩
    replace hM : stringslite_HasPrefix.k1 x4 = some r := hM
    unfold stringslite_HasPrefix.k1 at hM
    show WL _ _ _ _ _ [(4, .bool false), (17, .bool x4)] (Sat w Z [] [] Glob)
    refine WL.run 1 [] [4] (fun _ => [(4, .bool x4)]) (fun _ => []) (fun _ => []) (fun _ => by kernel_rfl) (fun _ => ?_)
    refine WP.done ?_
    obtain rfl := Option.some.inj hM
    exact WP.ret [] [] (.bool x4) (by kernel_rfl) (fun w' hw => ⟨rfl, hw.pick [] rfl⟩)
  ·
    refine WL.split (fun b' => [(0, .string a0), (1, .string a1), (4, .bool false), (10, .bool b')]) (decide ((a0.size : Int) ≥ (a1.size : Int))) (fun c1 => ?_) (fun c1 => ?_)
    · replace hM := cond_t hM c1
      refine WL.run 3 [] [1, 4, 10, 11, 13] (fun _ => [(1, .string a1), (4, .bool false), (10, .bool true), (11, .string a0), (13, .int .i64 (a1.size : Int))]) (fun _ => []) (fun _ => []) (fun _ => by kernel_rfl) (fun _ => ?_)
      obtain ⟨t2, h3, hM⟩ := bind_some hM
      refine WL.val (fun _ => run_sliceS_hi (s := a0) (kh := .i64) (h := (a1.size : Int)) (by kernel_rfl) (by kernel_rfl) (by kernel_rfl) h3) (by kernel_rfl) (by kernel_rfl) rfl ?_
      refine WL.run 3 [] [4, 17] (fun _ => [(4, .bool false), (17, .bool (t2.toList == a1.toList))]) (fun _ => []) (fun _ => []) (fun _ => by kernel_rfl) (fun _ => ?_)
      exact WL.sub [4, 17] (by kernel_rfl) (WL.pick [] (by kernel_rfl) (by kernel_rfl) (K1 (t2.toList == a1.toList) hM))
    · replace hM := cond_f hM c1
      refine WL.run 7 [] [4, 17] (fun _ => [(4, .bool false), (17, .bool false)]) (fun _ => []) (fun _ => []) (fun _ => by kernel_rfl) (fun _ => ?_)
      exact WL.sub [4, 17] (by kernel_rfl) (WL.pick [] (by kernel_rfl) (by kernel_rfl) (K1 false hM))

end Go.Proofs.YtbodofjnfmjbpaaGreatDoor

namespace Go.Proofs.YtbodofjnfmjbpaaGreatDoor
open Go Eng
set_option linter.unusedVariables false
set_option linter.unusedSimpArgs false

/-! ### strings.HasPrefix: function 87 -/
def strings_HasPrefix.f (a0 : ByteArray) (a1 : ByteArray) : Option (Bool) :=
  (stringslite_HasPrefix.f a0 a1).bind fun r1 =>
  some r1

set_option maxRecDepth 100000 in
theorem strings_HasPrefix_calls (a0 : ByteArray) (a1 : ByteArray) (r : Bool) (h : strings_HasPrefix.f a0 a1 = some r) : Pure Tryz.prog Glob 87 #[.string a0, .string a1] (.bool r) := by
  intro w Z hS
  refine calls_of (args := [.string a0, .string a1]) (L := [(0, .string a0), (1, .string a1)]) (N := 8) (S := Sat w Z [] [] Glob) Tryz.func87 rfl rfl (Nat.le_of_ble_eq_true rfl) rfl hS ?_
  have hM := h
  clear h hS
  unfold strings_HasPrefix.f at hM
  refine WP.seq ?_
  refine WP.run [] [0, 1, 4] (fun _ => [(0, .string a0), (1, .string a1), (4, .bool false)]) (fun _ => []) (fun _ => []) (fun _ => by kernel_rfl) (fun _ => ?_)
  refine WP.seq ?_
  refine WP.region ?_
  refine WL.run 2 [] [4, 5, 6] (fun _ => [(4, .bool false), (5, .string a0), (6, .string a1)]) (fun _ => []) (fun _ => []) (fun _ => by kernel_rfl) (fun _ => ?_)
  obtain ⟨r1, h2, hM⟩ := bind_some hM
  refine WL.callP [] [] (stringslite_HasPrefix_calls a0 a1 _ h2) (fun _ h => h) (by kernel_rfl) (by kernel_rfl) rfl ?_
  refine WL.run 1 [] [4] (fun _ => [(4, .bool r1)]) (fun _ => []) (fun _ => []) (fun _ => by kernel_rfl) (fun _ => ?_)
  refine WP.done ?_
  obtain rfl := Option.some.inj hM
  exact WP.ret [] [] (.bool r1) (by kernel_rfl) (fun w' hw => ⟨rfl, hw.pick [] rfl⟩)

end Go.Proofs.YtbodofjnfmjbpaaGreatDoor

namespace Go.Proofs.YtbodofjnfmjbpaaGreatDoor
open Go Eng
set_option linter.unusedVariables false
set_option linter.unusedSimpArgs false

/-! ### gangway/arp.Check: function 88 -/
def arp_Check.k1 (a0 : api_Arp) (x5 : Bool) : Option (Int) :=
  bif (x5 || (decide (a0.TMac ≥ 281474976710656))) then
    some 51
  else
    some 0

def arp_Check.f (a0 : api_Arp) : Option (Int) :=
  bif ((a0.Op != 1) && (a0.Op != 2)) then
    arp_Check.k1 a0 true
  else
    (addrs_Own.f a0.SMac).bind fun r3 =>
    arp_Check.k1 a0 (!r3)

set_option maxRecDepth 100000 in
theorem arp_Check_calls (a0 : api_Arp) (r : Int) (h : arp_Check.f a0 = some r) : Pure Tryz.prog Glob 88 #[.agg #[.int .i64 a0.Op, .int .u64 a0.SMac, .int .u32 a0.SIp, .int .u64 a0.TMac, .int .u32 a0.TIp]] (.int .i64 r) := by
  intro w Z hS
  refine calls_of (args := [.agg #[.int .i64 a0.Op, .int .u64 a0.SMac, .int .u32 a0.SIp, .int .u64 a0.TMac, .int .u32 a0.TIp]]) (L := [(0, .agg #[.int .i64 a0.Op, .int .u64 a0.SMac, .int .u32 a0.SIp, .int .u64 a0.TMac, .int .u32 a0.TIp])]) (N := 22) (S := Sat w Z [] [] Glob) Tryz.func88 rfl rfl (Nat.le_of_ble_eq_true rfl) rfl hS ?_
  have hM := h
  clear h hS
  unfold arp_Check.f at hM
  refine WP.seq ?_
  refine WP.run [] [1, 2] (fun b1 => [(1, .pointer (some ⟨b1, 0, none⟩)), (2, .int .i64 0)]) (fun b1 => [(b1, .cells #[.int .i64 a0.Op, .int .u64 a0.SMac, .int .u32 a0.SIp, .int .u64 a0.TMac, .int .u32 a0.TIp] 49 (0, 0))]) (fun b1 => []) (fun b1 => by kernel_rfl) (fun b1 => ?_)
  refine WP.seq ?_
  refine WP.seq ?_
  refine WP.region ?_
  refine WL.run 4 [0] [1, 2, 6] (fun _ => [(1, .pointer (some ⟨b1, 0, none⟩)), (2, .int .i64 0), (6, .bool (a0.Op != 1))]) (fun _ => [(b1, .cells #[.int .i64 a0.Op, .int .u64 a0.SMac, .int .u32 a0.SIp, .int .u64 a0.TMac, .int .u32 a0.TIp] 49 (0, 0))]) (fun _ => [b1]) (fun _ => by kernel_rfl) (fun _ => ?_)
  refine WL.sub [1, 2, 6] (L' := [(1, .pointer (some ⟨b1, 0, none⟩)), (2, .int .i64 0), (6, .bool (a0.Op != 1))]) (by kernel_rfl) ?_
  refine WL.both (fun b' => [(1, .pointer (some ⟨b1, 0, none⟩)), (2, .int .i64 0), (6, .bool b')]) (a0.Op != 1) 4 [0] [] [1, 2, 10] (fun b' => [(1, .pointer (some ⟨b1, 0, none⟩)), (2, .int .i64 0), (10, .bool (b' && (a0.Op != 2)))]) [b1] [] (fun _ => by kernel_rfl) (fun _ => by kernel_rfl) ?_
  refine WL.run 1 [] [1, 2, 11] (fun _ => [(1, .pointer (some ⟨b1, 0, none⟩)), (2, .int .i64 0), (11, .bool ((a0.Op != 1) && (a0.Op != 2)))]) (fun _ => [(b1, .cells #[.int .i64 a0.Op, .int .u64 a0.SMac, .int .u32 a0.SIp, .int .u64 a0.TMac, .int .u32 a0.TIp] 49 (0, 0))]) (fun _ => []) (fun _ => by kernel_rfl) (fun _ => ?_)
  refine WL.sub [1, 2, 11] (L' := [(1, .pointer (some ⟨b1, 0, none⟩)), (2, .int .i64 0), (11, .bool ((a0.Op != 1) && (a0.Op != 2)))]) (by kernel_rfl) ?_
  refine WL.join (σ := Bool) 5 (fun st => arp_Check.k1 a0 st = some r) (fun st => [(1, .pointer (some ⟨b1, 0, none⟩)), (2, .int .i64 0), (16, .bool st)]) (fun st => Sat w Z [(b1, .cells #[.int .i64 a0.Op, .int .u64 a0.SMac, .int .u32 a0.SIp, .int .u64 a0.TMac, .int .u32 a0.TIp] 49 (0, 0))] [] Glob) (fun st hM => ?_) (fun K1 => ?_)
  ·
    obtain ⟨x5, rfl⟩ : ∃ y, y = st := ⟨st, rfl⟩
    replace hM : arp_Check.k1 a0 x5 = some r := hM
    unfold arp_Check.k1 at hM
    show WL _ _ _ _ _ [(1, .pointer (some ⟨b1, 0, none⟩)), (2, .int .i64 0), (16, .bool x5)] (Sat w Z [(b1, .cells #[.int .i64 a0.Op, .int .u64 a0.SMac, .int .u32 a0.SIp, .int .u64 a0.TMac, .int .u32 a0.TIp] 49 (0, 0))] [] Glob)
    refine WL.run 1 [] [1, 2, 17] (fun _ => [(1, .pointer (some ⟨b1, 0, none⟩)), (2, .int .i64 0), (17, .bool x5)]) (fun _ => [(b1, .cells #[.int .i64 a0.Op, .int .u64 a0.SMac, .int .u32 a0.SIp, .int .u64 a0.TMac, .int .u32 a0.TIp] 49 (0, 0))]) (fun _ => []) (fun _ => by kernel_rfl) (fun _ => ?_)
    refine WL.sub [1, 2, 17] (L' := [(1, .pointer (some ⟨b1, 0, none⟩)), (2, .int .i64 0), (17, .bool x5)]) (by kernel_rfl) ?_
    refine WL.both (fun b' => [(1, .pointer (some ⟨b1, 0, none⟩)), (2, .int .i64 0), (17, .bool b')]) x5 4 [] [0] [2, 21] (fun b' => [(2, .int .i64 0), (21, .bool (b' || (decide (a0.TMac ≥ 281474976710656))))]) [] [b1] (fun _ => by kernel_rfl) (fun _ => by kernel_rfl) ?_
    refine WP.done ?_
    refine WP.keep [false] (by kernel_rfl : _ = []) ?_
    refine WP.cond (x5 || (decide (a0.TMac ≥ 281474976710656))) rfl rfl (fun c6 => ?_) (fun c6 => ?_)
    · replace hM := cond_t hM c6
      refine WP.seq ?_
      refine WP.run [] [2] (fun _ => [(2, .int .i64 51)]) (fun _ => []) (fun _ => []) (fun _ => by kernel_rfl) (fun _ => ?_)
      obtain rfl := Option.some.inj hM
      exact WP.ret [] [] (.int .i64 51) (by kernel_rfl) (fun w' hw => ⟨rfl, hw.pick [] rfl⟩)
    · replace hM := cond_f hM c6
      refine WP.skip ?_
      refine WP.seq ?_
      refine WP.run [] [2] (fun _ => [(2, .int .i64 0)]) (fun _ => []) (fun _ => []) (fun _ => by kernel_rfl) (fun _ => ?_)
      obtain rfl := Option.some.inj hM
      exact WP.ret [] [] (.int .i64 0) (by kernel_rfl) (fun w' hw => ⟨rfl, hw.pick [] rfl⟩)
  ·
    refine WL.split (fun b' => [(1, .pointer (some ⟨b1, 0, none⟩)), (2, .int .i64 0), (11, .bool b')]) ((a0.Op != 1) && (a0.Op != 2)) (fun c2 => ?_) (fun c2 => ?_)
    · replace hM := cond_t hM c2
      refine WL.run 5 [] [1, 2, 16] (fun _ => [(1, .pointer (some ⟨b1, 0, none⟩)), (2, .int .i64 0), (16, .bool true)]) (fun _ => [(b1, .cells #[.int .i64 a0.Op, .int .u64 a0.SMac, .int .u32 a0.SIp, .int .u64 a0.TMac, .int .u32 a0.TIp] 49 (0, 0))]) (fun _ => []) (fun _ => by kernel_rfl) (fun _ => ?_)
      exact WL.sub [1, 2, 16] (by kernel_rfl) (WL.pick [0] (by kernel_rfl) (by kernel_rfl) (K1 true hM))
    · replace hM := cond_f hM c2
      refine WL.run 2 [0] [1, 2, 11, 13] (fun _ => [(1, .pointer (some ⟨b1, 0, none⟩)), (2, .int .i64 0), (11, .bool false), (13, .int .u64 a0.SMac)]) (fun _ => [(b1, .cells #[.int .i64 a0.Op, .int .u64 a0.SMac, .int .u32 a0.SIp, .int .u64 a0.TMac, .int .u32 a0.TIp] 49 (0, 0))]) (fun _ => [b1]) (fun _ => by kernel_rfl) (fun _ => ?_)
      obtain ⟨r3, h4, hM⟩ := bind_some hM
      refine WL.callP [] [] (addrs_Own_calls a0.SMac _ h4) (fun _ h => h) (by kernel_rfl) (by kernel_rfl) rfl ?_
      refine WL.run 2 [] [1, 2, 16] (fun _ => [(1, .pointer (some ⟨b1, 0, none⟩)), (2, .int .i64 0), (16, .bool (!r3))]) (fun _ => [(b1, .cells #[.int .i64 a0.Op, .int .u64 a0.SMac, .int .u32 a0.SIp, .int .u64 a0.TMac, .int .u32 a0.TIp] 49 (0, 0))]) (fun _ => []) (fun _ => by kernel_rfl) (fun _ => ?_)
      exact WL.sub [1, 2, 16] (by kernel_rfl) (WL.pick [0] (by kernel_rfl) (by kernel_rfl) (K1 (!r3) hM))

end Go.Proofs.YtbodofjnfmjbpaaGreatDoor

namespace Go.Proofs.YtbodofjnfmjbpaaGreatDoor
open Go Eng
set_option linter.unusedVariables false
set_option linter.unusedSimpArgs false

/-! ### gangway/arp.Parse: function 56 -/
def arp_Parse.k1 (r4 : Int) (r7 : Int) (r10 : Int) (r13 : Int) (r16 : Int) (x25 : Bool) : Option (api_Arp × Int) :=
  bif x25 then
    some ((api_Arp.mk 0 0 0 0 0), 51)
  else
    some ((api_Arp.mk (i64 r4) r7 (u32 r10) r13 (u32 r16)), 0)

def arp_Parse.f (k : Nat) (a0 : ByteArray) : Option (api_Arp × Int) :=
  bif decide ((a0.size : Int) < 28) then
    some ((api_Arp.mk 0 0 0 0 0), 50)
  else
    (arp_Parse_1.f k 2 a0 6).bind fun (r4, r5) =>
    (arp_Parse_1.f k 6 a0 r5).bind fun (r7, r8) =>
    (arp_Parse_1.f k 4 a0 r8).bind fun (r10, r11) =>
    (arp_Parse_1.f k 6 a0 r11).bind fun (r13, r14) =>
    (arp_Parse_1.f k 4 a0 r14).bind fun (r16, r17) =>
    (strings_HasPrefix.f a0 (⟨#[0, 1, 8, 0, 6, 4]⟩ : ByteArray)).bind fun r20 =>
    bif !r20 then
      arp_Parse.k1 r4 r7 r10 r13 r16 true
    else
      (arp_Check.f (api_Arp.mk (i64 r4) r7 (u32 r10) r13 (u32 r16))).bind fun r23 =>
      arp_Parse.k1 r4 r7 r10 r13 r16 (r23 != 0)

set_option maxRecDepth 100000 in
theorem arp_Parse_calls (k : Nat) (a0 : ByteArray) (r : api_Arp × Int) (h : arp_Parse.f k a0 = some r) : Pure Tryz.prog Glob 56 #[.string a0] (.tuple #[.agg #[.int .i64 r.1.Op, .int .u64 r.1.SMac, .int .u32 r.1.SIp, .int .u64 r.1.TMac, .int .u32 r.1.TIp], .int .i64 r.2]) := by
  intro w Z hS
  refine calls_of (args := [.string a0]) (L := [(0, .string a0)]) (N := 36) (S := Sat w Z [] [] Glob) Tryz.func56 rfl rfl (Nat.le_of_ble_eq_true rfl) rfl hS ?_
  have hM := h
  clear h hS
  unfold arp_Parse.f at hM
  refine WP.seq ?_
  refine WP.run [] [1, 2, 3] (fun b1 => [(1, .pointer (some ⟨b1, 0, none⟩)), (2, .pointer (some ⟨(b1 + 1), 0, none⟩)), (3, .int .i64 0)]) (fun b1 => [(b1, .cells #[.string a0] 9 (0, 0)), ((b1 + 1), .cells #[.int .i64 0, .int .u64 0, .int .u32 0, .int .u64 0, .int .u32 0] 49 (0, 0))]) (fun b1 => []) (fun b1 => by kernel_rfl) (fun b1 => ?_)
  refine WP.seq ?_
  refine WP.seq ?_
  refine WP.run [0] [1, 2, 3, 9] (fun _ => [(1, .pointer (some ⟨b1, 0, none⟩)), (2, .pointer (some ⟨(b1 + 1), 0, none⟩)), (3, .int .i64 0), (9, .bool (decide ((a0.size : Int) < 28)))]) (fun _ => [(b1, .cells #[.string a0] 9 (0, 0)), ((b1 + 1), .cells #[.int .i64 0, .int .u64 0, .int .u32 0, .int .u64 0, .int .u32 0] 49 (0, 0))]) (fun _ => [b1]) (fun _ => by kernel_rfl) (fun _ => ?_)
  refine WP.cond (decide ((a0.size : Int) < 28)) rfl rfl (fun c2 => ?_) (fun c2 => ?_)
  · replace hM := cond_t hM c2
    refine WP.seq ?_
    refine WP.run [1, 1, 1, 1, 1] [1, 2, 3] (fun _ => [(1, .pointer (some ⟨b1, 0, none⟩)), (2, .pointer (some ⟨(b1 + 1), 0, none⟩)), (3, .int .i64 50)]) (fun _ => [(b1, .cells #[.string a0] 9 (0, 0)), ((b1 + 1), .cells #[.int .i64 0, .int .u64 0, .int .u32 0, .int .u64 0, .int .u32 0] 49 (0, 0))]) (fun _ => [(b1 + 1), (b1 + 1), (b1 + 1), (b1 + 1), (b1 + 1)]) (fun _ => by kernel_rfl) (fun _ => ?_)
    obtain rfl := Option.some.inj hM
    exact WP.ret [1, 1, 1, 1, 1] [(b1 + 1), (b1 + 1), (b1 + 1), (b1 + 1), (b1 + 1)] (.tuple #[.agg #[.int .i64 0, .int .u64 0, .int .u32 0, .int .u64 0, .int .u32 0], .int .i64 50]) (by kernel_rfl) (fun w' hw => ⟨rfl, hw.pick [] rfl⟩)
  · replace hM := cond_f hM c2
    refine WP.skip ?_
    refine WP.seq ?_
    refine WP.run [2] [1, 2, 3, 4] (fun b3 => [(1, .pointer (some ⟨b1, 0, none⟩)), (2, .pointer (some ⟨(b1 + 1), 0, none⟩)), (3, .int .i64 0), (4, .pointer (some ⟨b3, 0, none⟩))]) (fun b3 => [(b1, .cells #[.string a0] 9 (0, 0)), ((b1 + 1), .cells #[.int .i64 0, .int .u64 0, .int .u32 0, .int .u64 0, .int .u32 0] 49 (0, 0)), (b3, .cells #[.int .i64 6] 3 (0, 0))]) (fun b3 => [b3]) (fun b3 => by kernel_rfl) (fun b3 => ?_)
    refine WP.seq ?_
    refine WP.run [] [1, 2, 3, 5] (fun _ => [(1, .pointer (some ⟨b1, 0, none⟩)), (2, .pointer (some ⟨(b1 + 1), 0, none⟩)), (3, .int .i64 0), (5, .func (.func 86) #[] #[.pointer (some ⟨b1, 0, none⟩), .pointer (some ⟨b3, 0, none⟩)])]) (fun _ => [(b1, .cells #[.string a0] 9 (0, 0)), ((b1 + 1), .cells #[.int .i64 0, .int .u64 0, .int .u32 0, .int .u64 0, .int .u32 0] 49 (0, 0)), (b3, .cells #[.int .i64 6] 3 (0, 0))]) (fun _ => []) (fun _ => by kernel_rfl) (fun _ => ?_)
    refine WP.seq ?_
    refine WP.region ?_
    refine WL.run 1 [] [1, 2, 3, 5, 12] (fun _ => [(1, .pointer (some ⟨b1, 0, none⟩)), (2, .pointer (some ⟨(b1 + 1), 0, none⟩)), (3, .int .i64 0), (5, .func (.func 86) #[] #[.pointer (some ⟨b1, 0, none⟩), .pointer (some ⟨b3, 0, none⟩)]), (12, .func (.func 86) #[] #[.pointer (some ⟨b1, 0, none⟩), .pointer (some ⟨b3, 0, none⟩)])]) (fun _ => [(b1, .cells #[.string a0] 9 (0, 0)), ((b1 + 1), .cells #[.int .i64 0, .int .u64 0, .int .u32 0, .int .u64 0, .int .u32 0] 49 (0, 0)), (b3, .cells #[.int .i64 6] 3 (0, 0))]) (fun _ => []) (fun _ => by kernel_rfl) (fun _ => ?_)
    obtain ⟨⟨r4, r5⟩, h6, hM⟩ := bind_some hM
    dsimp only at hM
    refine WL.callE (X := Unit) [] [] [true, false, true] (fun _ => _) (arp_Parse_1_calls k b1 b3 2 a0 6 _ h6) rfl rfl (fun _ h => h) (by kernel_rfl) (by kernel_rfl) (fun _ => rfl) (fun _ => ?_)
    refine WL.run 2 [] [1, 2, 3, 5, 14, 15] (fun _ => [(1, .pointer (some ⟨b1, 0, none⟩)), (2, .pointer (some ⟨(b1 + 1), 0, none⟩)), (3, .int .i64 0), (5, .func (.func 86) #[] #[.pointer (some ⟨b1, 0, none⟩), .pointer (some ⟨b3, 0, none⟩)]), (14, .int .i64 (i64 r4)), (15, .func (.func 86) #[] #[.pointer (some ⟨b1, 0, none⟩), .pointer (some ⟨b3, 0, none⟩)])]) (fun _ => [(b1, .cells #[.string a0] 9 (0, 0)), (b3, .cells #[.int .i64 r5] 3 (0, 0)), ((b1 + 1), .cells #[.int .i64 0, .int .u64 0, .int .u32 0, .int .u64 0, .int .u32 0] 49 (0, 0))]) (fun _ => []) (fun _ => by kernel_rfl) (fun _ => ?_)
    obtain ⟨⟨r7, r8⟩, h9, hM⟩ := bind_some hM
    dsimp only at hM
    refine WL.callE (X := Unit) [] [] [true, true, false] (fun _ => _) (arp_Parse_1_calls k b1 b3 6 a0 r5 _ h9) rfl rfl (fun _ h => h) (by kernel_rfl) (by kernel_rfl) (fun _ => rfl) (fun _ => ?_)
    refine WL.run 1 [] [1, 2, 3, 5, 14, 16, 17] (fun _ => [(1, .pointer (some ⟨b1, 0, none⟩)), (2, .pointer (some ⟨(b1 + 1), 0, none⟩)), (3, .int .i64 0), (5, .func (.func 86) #[] #[.pointer (some ⟨b1, 0, none⟩), .pointer (some ⟨b3, 0, none⟩)]), (14, .int .i64 (i64 r4)), (16, .int .u64 r7), (17, .func (.func 86) #[] #[.pointer (some ⟨b1, 0, none⟩), .pointer (some ⟨b3, 0, none⟩)])]) (fun _ => [(b1, .cells #[.string a0] 9 (0, 0)), (b3, .cells #[.int .i64 r8] 3 (0, 0)), ((b1 + 1), .cells #[.int .i64 0, .int .u64 0, .int .u32 0, .int .u64 0, .int .u32 0] 49 (0, 0))]) (fun _ => []) (fun _ => by kernel_rfl) (fun _ => ?_)
    obtain ⟨⟨r10, r11⟩, h12, hM⟩ := bind_some hM
    dsimp only at hM
    refine WL.callE (X := Unit) [] [] [true, true, false] (fun _ => _) (arp_Parse_1_calls k b1 b3 4 a0 r8 _ h12) rfl rfl (fun _ h => h) (by kernel_rfl) (by kernel_rfl) (fun _ => rfl) (fun _ => ?_)
    refine WL.run 2 [] [1, 2, 3, 5, 14, 16, 19, 20] (fun _ => [(1, .pointer (some ⟨b1, 0, none⟩)), (2, .pointer (some ⟨(b1 + 1), 0, none⟩)), (3, .int .i64 0), (5, .func (.func 86) #[] #[.pointer (some ⟨b1, 0, none⟩), .pointer (some ⟨b3, 0, none⟩)]), (14, .int .i64 (i64 r4)), (16, .int .u64 r7), (19, .int .u32 (u32 r10)), (20, .func (.func 86) #[] #[.pointer (some ⟨b1, 0, none⟩), .pointer (some ⟨b3, 0, none⟩)])]) (fun _ => [(b1, .cells #[.string a0] 9 (0, 0)), (b3, .cells #[.int .i64 r11] 3 (0, 0)), ((b1 + 1), .cells #[.int .i64 0, .int .u64 0, .int .u32 0, .int .u64 0, .int .u32 0] 49 (0, 0))]) (fun _ => []) (fun _ => by kernel_rfl) (fun _ => ?_)
    obtain ⟨⟨r13, r14⟩, h15, hM⟩ := bind_some hM
    dsimp only at hM
    refine WL.callE (X := Unit) [] [] [true, true, false] (fun _ => _) (arp_Parse_1_calls k b1 b3 6 a0 r11 _ h15) rfl rfl (fun _ h => h) (by kernel_rfl) (by kernel_rfl) (fun _ => rfl) (fun _ => ?_)
    refine WL.run 1 [] [1, 2, 3, 14, 16, 19, 21, 22] (fun _ => [(1, .pointer (some ⟨b1, 0, none⟩)), (2, .pointer (some ⟨(b1 + 1), 0, none⟩)), (3, .int .i64 0), (14, .int .i64 (i64 r4)), (16, .int .u64 r7), (19, .int .u32 (u32 r10)), (21, .int .u64 r13), (22, .func (.func 86) #[] #[.pointer (some ⟨b1, 0, none⟩), .pointer (some ⟨b3, 0, none⟩)])]) (fun _ => [(b1, .cells #[.string a0] 9 (0, 0)), (b3, .cells #[.int .i64 r14] 3 (0, 0)), ((b1 + 1), .cells #[.int .i64 0, .int .u64 0, .int .u32 0, .int .u64 0, .int .u32 0] 49 (0, 0))]) (fun _ => []) (fun _ => by kernel_rfl) (fun _ => ?_)
    obtain ⟨⟨r16, r17⟩, h18, hM⟩ := bind_some hM
    dsimp only at hM
    refine WL.callE (X := Unit) [] [] [true, true, false] (fun _ => _) (arp_Parse_1_calls k b1 b3 4 a0 r14 _ h18) rfl rfl (fun _ h => h) (by kernel_rfl) (by kernel_rfl) (fun _ => rfl) (fun _ => ?_)
    refine WL.run 4 [3, 3, 3, 3, 3] [1, 2, 3, 6] (fun b19 => [(1, .pointer (some ⟨b1, 0, none⟩)), (2, .pointer (some ⟨(b1 + 1), 0, none⟩)), (3, .int .i64 0), (6, .pointer (some ⟨b19, 0, none⟩))]) (fun b19 => [(b1, .cells #[.string a0] 9 (0, 0)), (b3, .cells #[.int .i64 r17] 3 (0, 0)), ((b1 + 1), .cells #[.int .i64 0, .int .u64 0, .int .u32 0, .int .u64 0, .int .u32 0] 49 (0, 0)), (b19, .cells #[.int .i64 (i64 r4), .int .u64 r7, .int .u32 (u32 r10), .int .u64 r13, .int .u32 (u32 r16)] 49 (0, 0))]) (fun b19 => [b19, b19, b19, b19, b19]) (fun b19 => by kernel_rfl) (fun b19 => ?_)
    refine WP.done ?_
    refine WP.keep [true, false, true, true] (by kernel_rfl : _ = [(b1, .cells #[.string a0] 9 (0, 0)), ((b1 + 1), .cells #[.int .i64 0, .int .u64 0, .int .u32 0, .int .u64 0, .int .u32 0] 49 (0, 0)), (b19, .cells #[.int .i64 (i64 r4), .int .u64 r7, .int .u32 (u32 r10), .int .u64 r13, .int .u32 (u32 r16)] 49 (0, 0))]) ?_
    refine WP.seq ?_
    refine WP.seq ?_
    refine WP.region ?_
    refine WL.run 1 [0] [2, 3, 6, 26] (fun _ => [(2, .pointer (some ⟨(b1 + 1), 0, none⟩)), (3, .int .i64 0), (6, .pointer (some ⟨b19, 0, none⟩)), (26, .string a0)]) (fun _ => [(b1, .cells #[.string a0] 9 (0, 0)), ((b1 + 1), .cells #[.int .i64 0, .int .u64 0, .int .u32 0, .int .u64 0, .int .u32 0] 49 (0, 0)), (b19, .cells #[.int .i64 (i64 r4), .int .u64 r7, .int .u32 (u32 r10), .int .u64 r13, .int .u32 (u32 r16)] 49 (0, 0))]) (fun _ => [b1]) (fun _ => by kernel_rfl) (fun _ => ?_)
    obtain ⟨r20, h21, hM⟩ := bind_some hM
    refine WL.callP [] [] (strings_HasPrefix_calls a0 (⟨#[0, 1, 8, 0, 6, 4]⟩ : ByteArray) _ h21) (fun _ h => h) (by kernel_rfl) (by kernel_rfl) rfl ?_
    refine WL.run 2 [] [2, 3, 6, 29] (fun _ => [(2, .pointer (some ⟨(b1 + 1), 0, none⟩)), (3, .int .i64 0), (6, .pointer (some ⟨b19, 0, none⟩)), (29, .bool (!r20))]) (fun _ => [(b1, .cells #[.string a0] 9 (0, 0)), ((b1 + 1), .cells #[.int .i64 0, .int .u64 0, .int .u32 0, .int .u64 0, .int .u32 0] 49 (0, 0)), (b19, .cells #[.int .i64 (i64 r4), .int .u64 r7, .int .u32 (u32 r10), .int .u64 r13, .int .u32 (u32 r16)] 49 (0, 0))]) (fun _ => []) (fun _ => by kernel_rfl) (fun _ => ?_)
    refine WL.sub [2, 3, 6, 29] (L' := [(2, .pointer (some ⟨(b1 + 1), 0, none⟩)), (3, .int .i64 0), (6, .pointer (some ⟨b19, 0, none⟩)), (29, .bool (!r20))]) (by kernel_rfl) ?_
    refine WL.join (σ := Bool) 4 (fun st => arp_Parse.k1 r4 r7 r10 r13 r16 st = some r) (fun st => [(2, .pointer (some ⟨(b1 + 1), 0, none⟩)), (3, .int .i64 0), (6, .pointer (some ⟨b19, 0, none⟩)), (33, .bool st)]) (fun st => Sat w Z [((b1 + 1), .cells #[.int .i64 0, .int .u64 0, .int .u32 0, .int .u64 0, .int .u32 0] 49 (0, 0)), (b19, .cells #[.int .i64 (i64 r4), .int .u64 r7, .int .u32 (u32 r10), .int .u64 r13, .int .u32 (u32 r16)] 49 (0, 0))] [] Glob) (fun st hM => ?_) (fun K1 => ?_)
    ·
      obtain ⟨x25, rfl⟩ : ∃ y, y = st := ⟨st, rfl⟩
      replace hM : arp_Parse.k1 r4 r7 r10 r13 r16 x25 = some r := hM
      unfold arp_Parse.k1 at hM
      show WL _ _ _ _ _ [(2, .pointer (some ⟨(b1 + 1), 0, none⟩)), (3, .int .i64 0), (6, .pointer (some ⟨b19, 0, none⟩)), (33, .bool x25)] (Sat w Z [((b1 + 1), .cells #[.int .i64 0, .int .u64 0, .int .u32 0, .int .u64 0, .int .u32 0] 49 (0, 0)), (b19, .cells #[.int .i64 (i64 r4), .int .u64 r7, .int .u32 (u32 r10), .int .u64 r13, .int .u32 (u32 r16)] 49 (0, 0))] [] Glob)
      refine WP.done ?_
      refine WP.cond x25 rfl rfl (fun c26 => ?_) (fun c26 => ?_)
      · replace hM := cond_t hM c26
        refine WP.seq ?_
        refine WP.run [0, 0, 0, 0, 0] [2, 3, 6] (fun _ => [(2, .pointer (some ⟨(b1 + 1), 0, none⟩)), (3, .int .i64 51), (6, .pointer (some ⟨b19, 0, none⟩))]) (fun _ => [((b1 + 1), .cells #[.int .i64 0, .int .u64 0, .int .u32 0, .int .u64 0, .int .u32 0] 49 (0, 0)), (b19, .cells #[.int .i64 (i64 r4), .int .u64 r7, .int .u32 (u32 r10), .int .u64 r13, .int .u32 (u32 r16)] 49 (0, 0))]) (fun _ => [(b1 + 1), (b1 + 1), (b1 + 1), (b1 + 1), (b1 + 1)]) (fun _ => by kernel_rfl) (fun _ => ?_)
        obtain rfl := Option.some.inj hM
        exact WP.ret [0, 0, 0, 0, 0] [(b1 + 1), (b1 + 1), (b1 + 1), (b1 + 1), (b1 + 1)] (.tuple #[.agg #[.int .i64 0, .int .u64 0, .int .u32 0, .int .u64 0, .int .u32 0], .int .i64 51]) (by kernel_rfl) (fun w' hw => ⟨rfl, hw.pick [] rfl⟩)
      · replace hM := cond_f hM c26
        refine WP.skip ?_
        refine WP.seq ?_
        refine WP.run [1, 1, 1, 1, 1, 0, 0, 0, 0, 0] [2, 3] (fun _ => [(2, .pointer (some ⟨(b1 + 1), 0, none⟩)), (3, .int .i64 0)]) (fun _ => [((b1 + 1), .cells #[.int .i64 (i64 r4), .int .u64 r7, .int .u32 (u32 r10), .int .u64 r13, .int .u32 (u32 r16)] 49 (0, 0)), (b19, .cells #[.int .i64 (i64 r4), .int .u64 r7, .int .u32 (u32 r10), .int .u64 r13, .int .u32 (u32 r16)] 49 (0, 0))]) (fun _ => [(b1 + 1), (b1 + 1), (b1 + 1), (b1 + 1), (b1 + 1), b19, b19, b19, b19, b19]) (fun _ => by kernel_rfl) (fun _ => ?_)
        refine WP.keep [true, false] (by kernel_rfl : _ = [((b1 + 1), .cells #[.int .i64 (i64 r4), .int .u64 r7, .int .u32 (u32 r10), .int .u64 r13, .int .u32 (u32 r16)] 49 (0, 0))]) ?_
        obtain rfl := Option.some.inj hM
        exact WP.ret [0, 0, 0, 0, 0] [(b1 + 1), (b1 + 1), (b1 + 1), (b1 + 1), (b1 + 1)] (.tuple #[.agg #[.int .i64 (i64 r4), .int .u64 r7, .int .u32 (u32 r10), .int .u64 r13, .int .u32 (u32 r16)], .int .i64 0]) (by kernel_rfl) (fun w' hw => ⟨rfl, hw.pick [] rfl⟩)
    ·
      refine WL.split (fun b' => [(2, .pointer (some ⟨(b1 + 1), 0, none⟩)), (3, .int .i64 0), (6, .pointer (some ⟨b19, 0, none⟩)), (29, .bool b')]) (!r20) (fun c22 => ?_) (fun c22 => ?_)
      · replace hM := cond_t hM c22
        refine WL.run 4 [] [2, 3, 6, 33] (fun _ => [(2, .pointer (some ⟨(b1 + 1), 0, none⟩)), (3, .int .i64 0), (6, .pointer (some ⟨b19, 0, none⟩)), (33, .bool true)]) (fun _ => [(b1, .cells #[.string a0] 9 (0, 0)), ((b1 + 1), .cells #[.int .i64 0, .int .u64 0, .int .u32 0, .int .u64 0, .int .u32 0] 49 (0, 0)), (b19, .cells #[.int .i64 (i64 r4), .int .u64 r7, .int .u32 (u32 r10), .int .u64 r13, .int .u32 (u32 r16)] 49 (0, 0))]) (fun _ => []) (fun _ => by kernel_rfl) (fun _ => ?_)
        exact WL.sub [2, 3, 6, 33] (by kernel_rfl) (WL.pick [1, 2] (by kernel_rfl) (by kernel_rfl) (K1 true hM))
      · replace hM := cond_f hM c22
        refine WL.run 1 [2, 2, 2, 2, 2] [2, 3, 6, 29, 30] (fun _ => [(2, .pointer (some ⟨(b1 + 1), 0, none⟩)), (3, .int .i64 0), (6, .pointer (some ⟨b19, 0, none⟩)), (29, .bool false), (30, .agg #[.int .i64 (i64 r4), .int .u64 r7, .int .u32 (u32 r10), .int .u64 r13, .int .u32 (u32 r16)])]) (fun _ => [(b1, .cells #[.string a0] 9 (0, 0)), ((b1 + 1), .cells #[.int .i64 0, .int .u64 0, .int .u32 0, .int .u64 0, .int .u32 0] 49 (0, 0)), (b19, .cells #[.int .i64 (i64 r4), .int .u64 r7, .int .u32 (u32 r10), .int .u64 r13, .int .u32 (u32 r16)] 49 (0, 0))]) (fun _ => [b19, b19, b19, b19, b19]) (fun _ => by kernel_rfl) (fun _ => ?_)
        obtain ⟨r23, h24, hM⟩ := bind_some hM
        refine WL.callP [] [] (arp_Check_calls (api_Arp.mk (i64 r4) r7 (u32 r10) r13 (u32 r16)) _ h24) (fun _ h => h) (by kernel_rfl) (by kernel_rfl) rfl ?_
        refine WL.run 2 [] [2, 3, 6, 33] (fun _ => [(2, .pointer (some ⟨(b1 + 1), 0, none⟩)), (3, .int .i64 0), (6, .pointer (some ⟨b19, 0, none⟩)), (33, .bool (r23 != 0))]) (fun _ => [(b1, .cells #[.string a0] 9 (0, 0)), ((b1 + 1), .cells #[.int .i64 0, .int .u64 0, .int .u32 0, .int .u64 0, .int .u32 0] 49 (0, 0)), (b19, .cells #[.int .i64 (i64 r4), .int .u64 r7, .int .u32 (u32 r10), .int .u64 r13, .int .u32 (u32 r16)] 49 (0, 0))]) (fun _ => []) (fun _ => by kernel_rfl) (fun _ => ?_)
        exact WL.sub [2, 3, 6, 33] (by kernel_rfl) (WL.pick [1, 2] (by kernel_rfl) (by kernel_rfl) (K1 (r23 != 0) hM))

end Go.Proofs.YtbodofjnfmjbpaaGreatDoor

namespace Go.Proofs.YtbodofjnfmjbpaaGreatDoor
open Go Eng
set_option linter.unusedVariables false
set_option linter.unusedSimpArgs false

/-! ### gangway/arp.Of: function 32 -/
def arp_Of.f (k : Nat) (a0 : api_Frame) : Option (api_Arp × Bool) :=
  bif (a0.Type_ != 2054) then
    some ((api_Arp.mk 0 0 0 0 0), false)
  else
    (arp_Parse.f k a0.Body).bind fun (r3, r4) =>
    some (r3, (r4 == 0))

set_option maxRecDepth 100000 in
theorem arp_Of_calls (k : Nat) (a0 : api_Frame) (r : api_Arp × Bool) (h : arp_Of.f k a0 = some r) : Pure Tryz.prog Glob 32 #[.agg #[.int .u64 a0.Dst, .int .u64 a0.Src, .bool a0.Tag.Has, .int .i64 a0.Tag.Pri, .bool a0.Tag.Dei, .int .i64 a0.Tag.Vid, .int .i64 a0.Type_, .string a0.Body]] (.tuple #[.agg #[.int .i64 r.1.Op, .int .u64 r.1.SMac, .int .u32 r.1.SIp, .int .u64 r.1.TMac, .int .u32 r.1.TIp], .bool r.2]) := by
  intro w Z hS
  refine calls_of (args := [.agg #[.int .u64 a0.Dst, .int .u64 a0.Src, .bool a0.Tag.Has, .int .i64 a0.Tag.Pri, .bool a0.Tag.Dei, .int .i64 a0.Tag.Vid, .int .i64 a0.Type_, .string a0.Body]]) (L := [(0, .agg #[.int .u64 a0.Dst, .int .u64 a0.Src, .bool a0.Tag.Has, .int .i64 a0.Tag.Pri, .bool a0.Tag.Dei, .int .i64 a0.Tag.Vid, .int .i64 a0.Type_, .string a0.Body])]) (N := 19) (S := Sat w Z [] [] Glob) Tryz.func32 rfl rfl (Nat.le_of_ble_eq_true rfl) rfl hS ?_
  have hM := h
  clear h hS
  unfold arp_Of.f at hM
  refine WP.seq ?_
  refine WP.run [] [1, 2, 3] (fun b1 => [(1, .pointer (some ⟨b1, 0, none⟩)), (2, .pointer (some ⟨(b1 + 1), 0, none⟩)), (3, .bool false)]) (fun b1 => [(b1, .cells #[.int .u64 a0.Dst, .int .u64 a0.Src, .bool a0.Tag.Has, .int .i64 a0.Tag.Pri, .bool a0.Tag.Dei, .int .i64 a0.Tag.Vid, .int .i64 a0.Type_, .string a0.Body] 29 (0, 0)), ((b1 + 1), .cells #[.int .i64 0, .int .u64 0, .int .u32 0, .int .u64 0, .int .u32 0] 49 (0, 0))]) (fun b1 => []) (fun b1 => by kernel_rfl) (fun b1 => ?_)
  refine WP.seq ?_
  refine WP.seq ?_
  refine WP.run [0] [1, 2, 3, 8] (fun _ => [(1, .pointer (some ⟨b1, 0, none⟩)), (2, .pointer (some ⟨(b1 + 1), 0, none⟩)), (3, .bool false), (8, .bool (a0.Type_ != 2054))]) (fun _ => [(b1, .cells #[.int .u64 a0.Dst, .int .u64 a0.Src, .bool a0.Tag.Has, .int .i64 a0.Tag.Pri, .bool a0.Tag.Dei, .int .i64 a0.Tag.Vid, .int .i64 a0.Type_, .string a0.Body] 29 (0, 0)), ((b1 + 1), .cells #[.int .i64 0, .int .u64 0, .int .u32 0, .int .u64 0, .int .u32 0] 49 (0, 0))]) (fun _ => [b1]) (fun _ => by kernel_rfl) (fun _ => ?_)
  refine WP.cond (a0.Type_ != 2054) rfl rfl (fun c2 => ?_) (fun c2 => ?_)
  · replace hM := cond_t hM c2
    refine WP.seq ?_
    refine WP.run [1, 1, 1, 1, 1] [1, 2, 3] (fun _ => [(1, .pointer (some ⟨b1, 0, none⟩)), (2, .pointer (some ⟨(b1 + 1), 0, none⟩)), (3, .bool false)]) (fun _ => [(b1, .cells #[.int .u64 a0.Dst, .int .u64 a0.Src, .bool a0.Tag.Has, .int .i64 a0.Tag.Pri, .bool a0.Tag.Dei, .int .i64 a0.Tag.Vid, .int .i64 a0.Type_, .string a0.Body] 29 (0, 0)), ((b1 + 1), .cells #[.int .i64 0, .int .u64 0, .int .u32 0, .int .u64 0, .int .u32 0] 49 (0, 0))]) (fun _ => [(b1 + 1), (b1 + 1), (b1 + 1), (b1 + 1), (b1 + 1)]) (fun _ => by kernel_rfl) (fun _ => ?_)
    obtain rfl := Option.some.inj hM
    exact WP.ret [1, 1, 1, 1, 1] [(b1 + 1), (b1 + 1), (b1 + 1), (b1 + 1), (b1 + 1)] (.tuple #[.agg #[.int .i64 0, .int .u64 0, .int .u32 0, .int .u64 0, .int .u32 0], .bool false]) (by kernel_rfl) (fun w' hw => ⟨rfl, hw.pick [] rfl⟩)
  · replace hM := cond_f hM c2
    refine WP.skip ?_
    refine WP.seq ?_
    refine WP.region ?_
    refine WL.run 2 [0] [2, 3, 12] (fun _ => [(2, .pointer (some ⟨(b1 + 1), 0, none⟩)), (3, .bool false), (12, .string a0.Body)]) (fun _ => [(b1, .cells #[.int .u64 a0.Dst, .int .u64 a0.Src, .bool a0.Tag.Has, .int .i64 a0.Tag.Pri, .bool a0.Tag.Dei, .int .i64 a0.Tag.Vid, .int .i64 a0.Type_, .string a0.Body] 29 (0, 0)), ((b1 + 1), .cells #[.int .i64 0, .int .u64 0, .int .u32 0, .int .u64 0, .int .u32 0] 49 (0, 0))]) (fun _ => [b1]) (fun _ => by kernel_rfl) (fun _ => ?_)
    obtain ⟨⟨r3, r4⟩, h5, hM⟩ := bind_some hM
    dsimp only at hM
    refine WL.callP [] [] (arp_Parse_calls k a0.Body _ h5) (fun _ h => h) (by kernel_rfl) (by kernel_rfl) rfl ?_
    refine WL.run 6 [2, 2, 2, 2, 2] [2, 3, 4, 5] (fun b6 => [(2, .pointer (some ⟨(b1 + 1), 0, none⟩)), (3, .bool false), (4, .pointer (some ⟨b6, 0, none⟩)), (5, .int .i64 r4)]) (fun b6 => [(b1, .cells #[.int .u64 a0.Dst, .int .u64 a0.Src, .bool a0.Tag.Has, .int .i64 a0.Tag.Pri, .bool a0.Tag.Dei, .int .i64 a0.Tag.Vid, .int .i64 a0.Type_, .string a0.Body] 29 (0, 0)), ((b1 + 1), .cells #[.int .i64 0, .int .u64 0, .int .u32 0, .int .u64 0, .int .u32 0] 49 (0, 0)), (b6, .cells #[.int .i64 r3.Op, .int .u64 r3.SMac, .int .u32 r3.SIp, .int .u64 r3.TMac, .int .u32 r3.TIp] 49 (0, 0))]) (fun b6 => [b6, b6, b6, b6, b6]) (fun b6 => by kernel_rfl) (fun b6 => ?_)
    refine WP.done ?_
    refine WP.keep [false, true, true] (by kernel_rfl : _ = [((b1 + 1), .cells #[.int .i64 0, .int .u64 0, .int .u32 0, .int .u64 0, .int .u32 0] 49 (0, 0)), (b6, .cells #[.int .i64 r3.Op, .int .u64 r3.SMac, .int .u32 r3.SIp, .int .u64 r3.TMac, .int .u32 r3.TIp] 49 (0, 0))]) ?_
    refine WP.seq ?_
    refine WP.run [1, 1, 1, 1, 1, 0, 0, 0, 0, 0] [2, 3] (fun _ => [(2, .pointer (some ⟨(b1 + 1), 0, none⟩)), (3, .bool (r4 == 0))]) (fun _ => [((b1 + 1), .cells #[.int .i64 r3.Op, .int .u64 r3.SMac, .int .u32 r3.SIp, .int .u64 r3.TMac, .int .u32 r3.TIp] 49 (0, 0)), (b6, .cells #[.int .i64 r3.Op, .int .u64 r3.SMac, .int .u32 r3.SIp, .int .u64 r3.TMac, .int .u32 r3.TIp] 49 (0, 0))]) (fun _ => [(b1 + 1), (b1 + 1), (b1 + 1), (b1 + 1), (b1 + 1), b6, b6, b6, b6, b6]) (fun _ => by kernel_rfl) (fun _ => ?_)
    refine WP.keep [true, false] (by kernel_rfl : _ = [((b1 + 1), .cells #[.int .i64 r3.Op, .int .u64 r3.SMac, .int .u32 r3.SIp, .int .u64 r3.TMac, .int .u32 r3.TIp] 49 (0, 0))]) ?_
    obtain rfl := Option.some.inj hM
    exact WP.ret [0, 0, 0, 0, 0] [(b1 + 1), (b1 + 1), (b1 + 1), (b1 + 1), (b1 + 1)] (.tuple #[.agg #[.int .i64 r3.Op, .int .u64 r3.SMac, .int .u32 r3.SIp, .int .u64 r3.TMac, .int .u32 r3.TIp], .bool (r4 == 0)]) (by kernel_rfl) (fun w' hw => ⟨rfl, hw.pick [] rfl⟩)

end Go.Proofs.YtbodofjnfmjbpaaGreatDoor

namespace Go.Proofs.YtbodofjnfmjbpaaGreatDoor
open Go Eng
set_option linter.unusedVariables false
set_option linter.unusedSimpArgs false

/-! ### strings.Join: function 114 -/
def strings_Join.ren : Go.Shelf.Ren where
  f := fun | 156 => 114 | 165 => 118 | 166 => 119 | 169 => 120 | 240 => 121 | 241 => 122 | 276 => 123 | 277 => 124 | n => n
  t := fun | 0 => 0 | 3 => 3 | 4 => 4 | 5 => 5 | 9 => 9 | 20 => 20 | 31 => 161 | 37 => 87 | 70 => 191 | 72 => 193 | 75 => 73 | 76 => 170 | 80 => 196 | 127 => 197 | 164 => 103 | n => n
  g := fun n => n
set_option maxRecDepth 100000 in
theorem strings_Join.lays : Go.Proofs.Lays.n156 Tryz.prog strings_Join.ren where
  mixed := by kernel_rfl
  f156 := by kernel_rfl
  f165 := by kernel_rfl
  f166 := by kernel_rfl
  f169 := by kernel_rfl
  f240 := by kernel_rfl
  f241 := by kernel_rfl
  f276 := by kernel_rfl
  f277 := by kernel_rfl
  t0 := by kernel_rfl
  a0 := (fun _ => by kernel_rfl)
  z0 := (fun _ => by kernel_rfl)
  v0 := (fun _ => by kernel_rfl)
  t3 := by kernel_rfl
  a3 := (fun _ => by kernel_rfl)
  z3 := (fun _ => by kernel_rfl)
  v3 := (fun _ => by kernel_rfl)
  t4 := by kernel_rfl
  a4 := (fun _ => by kernel_rfl)
  z4 := (fun _ => by kernel_rfl)
  v4 := (fun _ => by kernel_rfl)
  t9 := by kernel_rfl
  a9 := (fun _ => by kernel_rfl)
  z9 := (fun _ => by kernel_rfl)
  v9 := (fun _ => by kernel_rfl)
  t20 := by kernel_rfl
  a20 := (fun _ => by kernel_rfl)
  z20 := (fun _ => by kernel_rfl)
  v20 := (fun _ => by kernel_rfl)
  t31 := by kernel_rfl
  a31 := (fun _ => by kernel_rfl)
  z31 := (fun _ => by kernel_rfl)
  v31 := (fun _ => by kernel_rfl)
  t37 := by kernel_rfl
  a37 := (fun _ => by kernel_rfl)
  z37 := (fun _ => by kernel_rfl)
  v37 := (fun _ => by kernel_rfl)
  t70 := by kernel_rfl
  a70 := (fun _ => by kernel_rfl)
  z70 := (fun _ => by kernel_rfl)
  v70 := (fun _ => by kernel_rfl)
  t72 := by kernel_rfl
  a72 := (fun _ => by kernel_rfl)
  z72 := (fun _ => by kernel_rfl)
  v72 := (fun _ => by kernel_rfl)
  t75 := by kernel_rfl
  a75 := (fun _ => by kernel_rfl)
  z75 := (fun _ => by kernel_rfl)
  v75 := (fun _ => by kernel_rfl)
  t76 := by kernel_rfl
  a76 := (fun _ => by kernel_rfl)
  z76 := (fun _ => by kernel_rfl)
  v76 := (fun _ => by kernel_rfl)
  t127 := by kernel_rfl
  a127 := (fun _ => by kernel_rfl)
  z127 := (fun _ => by kernel_rfl)
  v127 := (fun _ => by kernel_rfl)
  t164 := by kernel_rfl
  a164 := (fun _ => by kernel_rfl)
  z164 := (fun _ => by kernel_rfl)
  v164 := (fun _ => by kernel_rfl)
set_option maxRecDepth 100000 in
theorem strings_Join.extra : Go.Proofs.Builder.Extra Tryz.prog strings_Join.ren where
  sizeBuilder := by kernel_rfl
  liesBuilder := by kernel_rfl
  t5 := by kernel_rfl
  a5 := fun _ => by kernel_rfl
  z5 := fun _ => by kernel_rfl
  v5 := fun _ => by kernel_rfl
  infoByte := by kernel_rfl
  cellsByte := by kernel_rfl
  sizeByte := by kernel_rfl
  neB5 := by decide

def strings_Join.f (a0 : List ByteArray) (a1 : ByteArray) : Option ByteArray := if a0.length ≤ 140737488355328 ∧ (Lib.join (a0.map (·.data.toList)) a1.data.toList).length ≤ 140737488355328 then some ⟨(Lib.join (a0.map (·.data.toList)) a1.data.toList).toArray⟩ else none

set_option maxRecDepth 100000 in
theorem strings_Join_calls (A00 : SkL Unit) (a0 : List ByteArray) (a1 : ByteArray) (r : ByteArray) (h : strings_Join.f a0 a1 = some r) : Pure Tryz.prog ([Row 1 (pl encS) noK A00 a0] ++ Glob) 114 #[slcV A00 a0.length, .string a1] (.string r) := by
  intro w Z hS
  unfold strings_Join.f at h
  split at h
  · rename_i hb
    obtain rfl := Option.some.inj h
    have hR := hS.fact (φ := Row 1 (pl encS) noK A00 a0) (fact_at 0 rfl)
    have hback : ∀ w' : World, Go.RowKit.Below w.heap.size w w' → Sat w Z [] [] ([Row 1 (pl encS) noK A00 a0] ++ Glob) w' := fun w' hb' => hS.away hb'.os hb'.tape hb'.output hb'.size hb'.block
    cases hA : A00.a with
    | none =>
      obtain ⟨h1, h2⟩ := hR.nil hA
      subst h1
      have hv : slcV A00 ([] : List ByteArray).length = .slice none 0 0 := by simp [slcV, SkL.addr, hA, h2]
      rw [hv]
      refine (Any.strings_Join_none strings_Join.lays strings_Join.extra none 0 a1 w).mono fun e w' ⟨he, hw⟩ => ⟨he, ?_⟩
      subst hw
      exact hS
    | some q =>
      obtain ⟨b, o⟩ := q
      have hv : slcV A00 a0.length = .slice (some ⟨b, o, none⟩) a0.length A00.c := by simp [slcV, SkL.addr, hA]
      rw [hv]
      have hcell : ∀ (j : Nat) x, a0[j]? = some x → w.cell? ⟨b, o + j, none⟩ = some (.string x) := fun j x hx => by
        have := hR.cells b o hA j x hx 0 (.string x) rfl
        rwa [Nat.mul_one, Nat.add_zero] at this
      cases hl : a0 with
      | nil =>
        subst hl
        refine (Any.strings_Join_none strings_Join.lays strings_Join.extra _ _ a1 w).mono fun e w' ⟨he, hw⟩ => ⟨he, ?_⟩
        subst hw
        exact hS
      | cons x0 xr =>
        have hlt : b < w.heap.size := by
          have := hcell 0 x0 (by rw [hl]; rfl)
          exact World.block_lt_of_cell? w _ this
        rw [← hl]
        exact (Any.strings_Join strings_Join.lays strings_Join.extra b o A00.c a0 a1 w hcell hlt hb.1 hR.le hb.2).mono fun e w' ⟨he, hw⟩ => ⟨he, hback w' hw⟩
  · cases h

end Go.Proofs.YtbodofjnfmjbpaaGreatDoor

namespace Go.Proofs.YtbodofjnfmjbpaaGreatDoor
open Go Eng
set_option linter.unusedVariables false
set_option linter.unusedSimpArgs false

/-! ### gangway/csum.fold: function 115 -/
def csum_fold.l1 : Nat → Int → Option (Int)
  | 0, _ => none
  | n + 1, x1 =>
    bif decide (x1 > 65535) then
      csum_fold.l1 n (i64 ((bAnd .i64 x1 65535) + (Int.fdiv x1 65536)))
    else
      some x1

def csum_fold.f (k : Nat) (a0 : Int) : Option (Int) :=
  csum_fold.l1 k a0

set_option maxRecDepth 100000 in
theorem csum_fold_calls (k : Nat) (a0 : Int) (r : Int) (h : csum_fold.f k a0 = some r) : Pure Tryz.prog Glob 115 #[.int .i64 a0] (.int .i64 r) := by
  intro w Z hS
  refine calls_of (args := [.int .i64 a0]) (L := [(0, .int .i64 a0)]) (N := 11) (S := Sat w Z [] [] Glob) Tryz.func115 rfl rfl (Nat.le_of_ble_eq_true rfl) rfl hS ?_
  have hM := h
  clear h hS
  unfold csum_fold.f at hM
  refine WP.seq ?_
  refine WP.run [] [0, 2] (fun _ => [(0, .int .i64 a0), (2, .int .i64 0)]) (fun _ => []) (fun _ => []) (fun _ => by kernel_rfl) (fun _ => ?_)
  refine WP.seq ?_
  refine WP.block ?_
  refine WP.sub [0, 2] (L' := [(0, .int .i64 a0), (2, .int .i64 0)]) (by kernel_rfl) ?_
  refine WP.loop (σ := Int) (fun n st => csum_fold.l1 n st) r (fun st => [(0, .int .i64 st), (2, .int .i64 0)]) (fun st => Sat w Z [] [] Glob) (st := a0) (fun n st hM => ?_) hM
  rcases n with _ | n
  · exact nomatch (show (none : Option _) = some r from hM)
  obtain ⟨x1, rfl⟩ : ∃ y, y = st := ⟨st, rfl⟩
  replace hM : csum_fold.l1 (n + 1) x1 = some r := hM
  rw [csum_fold.l1] at hM
  show WP _ _ _ _ _ [(0, .int .i64 x1), (2, .int .i64 0)] (Sat w Z [] [] Glob)
  refine WP.seq ?_
  refine WP.seq ?_
  refine WP.run [] [0, 2, 3, 4] (fun _ => [(0, .int .i64 x1), (2, .int .i64 0), (3, .int .i64 x1), (4, .bool (decide (x1 > 65535)))]) (fun _ => []) (fun _ => []) (fun _ => by kernel_rfl) (fun _ => ?_)
  refine WP.cond (decide (x1 > 65535)) rfl rfl (fun c2 => ?_) (fun c2 => ?_)
  · replace hM := cond_t hM c2
    refine WP.skip ?_
    refine WP.block ?_
    refine WP.run [] [0, 2, 3, 4, 5, 6, 7, 8, 9] (fun _ => [(0, .int .i64 (i64 ((bAnd .i64 x1 65535) + (Int.fdiv x1 65536)))), (2, .int .i64 0), (3, .int .i64 x1), (4, .bool (decide (x1 > 65535))), (5, .int .i64 x1), (6, .int .i64 (bAnd .i64 x1 65535)), (7, .int .i64 x1), (8, .int .i64 (Int.fdiv x1 65536)), (9, .int .i64 (i64 ((bAnd .i64 x1 65535) + (Int.fdiv x1 65536))))]) (fun _ => []) (fun _ => []) (fun _ => by kernel_rfl) (fun _ => ?_)
    refine WP.leave ?_
    exact WP.again' [0, 2] (i64 ((bAnd .i64 x1 65535) + (Int.fdiv x1 65536))) hM (by kernel_rfl) (fun _ h => h.pick [] (by kernel_rfl))
  · replace hM := cond_f hM c2
    refine WP.exit rfl ?_
    refine WP.seq ?_
    refine WP.run [] [2] (fun _ => [(2, .int .i64 x1)]) (fun _ => []) (fun _ => []) (fun _ => by kernel_rfl) (fun _ => ?_)
    obtain rfl := Option.some.inj hM
    exact WP.ret [] [] (.int .i64 x1) (by kernel_rfl) (fun w' hw => ⟨rfl, hw.pick [] rfl⟩)

end Go.Proofs.YtbodofjnfmjbpaaGreatDoor

namespace Go.Proofs.YtbodofjnfmjbpaaGreatDoor
open Go Eng
set_option linter.unusedVariables false
set_option linter.unusedSimpArgs false

/-! ### gangway/csum.total: function 96 -/
def csum_total.l1 (x6 : ByteArray) (k : Nat) : Nat → Int → Int → Option (Int)
  | 0, _, _ => none
  | n + 1, x7, x8 =>
    bif decide (x8 < (x6.size : Int)) then
      (idxS x6 x8).bind fun t10 =>
      (idxS x6 (i64 (x8 + 1))).bind fun t12 =>
      (csum_fold.f k (i64 ((i64 (x7 + (i64 ((i64 t10) * 256)))) + (i64 t12)))).bind fun r14 =>
      csum_total.l1 x6 k n r14 (i64 (x8 + 2))
    else
      some x7

def csum_total.k2 (k : Nat) (x6 : ByteArray) : Option (Int) :=
  csum_total.l1 x6 k k 0 0

def csum_total.f (k : Nat) (a0 : (List ByteArray)) : Option (Int) :=
  (strings_Join.f a0 (⟨#[]⟩ : ByteArray)).bind fun r1 =>
  bif ((Int.tmod (r1.size : Int) 2) == 1) then
    (catS r1 (⟨#[0]⟩ : ByteArray)).bind fun t4 =>
    csum_total.k2 k t4
  else
    csum_total.k2 k r1

set_option maxRecDepth 100000 in
theorem csum_total_calls (k : Nat) (A00 : SkL Unit) (a0 : (List ByteArray)) (r : Int) (h : csum_total.f k a0 = some r) : Pure Tryz.prog ([Row 1 (pl encS) noK A00 a0] ++ Glob) 96 #[slcV A00 a0.length] (.int .i64 r) := by
  intro w Z hS
  refine calls_of (args := [slcV A00 a0.length]) (L := [(0, slcV A00 a0.length)]) (N := 35) (S := Sat w Z [] [] ([Row 1 (pl encS) noK A00 a0] ++ Glob)) Tryz.func96 rfl rfl (Nat.le_of_ble_eq_true rfl) rfl hS ?_
  have hM := h
  clear h hS
  unfold csum_total.f at hM
  refine WP.seq ?_
  refine WP.run [] [0, 2] (fun _ => [(0, slcV A00 a0.length), (2, .int .i64 0)]) (fun _ => []) (fun _ => []) (fun _ => by kernel_rfl) (fun _ => ?_)
  refine WP.seq ?_
  refine WP.region ?_
  refine WL.run 1 [] [2, 6] (fun _ => [(2, .int .i64 0), (6, slcV A00 a0.length)]) (fun _ => []) (fun _ => []) (fun _ => by kernel_rfl) (fun _ => ?_)
  obtain ⟨r1, h2, hM⟩ := bind_some hM
  refine WL.callP [] [] (strings_Join_calls A00 a0 (⟨#[]⟩ : ByteArray) _ h2) (sub_pick [0] (by kernel_rfl)) (by kernel_rfl) (by kernel_rfl) rfl ?_
  refine WL.run 1 [] [2, 3] (fun _ => [(2, .int .i64 0), (3, .string r1)]) (fun _ => []) (fun _ => []) (fun _ => by kernel_rfl) (fun _ => ?_)
  refine WP.done ?_
  refine WP.seqJoin (σ := ByteArray) (fun st => csum_total.k2 k st = some r) (fun st => [(2, .int .i64 0), (3, .string st)]) (fun st => Sat w Z [] [] ([Row 1 (pl encS) noK A00 a0] ++ Glob)) (fun st hM => ?_) (fun K2 => ?_)
  ·
    obtain ⟨x6, rfl⟩ : ∃ y, y = st := ⟨st, rfl⟩
    replace hM : csum_total.k2 k x6 = some r := hM
    unfold csum_total.k2 at hM
    show WP _ _ _ _ _ [(2, .int .i64 0), (3, .string x6)] (Sat w Z [] [] ([Row 1 (pl encS) noK A00 a0] ++ Glob))
    refine WP.seq ?_
    refine WP.run [] [2, 3, 4] (fun _ => [(2, .int .i64 0), (3, .string x6), (4, .int .i64 0)]) (fun _ => []) (fun _ => []) (fun _ => by kernel_rfl) (fun _ => ?_)
    refine WP.seq ?_
    refine WP.seq ?_
    refine WP.run [] [2, 3, 4, 5] (fun _ => [(2, .int .i64 0), (3, .string x6), (4, .int .i64 0), (5, .int .i64 0)]) (fun _ => []) (fun _ => []) (fun _ => by kernel_rfl) (fun _ => ?_)
    refine WP.block ?_
    refine WP.sub [2, 3, 4, 5] (L' := [(2, .int .i64 0), (3, .string x6), (4, .int .i64 0), (5, .int .i64 0)]) (by kernel_rfl) ?_
    refine WP.lessF [0] (F' := [Row 1 (pl encS) noK A00 a0]) (by kernel_rfl) ?_
    refine WP.loop (σ := Int × Int) (fun n st => csum_total.l1 x6 k n st.1 st.2) r (fun st => [(2, .int .i64 0), (3, .string x6), (4, .int .i64 st.1), (5, .int .i64 st.2)]) (fun st => Sat w Z [] [] ([Row 1 (pl encS) noK A00 a0] ++ Glob)) (st := (0, 0)) (fun n st hM => ?_) hM
    rcases n with _ | n
    · exact nomatch (show (none : Option _) = some r from hM)
    obtain ⟨x7, x8⟩ := st
    replace hM : csum_total.l1 x6 k (n + 1) x7 x8 = some r := hM
    rw [csum_total.l1] at hM
    show WP _ _ _ _ _ [(2, .int .i64 0), (3, .string x6), (4, .int .i64 x7), (5, .int .i64 x8)] (Sat w Z [] [] ([Row 1 (pl encS) noK A00 a0] ++ Glob))
    refine WP.seq ?_
    refine WP.seq ?_
    refine WP.run [] [2, 3, 4, 5, 14, 15, 16, 17] (fun _ => [(2, .int .i64 0), (3, .string x6), (4, .int .i64 x7), (5, .int .i64 x8), (14, .int .i64 x8), (15, .string x6), (16, .int .i64 (x6.size : Int)), (17, .bool (decide (x8 < (x6.size : Int))))]) (fun _ => []) (fun _ => []) (fun _ => by kernel_rfl) (fun _ => ?_)
    refine WP.cond (decide (x8 < (x6.size : Int))) rfl rfl (fun c9 => ?_) (fun c9 => ?_)
    · replace hM := cond_t hM c9
      refine WP.skip ?_
      refine WP.seq ?_
      refine WP.block ?_
      refine WP.quiet (by kernel_rfl) (by kernel_rfl) ?_
      refine QL.run 3 [] [2, 3, 4, 5, 14, 15, 16, 17, 20, 21, 22] [] [(2, .int .i64 0), (3, .string x6), (4, .int .i64 x7), (5, .int .i64 x8), (14, .int .i64 x8), (15, .string x6), (16, .int .i64 (x6.size : Int)), (17, .bool (decide (x8 < (x6.size : Int)))), (20, .int .i64 x7), (21, .string x6), (22, .int .i64 x8)] (by kernel_rfl) ?_
      obtain ⟨t10, h11, hM⟩ := bind_some hM
      refine QL.val (fun _ => run_idxS (s := x6) (k := .i64) (i := x8) (by kernel_rfl) (by kernel_rfl) (by kernel_rfl) h11) (by kernel_rfl) (by kernel_rfl) rfl ?_
      refine QL.run 6 [] [2, 3, 4, 5, 14, 15, 16, 17, 20, 21, 22, 23, 24, 25, 26, 27, 28, 29] [] [(2, .int .i64 0), (3, .string x6), (4, .int .i64 x7), (5, .int .i64 x8), (14, .int .i64 x8), (15, .string x6), (16, .int .i64 (x6.size : Int)), (17, .bool (decide (x8 < (x6.size : Int)))), (20, .int .i64 x7), (21, .string x6), (22, .int .i64 x8), (23, .int .u8 t10), (24, .int .i64 (i64 t10)), (25, .int .i64 (i64 ((i64 t10) * 256))), (26, .int .i64 (i64 (x7 + (i64 ((i64 t10) * 256))))), (27, .string x6), (28, .int .i64 x8), (29, .int .i64 (i64 (x8 + 1)))] (by kernel_rfl) ?_
      obtain ⟨t12, h13, hM⟩ := bind_some hM
      refine QL.val (fun _ => run_idxS (s := x6) (k := .i64) (i := i64 (x8 + 1)) (by kernel_rfl) (by kernel_rfl) (by kernel_rfl) h13) (by kernel_rfl) (by kernel_rfl) rfl ?_
      refine QL.run 2 [] [2, 3, 4, 5, 14, 15, 16, 17, 20, 21, 22, 23, 24, 25, 26, 27, 28, 29, 30, 31, 32] [] [(2, .int .i64 0), (3, .string x6), (4, .int .i64 x7), (5, .int .i64 x8), (14, .int .i64 x8), (15, .string x6), (16, .int .i64 (x6.size : Int)), (17, .bool (decide (x8 < (x6.size : Int)))), (20, .int .i64 x7), (21, .string x6), (22, .int .i64 x8), (23, .int .u8 t10), (24, .int .i64 (i64 t10)), (25, .int .i64 (i64 ((i64 t10) * 256))), (26, .int .i64 (i64 (x7 + (i64 ((i64 t10) * 256))))), (27, .string x6), (28, .int .i64 x8), (29, .int .i64 (i64 (x8 + 1))), (30, .int .u8 t12), (31, .int .i64 (i64 t12)), (32, .int .i64 (i64 ((i64 (x7 + (i64 ((i64 t10) * 256)))) + (i64 t12))))] (by kernel_rfl) ?_
      obtain ⟨r14, h15, hM⟩ := bind_some hM
      refine QL.callP [] [] (csum_fold_calls k (i64 ((i64 (x7 + (i64 ((i64 t10) * 256)))) + (i64 t12))) _ h15) (fun _ h => List.mem_append_right _ h) (by kernel_rfl) (by kernel_rfl) rfl ?_
      refine QL.run 1 [] [2, 3, 4, 5, 14, 15, 16, 17, 20, 21, 22, 23, 24, 25, 26, 27, 28, 29, 30, 31, 32, 33] [] [(2, .int .i64 0), (3, .string x6), (4, .int .i64 r14), (5, .int .i64 x8), (14, .int .i64 x8), (15, .string x6), (16, .int .i64 (x6.size : Int)), (17, .bool (decide (x8 < (x6.size : Int)))), (20, .int .i64 x7), (21, .string x6), (22, .int .i64 x8), (23, .int .u8 t10), (24, .int .i64 (i64 t10)), (25, .int .i64 (i64 ((i64 t10) * 256))), (26, .int .i64 (i64 (x7 + (i64 ((i64 t10) * 256))))), (27, .string x6), (28, .int .i64 x8), (29, .int .i64 (i64 (x8 + 1))), (30, .int .u8 t12), (31, .int .i64 (i64 t12)), (32, .int .i64 (i64 ((i64 (x7 + (i64 ((i64 t10) * 256)))) + (i64 t12)))), (33, .int .i64 r14)] (by kernel_rfl) ?_
      refine QL.done ?_
      refine WP.leave ?_
      refine WP.run [] [2, 3, 4, 5, 14, 15, 16, 17, 18, 19, 20, 21, 22, 23, 24, 25, 26, 27, 28, 29, 30, 31, 32, 33] (fun _ => [(2, .int .i64 0), (3, .string x6), (4, .int .i64 r14), (5, .int .i64 (i64 (x8 + 2))), (14, .int .i64 x8), (15, .string x6), (16, .int .i64 (x6.size : Int)), (17, .bool (decide (x8 < (x6.size : Int)))), (18, .int .i64 x8), (19, .int .i64 (i64 (x8 + 2))), (20, .int .i64 x7), (21, .string x6), (22, .int .i64 x8), (23, .int .u8 t10), (24, .int .i64 (i64 t10)), (25, .int .i64 (i64 ((i64 t10) * 256))), (26, .int .i64 (i64 (x7 + (i64 ((i64 t10) * 256))))), (27, .string x6), (28, .int .i64 x8), (29, .int .i64 (i64 (x8 + 1))), (30, .int .u8 t12), (31, .int .i64 (i64 t12)), (32, .int .i64 (i64 ((i64 (x7 + (i64 ((i64 t10) * 256)))) + (i64 t12)))), (33, .int .i64 r14)]) (fun _ => []) (fun _ => []) (fun _ => by kernel_rfl) (fun _ => ?_)
      exact WP.again' [2, 3, 4, 5] (r14, i64 (x8 + 2)) hM (by kernel_rfl) (fun _ h => (h.pick [] (by kernel_rfl)).lessF [0] (by kernel_rfl))
    · replace hM := cond_f hM c9
      refine WP.exit rfl ?_
      refine WP.seq ?_
      refine WP.run [] [2] (fun _ => [(2, .int .i64 x7)]) (fun _ => []) (fun _ => []) (fun _ => by kernel_rfl) (fun _ => ?_)
      obtain rfl := Option.some.inj hM
      exact WP.ret [] [] (.int .i64 x7) (by kernel_rfl) (fun w' hw => ⟨rfl, (hw.pick [] rfl).lessF [0] (by kernel_rfl)⟩)
  ·
    refine WP.seq ?_
    refine WP.run [] [2, 3, 11] (fun _ => [(2, .int .i64 0), (3, .string r1), (11, .bool ((Int.tmod (r1.size : Int) 2) == 1))]) (fun _ => []) (fun _ => []) (fun _ => by kernel_rfl) (fun _ => ?_)
    refine WP.cond ((Int.tmod (r1.size : Int) 2) == 1) rfl rfl (fun c3 => ?_) (fun c3 => ?_)
    · replace hM := cond_t hM c3
      refine WP.region ?_
      refine WL.run 1 [] [2, 3, 12] (fun _ => [(2, .int .i64 0), (3, .string r1), (12, .string r1)]) (fun _ => []) (fun _ => []) (fun _ => by kernel_rfl) (fun _ => ?_)
      obtain ⟨t4, h5, hM⟩ := bind_some hM
      refine WL.val (fun _ => run_catS (a := r1) (b := (⟨#[0]⟩ : ByteArray)) (by kernel_rfl) (by kernel_rfl) h5) (by kernel_rfl) (by kernel_rfl) rfl ?_
      refine WL.run 1 [] [2, 3] (fun _ => [(2, .int .i64 0), (3, .string t4)]) (fun _ => []) (fun _ => []) (fun _ => by kernel_rfl) (fun _ => ?_)
      refine WP.done ?_
      exact WP.sub [2, 3] (by kernel_rfl) (WP.pick [] (by kernel_rfl) (by kernel_rfl) (WP.lessF [0] (by kernel_rfl) (K2 t4 hM)))
    · replace hM := cond_f hM c3
      refine WP.skip ?_
      exact WP.sub [2, 3] (by kernel_rfl) (WP.pick [] (by kernel_rfl) (by kernel_rfl) (WP.lessF [0] (by kernel_rfl) (K2 r1 hM)))

end Go.Proofs.YtbodofjnfmjbpaaGreatDoor

namespace Go.Proofs.YtbodofjnfmjbpaaGreatDoor
open Go Eng
set_option linter.unusedVariables false
set_option linter.unusedSimpArgs false

/-! ### gangway/csum.Right: function 116 -/
def csum_Right.f (k : Nat) (a0 : (List ByteArray)) : Option (Bool) :=
  (csum_total.f k a0).bind fun r1 =>
  some (r1 == 65535)

set_option maxRecDepth 100000 in
theorem csum_Right_calls (k : Nat) (A00 : SkL Unit) (a0 : (List ByteArray)) (r : Bool) (h : csum_Right.f k a0 = some r) : Pure Tryz.prog ([Row 1 (pl encS) noK A00 a0] ++ Glob) 116 #[slcV A00 a0.length] (.bool r) := by
  intro w Z hS
  refine calls_of (args := [slcV A00 a0.length]) (L := [(0, slcV A00 a0.length)]) (N := 6) (S := Sat w Z [] [] ([Row 1 (pl encS) noK A00 a0] ++ Glob)) Tryz.func116 rfl rfl (Nat.le_of_ble_eq_true rfl) rfl hS ?_
  have hM := h
  clear h hS
  unfold csum_Right.f at hM
  refine WP.seq ?_
  refine WP.run [] [0, 2] (fun _ => [(0, slcV A00 a0.length), (2, .bool false)]) (fun _ => []) (fun _ => []) (fun _ => by kernel_rfl) (fun _ => ?_)
  refine WP.seq ?_
  refine WP.region ?_
  refine WL.run 1 [] [2, 3] (fun _ => [(2, .bool false), (3, slcV A00 a0.length)]) (fun _ => []) (fun _ => []) (fun _ => by kernel_rfl) (fun _ => ?_)
  obtain ⟨r1, h2, hM⟩ := bind_some hM
  refine WL.callP [] [] (csum_total_calls k A00 a0 _ h2) (sub_pick [0] (by kernel_rfl)) (by kernel_rfl) (by kernel_rfl) rfl ?_
  refine WL.run 2 [] [2] (fun _ => [(2, .bool (r1 == 65535))]) (fun _ => []) (fun _ => []) (fun _ => by kernel_rfl) (fun _ => ?_)
  refine WP.done ?_
  obtain rfl := Option.some.inj hM
  exact WP.ret [] [] (.bool (r1 == 65535)) (by kernel_rfl) (fun w' hw => ⟨rfl, (hw.pick [] rfl).lessF [0] (by kernel_rfl)⟩)

end Go.Proofs.YtbodofjnfmjbpaaGreatDoor

namespace Go.Proofs.YtbodofjnfmjbpaaGreatDoor
open Go Eng
set_option linter.unusedVariables false
set_option linter.unusedSimpArgs false

/-! ### gangway/inet.get: function 117 -/
def inet_get.f (a0 : ByteArray) (a1 : Int) : Option (Int) :=
  (idxS a0 a1).bind fun t1 =>
  (idxS a0 (i64 (a1 + 1))).bind fun t3 =>
  some (bOr .i64 (i64 ((i64 t1) * 256)) (i64 t3))

set_option maxRecDepth 100000 in
theorem inet_get_calls (a0 : ByteArray) (a1 : Int) (r : Int) (h : inet_get.f a0 a1 = some r) : Pure Tryz.prog Glob 117 #[.string a0, .int .i64 a1] (.int .i64 r) := by
  intro w Z hS
  refine calls_of (args := [.string a0, .int .i64 a1]) (L := [(0, .string a0), (1, .int .i64 a1)]) (N := 16) (S := Sat w Z [] [] Glob) Tryz.func117 rfl rfl (Nat.le_of_ble_eq_true rfl) rfl hS ?_
  have hM := h
  clear h hS
  unfold inet_get.f at hM
  refine WP.seq ?_
  refine WP.run [] [0, 1, 4] (fun _ => [(0, .string a0), (1, .int .i64 a1), (4, .int .i64 0)]) (fun _ => []) (fun _ => []) (fun _ => by kernel_rfl) (fun _ => ?_)
  refine WP.seq ?_
  refine WP.quiet (by kernel_rfl) (by kernel_rfl) ?_
  refine QL.run 2 [] [0, 1, 4, 5, 6] [] [(0, .string a0), (1, .int .i64 a1), (4, .int .i64 0), (5, .string a0), (6, .int .i64 a1)] (by kernel_rfl) ?_
  obtain ⟨t1, h2, hM⟩ := bind_some hM
  refine QL.val (fun _ => run_idxS (s := a0) (k := .i64) (i := a1) (by kernel_rfl) (by kernel_rfl) (by kernel_rfl) h2) (by kernel_rfl) (by kernel_rfl) rfl ?_
  refine QL.run 5 [] [4, 9, 10, 12] [] [(4, .int .i64 0), (9, .int .i64 (i64 ((i64 t1) * 256))), (10, .string a0), (12, .int .i64 (i64 (a1 + 1)))] (by kernel_rfl) ?_
  obtain ⟨t3, h4, hM⟩ := bind_some hM
  refine QL.val (fun _ => run_idxS (s := a0) (k := .i64) (i := i64 (a1 + 1)) (by kernel_rfl) (by kernel_rfl) (by kernel_rfl) h4) (by kernel_rfl) (by kernel_rfl) rfl ?_
  refine QL.run 3 [] [4] [] [(4, .int .i64 (bOr .i64 (i64 ((i64 t1) * 256)) (i64 t3)))] (by kernel_rfl) ?_
  refine QL.done ?_
  obtain rfl := Option.some.inj hM
  exact WP.ret [] [] (.int .i64 (bOr .i64 (i64 ((i64 t1) * 256)) (i64 t3))) (by kernel_rfl) (fun w' hw => ⟨rfl, hw.pick [] rfl⟩)

end Go.Proofs.YtbodofjnfmjbpaaGreatDoor

namespace Go.Proofs.YtbodofjnfmjbpaaGreatDoor
open Go Eng
set_option linter.unusedVariables false
set_option linter.unusedSimpArgs false

/-! ### gangway/inet.read: function 111 -/
def inet_read.f (k : Nat) (a0 : ByteArray) : Option (api_Ip × Un3) :=
  bif decide ((a0.size : Int) < 20) then
    some ((api_Ip.mk 0 0 false false 0 0 0 0 0 (⟨#[]⟩ : ByteArray)), some (inet_odd.mk 60))
  else
    (idxS a0 0).bind fun t3 =>
    bif (t3 != 69) then
      some ((api_Ip.mk 0 0 false false 0 0 0 0 0 (⟨#[]⟩ : ByteArray)), some (inet_odd.mk 61))
    else
      (sliceS a0 0 20).bind fun t6 =>
      (csum_Right.f k ([t6] : List ByteArray)).bind fun r9 =>
      bif !r9 then
        some ((api_Ip.mk 0 0 false false 0 0 0 0 0 (⟨#[]⟩ : ByteArray)), some (inet_odd.mk 62))
      else
        (inet_get.f a0 2).bind fun r12 =>
        (inet_get.f a0 6).bind fun r14 =>
        bif ((decide (r12 < 20)) || ((bAnd .i64 r14 32768) != 0)) then
          some ((api_Ip.mk 0 0 false false 0 0 0 0 0 (⟨#[]⟩ : ByteArray)), some (inet_odd.mk 61))
        else
          bif decide (r12 > (a0.size : Int)) then
            some ((api_Ip.mk 0 0 false false 0 0 0 0 0 (⟨#[]⟩ : ByteArray)), some (inet_odd.mk 60))
          else
            (octets_Get.f k a0 12 4).bind fun (r18, r19) =>
            (octets_Get.f k a0 16 4).bind fun (r21, r22) =>
            (idxS a0 1).bind fun t25 =>
            (inet_get.f a0 4).bind fun r27 =>
            (idxS a0 8).bind fun t29 =>
            (idxS a0 9).bind fun t31 =>
            (sliceS a0 20 r12).bind fun t35 =>
            some ((api_Ip.mk (i64 t25) r27 ((bAnd .i64 r14 16384) != 0) ((bAnd .i64 r14 8192) != 0) (Int.tmod r14 8192) (i64 t29) (i64 t31) (u32 r18) (u32 r21) t35), none)

set_option maxRecDepth 100000 in
theorem inet_read_calls (k : Nat) (a0 : ByteArray) (r : api_Ip × Un3) (h : inet_read.f k a0 = some r) : Pure Tryz.prog Glob 111 #[.string a0] (.tuple #[.agg #[.int .i64 r.1.Tos, .int .i64 r.1.Id, .bool r.1.Whole, .bool r.1.More, .int .i64 r.1.Off, .int .i64 r.1.Ttl, .int .i64 r.1.Proto, .int .u32 r.1.Src, .int .u32 r.1.Dst, .string r.1.Body], Un3.v r.2]) := by
  intro w Z hS
  refine calls_of (args := [.string a0]) (L := [(0, .string a0)]) (N := 98) (S := Sat w Z [] [] Glob) Tryz.func111 rfl rfl (Nat.le_of_ble_eq_true rfl) rfl hS ?_
  have hM := h
  clear h hS
  unfold inet_read.f at hM
  refine WP.less (Φ' := [] ++ Glob) (fun _ h => h) ?_
  refine WP.seq ?_
  refine WP.run [] [0, 2, 3] (fun b1 => [(0, .string a0), (2, .pointer (some ⟨b1, 0, none⟩)), (3, .nilIface)]) (fun b1 => [(b1, .cells #[.int .i64 0, .int .i64 0, .bool false, .bool false, .int .i64 0, .int .i64 0, .int .i64 0, .int .u32 0, .int .u32 0, .string (⟨#[]⟩ : ByteArray)] 91 (0, 0))]) (fun b1 => []) (fun b1 => by kernel_rfl) (fun b1 => ?_)
  refine WP.seq ?_
  refine WP.block ?_
  refine WP.seq ?_
  refine WP.run [] [0, 2, 3, 11] (fun _ => [(0, .string a0), (2, .pointer (some ⟨b1, 0, none⟩)), (3, .nilIface), (11, .bool (decide ((a0.size : Int) < 20)))]) (fun _ => [(b1, .cells #[.int .i64 0, .int .i64 0, .bool false, .bool false, .int .i64 0, .int .i64 0, .int .i64 0, .int .u32 0, .int .u32 0, .string (⟨#[]⟩ : ByteArray)] 91 (0, 0))]) (fun _ => []) (fun _ => by kernel_rfl) (fun _ => ?_)
  refine WP.cond (decide ((a0.size : Int) < 20)) rfl rfl (fun c2 => ?_) (fun c2 => ?_)
  · replace hM := cond_t hM c2
    refine WP.seq ?_
    refine WP.run [0, 0, 0, 0, 0, 0, 0, 0, 0, 0] [0, 2, 3] (fun _ => [(0, .string a0), (2, .pointer (some ⟨b1, 0, none⟩)), (3, .iface 188 (.agg #[.int .i64 60]))]) (fun _ => [(b1, .cells #[.int .i64 0, .int .i64 0, .bool false, .bool false, .int .i64 0, .int .i64 0, .int .i64 0, .int .u32 0, .int .u32 0, .string (⟨#[]⟩ : ByteArray)] 91 (0, 0))]) (fun _ => [b1, b1, b1, b1, b1, b1, b1, b1, b1, b1]) (fun _ => by kernel_rfl) (fun _ => ?_)
    obtain rfl := Option.some.inj hM
    exact WP.ret [0, 0, 0, 0, 0, 0, 0, 0, 0, 0] [b1, b1, b1, b1, b1, b1, b1, b1, b1, b1] (.tuple #[.agg #[.int .i64 0, .int .i64 0, .bool false, .bool false, .int .i64 0, .int .i64 0, .int .i64 0, .int .u32 0, .int .u32 0, .string (⟨#[]⟩ : ByteArray)], .iface 188 (.agg #[.int .i64 60])]) (by kernel_rfl) (fun w' hw => ⟨rfl, (hw.pick [] rfl).less (fun _ h => List.mem_append_right _ h)⟩)
  · replace hM := cond_f hM c2
    refine WP.seq ?_
    refine WP.region ?_
    refine WL.run 1 [] [0, 2, 3, 19] (fun _ => [(0, .string a0), (2, .pointer (some ⟨b1, 0, none⟩)), (3, .nilIface), (19, .string a0)]) (fun _ => [(b1, .cells #[.int .i64 0, .int .i64 0, .bool false, .bool false, .int .i64 0, .int .i64 0, .int .i64 0, .int .u32 0, .int .u32 0, .string (⟨#[]⟩ : ByteArray)] 91 (0, 0))]) (fun _ => []) (fun _ => by kernel_rfl) (fun _ => ?_)
    obtain ⟨t3, h4, hM⟩ := bind_some hM
    refine WL.val (fun _ => run_idxS (s := a0) (k := .i64) (i := 0) (by kernel_rfl) (by kernel_rfl) (by kernel_rfl) h4) (by kernel_rfl) (by kernel_rfl) rfl ?_
    refine WL.run 2 [] [0, 2, 3, 18] (fun _ => [(0, .string a0), (2, .pointer (some ⟨b1, 0, none⟩)), (3, .nilIface), (18, .bool (t3 != 69))]) (fun _ => [(b1, .cells #[.int .i64 0, .int .i64 0, .bool false, .bool false, .int .i64 0, .int .i64 0, .int .i64 0, .int .u32 0, .int .u32 0, .string (⟨#[]⟩ : ByteArray)] 91 (0, 0))]) (fun _ => []) (fun _ => by kernel_rfl) (fun _ => ?_)
    refine WP.done ?_
    refine WP.cond (t3 != 69) rfl rfl (fun c5 => ?_) (fun c5 => ?_)
    · replace hM := cond_t hM c5
      refine WP.seq ?_
      refine WP.run [0, 0, 0, 0, 0, 0, 0, 0, 0, 0] [0, 2, 3] (fun _ => [(0, .string a0), (2, .pointer (some ⟨b1, 0, none⟩)), (3, .iface 188 (.agg #[.int .i64 61]))]) (fun _ => [(b1, .cells #[.int .i64 0, .int .i64 0, .bool false, .bool false, .int .i64 0, .int .i64 0, .int .i64 0, .int .u32 0, .int .u32 0, .string (⟨#[]⟩ : ByteArray)] 91 (0, 0))]) (fun _ => [b1, b1, b1, b1, b1, b1, b1, b1, b1, b1]) (fun _ => by kernel_rfl) (fun _ => ?_)
      obtain rfl := Option.some.inj hM
      exact WP.ret [0, 0, 0, 0, 0, 0, 0, 0, 0, 0] [b1, b1, b1, b1, b1, b1, b1, b1, b1, b1] (.tuple #[.agg #[.int .i64 0, .int .i64 0, .bool false, .bool false, .int .i64 0, .int .i64 0, .int .i64 0, .int .u32 0, .int .u32 0, .string (⟨#[]⟩ : ByteArray)], .iface 188 (.agg #[.int .i64 61])]) (by kernel_rfl) (fun w' hw => ⟨rfl, (hw.pick [] rfl).less (fun _ h => List.mem_append_right _ h)⟩)
    · replace hM := cond_f hM c5
      refine WP.seq ?_
      refine WP.region ?_
      refine WL.run 1 [] [0, 2, 3, 26] (fun _ => [(0, .string a0), (2, .pointer (some ⟨b1, 0, none⟩)), (3, .nilIface), (26, .string a0)]) (fun _ => [(b1, .cells #[.int .i64 0, .int .i64 0, .bool false, .bool false, .int .i64 0, .int .i64 0, .int .i64 0, .int .u32 0, .int .u32 0, .string (⟨#[]⟩ : ByteArray)] 91 (0, 0))]) (fun _ => []) (fun _ => by kernel_rfl) (fun _ => ?_)
      obtain ⟨t6, h7, hM⟩ := bind_some hM
      refine WL.val (fun _ => run_sliceS_hi (s := a0) (kh := .i64) (h := 20) (by kernel_rfl) (by kernel_rfl) (by kernel_rfl) h7) (by kernel_rfl) (by kernel_rfl) rfl ?_
      refine WL.run 1 [] [0, 2, 3, 28] (fun b8 => [(0, .string a0), (2, .pointer (some ⟨b1, 0, none⟩)), (3, .nilIface), (28, .slice (some ⟨b8, 0, none⟩) 1 1)]) (fun b8 => [(b1, .cells #[.int .i64 0, .int .i64 0, .bool false, .bool false, .int .i64 0, .int .i64 0, .int .i64 0, .int .u32 0, .int .u32 0, .string (⟨#[]⟩ : ByteArray)] 91 (0, 0)), (b8, .cells #[.string t6] 9 (0, 0))]) (fun b8 => []) (fun b8 => by kernel_rfl) (fun b8 => ?_)
      refine WL.ice (H' := [(b1, .cells #[.int .i64 0, .int .i64 0, .bool false, .bool false, .int .i64 0, .int .i64 0, .int .i64 0, .int .u32 0, .int .u32 0, .string (⟨#[]⟩ : ByteArray)] 91 (0, 0))]) (Row 1 (pl encS) noK (SkL.at b8 1 (fun _ => ())) ([t6] : List ByteArray)) 1 (b := b8) (ob := .cells #[.string t6] 9 (0, 0)) (by kernel_rfl) [] [] (by kernel_rfl) (fun w hb hψ => row_of_block hb (fun _ _ => rfl) ⟨[], by kernel_rfl⟩ (Nat.le_of_ble_eq_true rfl) (InK.no _ _)) (by kernel_rfl) ?_
      obtain ⟨r9, h10, hM⟩ := bind_some hM
      refine WL.callP [] [] (csum_Right_calls k (SkL.at b8 1 (fun _ => ())) ([t6] : List ByteArray) _ h10) (sub_pick [0] (by kernel_rfl)) (by kernel_rfl) (by kernel_rfl) rfl ?_
      refine WL.run 2 [] [0, 2, 3, 25] (fun _ => [(0, .string a0), (2, .pointer (some ⟨b1, 0, none⟩)), (3, .nilIface), (25, .bool (!r9))]) (fun _ => [(b1, .cells #[.int .i64 0, .int .i64 0, .bool false, .bool false, .int .i64 0, .int .i64 0, .int .i64 0, .int .u32 0, .int .u32 0, .string (⟨#[]⟩ : ByteArray)] 91 (0, 0))]) (fun _ => []) (fun _ => by kernel_rfl) (fun _ => ?_)
      refine WP.done ?_
      refine WP.cond (!r9) rfl rfl (fun c11 => ?_) (fun c11 => ?_)
      · replace hM := cond_t hM c11
        refine WP.seq ?_
        refine WP.run [0, 0, 0, 0, 0, 0, 0, 0, 0, 0] [0, 2, 3] (fun _ => [(0, .string a0), (2, .pointer (some ⟨b1, 0, none⟩)), (3, .iface 188 (.agg #[.int .i64 62]))]) (fun _ => [(b1, .cells #[.int .i64 0, .int .i64 0, .bool false, .bool false, .int .i64 0, .int .i64 0, .int .i64 0, .int .u32 0, .int .u32 0, .string (⟨#[]⟩ : ByteArray)] 91 (0, 0))]) (fun _ => [b1, b1, b1, b1, b1, b1, b1, b1, b1, b1]) (fun _ => by kernel_rfl) (fun _ => ?_)
        obtain rfl := Option.some.inj hM
        exact WP.ret [0, 0, 0, 0, 0, 0, 0, 0, 0, 0] [b1, b1, b1, b1, b1, b1, b1, b1, b1, b1] (.tuple #[.agg #[.int .i64 0, .int .i64 0, .bool false, .bool false, .int .i64 0, .int .i64 0, .int .i64 0, .int .u32 0, .int .u32 0, .string (⟨#[]⟩ : ByteArray)], .iface 188 (.agg #[.int .i64 62])]) (by kernel_rfl) (fun w' hw => ⟨rfl, (hw.pick [] rfl).less (fun _ h => List.mem_append_right _ h)⟩)
      · replace hM := cond_f hM c11
        refine WP.skip ?_
        refine WP.leave ?_
        refine WP.seq ?_
        refine WP.region ?_
        refine WL.run 1 [] [0, 2, 3, 34] (fun _ => [(0, .string a0), (2, .pointer (some ⟨b1, 0, none⟩)), (3, .nilIface), (34, .string a0)]) (fun _ => [(b1, .cells #[.int .i64 0, .int .i64 0, .bool false, .bool false, .int .i64 0, .int .i64 0, .int .i64 0, .int .u32 0, .int .u32 0, .string (⟨#[]⟩ : ByteArray)] 91 (0, 0))]) (fun _ => []) (fun _ => by kernel_rfl) (fun _ => ?_)
        obtain ⟨r12, h13, hM⟩ := bind_some hM
        refine WL.callP [] [] (inet_get_calls a0 2 _ h13) (fun _ h => List.mem_append_right _ h) (by kernel_rfl) (by kernel_rfl) rfl ?_
        refine WL.run 1 [] [0, 2, 3, 35, 36] (fun _ => [(0, .string a0), (2, .pointer (some ⟨b1, 0, none⟩)), (3, .nilIface), (35, .int .i64 r12), (36, .string a0)]) (fun _ => [(b1, .cells #[.int .i64 0, .int .i64 0, .bool false, .bool false, .int .i64 0, .int .i64 0, .int .i64 0, .int .u32 0, .int .u32 0, .string (⟨#[]⟩ : ByteArray)] 91 (0, 0))]) (fun _ => []) (fun _ => by kernel_rfl) (fun _ => ?_)
        obtain ⟨r14, h15, hM⟩ := bind_some hM
        refine WL.callP [] [] (inet_get_calls a0 6 _ h15) (fun _ h => List.mem_append_right _ h) (by kernel_rfl) (by kernel_rfl) rfl ?_
        refine WL.run 2 [] [0, 2, 3, 4, 5] (fun _ => [(0, .string a0), (2, .pointer (some ⟨b1, 0, none⟩)), (3, .nilIface), (4, .int .i64 r12), (5, .int .i64 r14)]) (fun _ => [(b1, .cells #[.int .i64 0, .int .i64 0, .bool false, .bool false, .int .i64 0, .int .i64 0, .int .i64 0, .int .u32 0, .int .u32 0, .string (⟨#[]⟩ : ByteArray)] 91 (0, 0))]) (fun _ => []) (fun _ => by kernel_rfl) (fun _ => ?_)
        refine WP.done ?_
        refine WP.seq ?_
        refine WP.block ?_
        refine WP.seq ?_
        refine WP.region ?_
        refine WL.run 3 [] [0, 2, 3, 4, 5, 41] (fun _ => [(0, .string a0), (2, .pointer (some ⟨b1, 0, none⟩)), (3, .nilIface), (4, .int .i64 r12), (5, .int .i64 r14), (41, .bool (decide (r12 < 20)))]) (fun _ => [(b1, .cells #[.int .i64 0, .int .i64 0, .bool false, .bool false, .int .i64 0, .int .i64 0, .int .i64 0, .int .u32 0, .int .u32 0, .string (⟨#[]⟩ : ByteArray)] 91 (0, 0))]) (fun _ => []) (fun _ => by kernel_rfl) (fun _ => ?_)
        refine WL.sub [0, 2, 3, 4, 5, 41] (L' := [(0, .string a0), (2, .pointer (some ⟨b1, 0, none⟩)), (3, .nilIface), (4, .int .i64 r12), (5, .int .i64 r14), (41, .bool (decide (r12 < 20)))]) (by kernel_rfl) ?_
        refine WL.both (fun b' => [(0, .string a0), (2, .pointer (some ⟨b1, 0, none⟩)), (3, .nilIface), (4, .int .i64 r12), (5, .int .i64 r14), (41, .bool b')]) (decide (r12 < 20)) 4 [] [] [0, 2, 3, 4, 5, 45] (fun b' => [(0, .string a0), (2, .pointer (some ⟨b1, 0, none⟩)), (3, .nilIface), (4, .int .i64 r12), (5, .int .i64 r14), (45, .bool (b' || ((bAnd .i64 r14 32768) != 0)))]) [] [] (fun _ => by kernel_rfl) (fun _ => by kernel_rfl) ?_
        refine WL.run 1 [] [0, 2, 3, 4, 5, 38] (fun _ => [(0, .string a0), (2, .pointer (some ⟨b1, 0, none⟩)), (3, .nilIface), (4, .int .i64 r12), (5, .int .i64 r14), (38, .bool ((decide (r12 < 20)) || ((bAnd .i64 r14 32768) != 0)))]) (fun _ => [(b1, .cells #[.int .i64 0, .int .i64 0, .bool false, .bool false, .int .i64 0, .int .i64 0, .int .i64 0, .int .u32 0, .int .u32 0, .string (⟨#[]⟩ : ByteArray)] 91 (0, 0))]) (fun _ => []) (fun _ => by kernel_rfl) (fun _ => ?_)
        refine WP.done ?_
        refine WP.cond ((decide (r12 < 20)) || ((bAnd .i64 r14 32768) != 0)) rfl rfl (fun c16 => ?_) (fun c16 => ?_)
        · replace hM := cond_t hM c16
          refine WP.seq ?_
          refine WP.run [0, 0, 0, 0, 0, 0, 0, 0, 0, 0] [0, 2, 3, 4, 5] (fun _ => [(0, .string a0), (2, .pointer (some ⟨b1, 0, none⟩)), (3, .iface 188 (.agg #[.int .i64 61])), (4, .int .i64 r12), (5, .int .i64 r14)]) (fun _ => [(b1, .cells #[.int .i64 0, .int .i64 0, .bool false, .bool false, .int .i64 0, .int .i64 0, .int .i64 0, .int .u32 0, .int .u32 0, .string (⟨#[]⟩ : ByteArray)] 91 (0, 0))]) (fun _ => [b1, b1, b1, b1, b1, b1, b1, b1, b1, b1]) (fun _ => by kernel_rfl) (fun _ => ?_)
          obtain rfl := Option.some.inj hM
          exact WP.ret [0, 0, 0, 0, 0, 0, 0, 0, 0, 0] [b1, b1, b1, b1, b1, b1, b1, b1, b1, b1] (.tuple #[.agg #[.int .i64 0, .int .i64 0, .bool false, .bool false, .int .i64 0, .int .i64 0, .int .i64 0, .int .u32 0, .int .u32 0, .string (⟨#[]⟩ : ByteArray)], .iface 188 (.agg #[.int .i64 61])]) (by kernel_rfl) (fun w' hw => ⟨rfl, (hw.pick [] rfl).less (fun _ h => List.mem_append_right _ h)⟩)
        · replace hM := cond_f hM c16
          refine WP.seq ?_
          refine WP.run [] [0, 2, 3, 4, 5, 49] (fun _ => [(0, .string a0), (2, .pointer (some ⟨b1, 0, none⟩)), (3, .nilIface), (4, .int .i64 r12), (5, .int .i64 r14), (49, .bool (decide (r12 > (a0.size : Int))))]) (fun _ => [(b1, .cells #[.int .i64 0, .int .i64 0, .bool false, .bool false, .int .i64 0, .int .i64 0, .int .i64 0, .int .u32 0, .int .u32 0, .string (⟨#[]⟩ : ByteArray)] 91 (0, 0))]) (fun _ => []) (fun _ => by kernel_rfl) (fun _ => ?_)
          refine WP.cond (decide (r12 > (a0.size : Int))) rfl rfl (fun c17 => ?_) (fun c17 => ?_)
          · replace hM := cond_t hM c17
            refine WP.seq ?_
            refine WP.run [0, 0, 0, 0, 0, 0, 0, 0, 0, 0] [0, 2, 3, 4, 5] (fun _ => [(0, .string a0), (2, .pointer (some ⟨b1, 0, none⟩)), (3, .iface 188 (.agg #[.int .i64 60])), (4, .int .i64 r12), (5, .int .i64 r14)]) (fun _ => [(b1, .cells #[.int .i64 0, .int .i64 0, .bool false, .bool false, .int .i64 0, .int .i64 0, .int .i64 0, .int .u32 0, .int .u32 0, .string (⟨#[]⟩ : ByteArray)] 91 (0, 0))]) (fun _ => [b1, b1, b1, b1, b1, b1, b1, b1, b1, b1]) (fun _ => by kernel_rfl) (fun _ => ?_)
            obtain rfl := Option.some.inj hM
            exact WP.ret [0, 0, 0, 0, 0, 0, 0, 0, 0, 0] [b1, b1, b1, b1, b1, b1, b1, b1, b1, b1] (.tuple #[.agg #[.int .i64 0, .int .i64 0, .bool false, .bool false, .int .i64 0, .int .i64 0, .int .i64 0, .int .u32 0, .int .u32 0, .string (⟨#[]⟩ : ByteArray)], .iface 188 (.agg #[.int .i64 60])]) (by kernel_rfl) (fun w' hw => ⟨rfl, (hw.pick [] rfl).less (fun _ h => List.mem_append_right _ h)⟩)
          · replace hM := cond_f hM c17
            refine WP.skip ?_
            refine WP.leave ?_
            refine WP.seq ?_
            refine WP.region ?_
            refine WL.run 1 [] [0, 2, 3, 4, 5, 58] (fun _ => [(0, .string a0), (2, .pointer (some ⟨b1, 0, none⟩)), (3, .nilIface), (4, .int .i64 r12), (5, .int .i64 r14), (58, .string a0)]) (fun _ => [(b1, .cells #[.int .i64 0, .int .i64 0, .bool false, .bool false, .int .i64 0, .int .i64 0, .int .i64 0, .int .u32 0, .int .u32 0, .string (⟨#[]⟩ : ByteArray)] 91 (0, 0))]) (fun _ => []) (fun _ => by kernel_rfl) (fun _ => ?_)
            obtain ⟨⟨r18, r19⟩, h20, hM⟩ := bind_some hM
            dsimp only at hM
            refine WL.callP [] [] (octets_Get_calls k a0 12 4 _ h20) (fun _ h => List.mem_append_right _ h) (by kernel_rfl) (by kernel_rfl) rfl ?_
            refine WL.run 5 [] [0, 2, 3, 4, 5, 6] (fun _ => [(0, .string a0), (2, .pointer (some ⟨b1, 0, none⟩)), (3, .nilIface), (4, .int .i64 r12), (5, .int .i64 r14), (6, .int .u64 r18)]) (fun _ => [(b1, .cells #[.int .i64 0, .int .i64 0, .bool false, .bool false, .int .i64 0, .int .i64 0, .int .i64 0, .int .u32 0, .int .u32 0, .string (⟨#[]⟩ : ByteArray)] 91 (0, 0))]) (fun _ => []) (fun _ => by kernel_rfl) (fun _ => ?_)
            refine WP.done ?_
            refine WP.seq ?_
            refine WP.region ?_
            refine WL.run 1 [] [0, 2, 3, 4, 5, 6, 63] (fun _ => [(0, .string a0), (2, .pointer (some ⟨b1, 0, none⟩)), (3, .nilIface), (4, .int .i64 r12), (5, .int .i64 r14), (6, .int .u64 r18), (63, .string a0)]) (fun _ => [(b1, .cells #[.int .i64 0, .int .i64 0, .bool false, .bool false, .int .i64 0, .int .i64 0, .int .i64 0, .int .u32 0, .int .u32 0, .string (⟨#[]⟩ : ByteArray)] 91 (0, 0))]) (fun _ => []) (fun _ => by kernel_rfl) (fun _ => ?_)
            obtain ⟨⟨r21, r22⟩, h23, hM⟩ := bind_some hM
            dsimp only at hM
            refine WL.callP [] [] (octets_Get_calls k a0 16 4 _ h23) (fun _ h => List.mem_append_right _ h) (by kernel_rfl) (by kernel_rfl) rfl ?_
            refine WL.run 5 [] [0, 2, 3, 4, 5, 6, 8] (fun _ => [(0, .string a0), (2, .pointer (some ⟨b1, 0, none⟩)), (3, .nilIface), (4, .int .i64 r12), (5, .int .i64 r14), (6, .int .u64 r18), (8, .int .u64 r21)]) (fun _ => [(b1, .cells #[.int .i64 0, .int .i64 0, .bool false, .bool false, .int .i64 0, .int .i64 0, .int .i64 0, .int .u32 0, .int .u32 0, .string (⟨#[]⟩ : ByteArray)] 91 (0, 0))]) (fun _ => []) (fun _ => by kernel_rfl) (fun _ => ?_)
            refine WP.done ?_
            refine WP.seq ?_
            obtain ⟨t25, h26, hM⟩ := bind_some hM
            obtain ⟨r27, h28, hM⟩ := bind_some hM
            obtain ⟨t29, h30, hM⟩ := bind_some hM
            obtain ⟨t31, h32, hM⟩ := bind_some hM
            refine WP.sub [0, 2, 3, 4, 5, 6, 8] (L' := [(0, .string a0), (2, .pointer (some ⟨b1, 0, none⟩)), (3, .nilIface), (4, .int .i64 r12), (5, .int .i64 r14), (6, .int .u64 r18), (8, .int .u64 r21)]) (by kernel_rfl) ?_
            refine WP.mixed (X := Unit) 21 [.val (.string a0), .val (.int .u8 t25), .val (.int .i64 (i64 t25)), .val (.string a0), .val (.int .i64 r27), .val (.int .i64 r14), .val (.int .i64 (bAnd .i64 r14 16384)), .val (.bool ((bAnd .i64 r14 16384) != 0)), .val (.int .i64 r14), .val (.int .i64 (bAnd .i64 r14 8192)), .val (.bool ((bAnd .i64 r14 8192) != 0)), .val (.int .i64 r14), .val (.int .i64 (Int.tmod r14 8192)), .val (.string a0), .val (.int .u8 t29), .val (.int .i64 (i64 t29)), .val (.string a0), .val (.int .u8 t31), .val (.int .i64 (i64 t31)), .val (.agg #[.int .i64 (i64 t25), .int .i64 r27, .bool ((bAnd .i64 r14 16384) != 0), .bool ((bAnd .i64 r14 8192) != 0), .int .i64 (Int.tmod r14 8192), .int .i64 (i64 t29), .int .i64 (i64 t31), .int .u32 0, .int .u32 0, .string (⟨#[]⟩ : ByteArray)]), .alloc (.cells #[.int .i64 0, .int .i64 0, .bool false, .bool false, .int .i64 0, .int .i64 0, .int .i64 0, .int .u32 0, .int .u32 0, .string (⟨#[]⟩ : ByteArray)] 91 (0, 0)) (fun b => .pointer (some ⟨b, 0, none⟩))] [(b1, .cells #[.int .i64 0, .int .i64 0, .bool false, .bool false, .int .i64 0, .int .i64 0, .int .i64 0, .int .u32 0, .int .u32 0, .string (⟨#[]⟩ : ByteArray)] 91 (0, 0))] [] (by kernel_rfl) (by kernel_rfl) (by kernel_rfl) (by kernel_rfl) (Heads.val (fun tt Ψ => OpV.run [] [] (by kernel_rfl) (fun _ => by kernel_rfl)) (Heads.val (fun tt Ψ => OpV.val (fun _ => run_idxS (s := a0) (k := .i64) (i := 1) (by kernel_rfl) (by kernel_rfl) (by kernel_rfl) h26) (by kernel_rfl)) (Heads.val (fun tt Ψ => OpV.run [] [] (by kernel_rfl) (fun _ => by kernel_rfl)) (Heads.val (fun tt Ψ => OpV.run [] [] (by kernel_rfl) (fun _ => by kernel_rfl)) (Heads.val (fun tt Ψ => OpV.callF [] [] (fun _ h => (List.mem_append_right _ (List.mem_append_right _ h))) (inet_get_calls a0 4 _ h28)  (fun _ => by kernel_rfl)) (Heads.val (fun tt Ψ => OpV.run [] [] (by kernel_rfl) (fun _ => by kernel_rfl)) (Heads.val (fun tt Ψ => OpV.run [] [] (by kernel_rfl) (fun _ => by kernel_rfl)) (Heads.val (fun tt Ψ => OpV.run [] [] (by kernel_rfl) (fun _ => by kernel_rfl)) (Heads.val (fun tt Ψ => OpV.run [] [] (by kernel_rfl) (fun _ => by kernel_rfl)) (Heads.val (fun tt Ψ => OpV.run [] [] (by kernel_rfl) (fun _ => by kernel_rfl)) (Heads.val (fun tt Ψ => OpV.run [] [] (by kernel_rfl) (fun _ => by kernel_rfl)) (Heads.val (fun tt Ψ => OpV.run [] [] (by kernel_rfl) (fun _ => by kernel_rfl)) (Heads.val (fun tt Ψ => OpV.run [] [] (by kernel_rfl) (fun _ => by kernel_rfl)) (Heads.val (fun tt Ψ => OpV.run [] [] (by kernel_rfl) (fun _ => by kernel_rfl)) (Heads.val (fun tt Ψ => OpV.val (fun _ => run_idxS (s := a0) (k := .i64) (i := 8) (by kernel_rfl) (by kernel_rfl) (by kernel_rfl) h30) (by kernel_rfl)) (Heads.val (fun tt Ψ => OpV.run [] [] (by kernel_rfl) (fun _ => by kernel_rfl)) (Heads.val (fun tt Ψ => OpV.run [] [] (by kernel_rfl) (fun _ => by kernel_rfl)) (Heads.val (fun tt Ψ => OpV.val (fun _ => run_idxS (s := a0) (k := .i64) (i := 9) (by kernel_rfl) (by kernel_rfl) (by kernel_rfl) h32) (by kernel_rfl)) (Heads.val (fun tt Ψ => OpV.run [] [] (by kernel_rfl) (fun _ => by kernel_rfl)) (Heads.val (fun tt Ψ => OpV.run [] [] (by kernel_rfl) (fun _ => by kernel_rfl)) (Heads.alloc (fun _ => by kernel_rfl) (fun _ _ => by kernel_rfl) Heads.nil))))))))))))))))))))) (fun s24 tt => [(67, .string a0), (68, .int .u8 t25), (69, .int .i64 (i64 t25)), (70, .string a0), (71, .int .i64 r27), (72, .int .i64 r14), (73, .int .i64 (bAnd .i64 r14 16384)), (74, .bool ((bAnd .i64 r14 16384) != 0)), (75, .int .i64 r14), (76, .int .i64 (bAnd .i64 r14 8192)), (77, .bool ((bAnd .i64 r14 8192) != 0)), (78, .int .i64 r14), (79, .int .i64 (Int.tmod r14 8192)), (80, .string a0), (81, .int .u8 t29), (82, .int .i64 (i64 t29)), (83, .string a0), (84, .int .u8 t31), (85, .int .i64 (i64 t31)), (86, .agg #[.int .i64 (i64 t25), .int .i64 r27, .bool ((bAnd .i64 r14 16384) != 0), .bool ((bAnd .i64 r14 8192) != 0), .int .i64 (Int.tmod r14 8192), .int .i64 (i64 t29), .int .i64 (i64 t31), .int .u32 0, .int .u32 0, .string (⟨#[]⟩ : ByteArray)]), (10, .pointer (some ⟨(s24 20), 0, none⟩)), (0, .string a0), (2, .pointer (some ⟨b1, 0, none⟩)), (3, .nilIface), (4, .int .i64 r12), (5, .int .i64 r14), (6, .int .u64 r18), (8, .int .u64 r21)]) (fun s24 tt => [(b1, .cells #[.int .i64 0, .int .i64 0, .bool false, .bool false, .int .i64 0, .int .i64 0, .int .i64 0, .int .u32 0, .int .u32 0, .string (⟨#[]⟩ : ByteArray)] 91 (0, 0)), ((s24 20), .cells #[.int .i64 0, .int .i64 0, .bool false, .bool false, .int .i64 0, .int .i64 0, .int .i64 0, .int .u32 0, .int .u32 0, .string (⟨#[]⟩ : ByteArray)] 91 (0, 0))]) (fun tt => ([] ++ [Row 1 (pl encS) noK (SkL.at b8 1 (fun _ => ())) ([t6] : List ByteArray)]) ++ Glob) (fun _ _ => by kernel_rfl) (fun _ _ => by kernel_rfl) (fun _ => by kernel_rfl) (fun s24 tt => ?_)
            generalize s24 20 = b33
            refine WL.run 1 [1, 1, 1, 1, 1, 1, 1, 1, 1, 1] [0, 2, 3, 4, 6, 8, 10] (fun _ => [(0, .string a0), (2, .pointer (some ⟨b1, 0, none⟩)), (3, .nilIface), (4, .int .i64 r12), (6, .int .u64 r18), (8, .int .u64 r21), (10, .pointer (some ⟨b33, 0, none⟩))]) (fun _ => [(b1, .cells #[.int .i64 0, .int .i64 0, .bool false, .bool false, .int .i64 0, .int .i64 0, .int .i64 0, .int .u32 0, .int .u32 0, .string (⟨#[]⟩ : ByteArray)] 91 (0, 0)), (b33, .cells #[.int .i64 (i64 t25), .int .i64 r27, .bool ((bAnd .i64 r14 16384) != 0), .bool ((bAnd .i64 r14 8192) != 0), .int .i64 (Int.tmod r14 8192), .int .i64 (i64 t29), .int .i64 (i64 t31), .int .u32 0, .int .u32 0, .string (⟨#[]⟩ : ByteArray)] 91 (0, 0))]) (fun _ => [b33, b33, b33, b33, b33, b33, b33, b33, b33, b33]) (fun _ => by kernel_rfl) (fun _ => ?_)
            refine WP.done ?_
            refine WP.seq ?_
            obtain ⟨t35, h36, hM⟩ := bind_some hM
            refine WP.sub [0, 2, 3, 4, 6, 8, 10] (L' := [(0, .string a0), (2, .pointer (some ⟨b1, 0, none⟩)), (3, .nilIface), (4, .int .i64 r12), (6, .int .u64 r18), (8, .int .u64 r21), (10, .pointer (some ⟨b33, 0, none⟩))]) (by kernel_rfl) ?_
            refine WP.pick [0, 1] (by kernel_rfl) (by kernel_rfl : _ = [(b1, .cells #[.int .i64 0, .int .i64 0, .bool false, .bool false, .int .i64 0, .int .i64 0, .int .i64 0, .int .u32 0, .int .u32 0, .string (⟨#[]⟩ : ByteArray)] 91 (0, 0)), (b33, .cells #[.int .i64 (i64 t25), .int .i64 r27, .bool ((bAnd .i64 r14 16384) != 0), .bool ((bAnd .i64 r14 8192) != 0), .int .i64 (Int.tmod r14 8192), .int .i64 (i64 t29), .int .i64 (i64 t31), .int .u32 0, .int .u32 0, .string (⟨#[]⟩ : ByteArray)] 91 (0, 0))]) ?_
            refine WP.mixed (X := Unit) 11 [.val (.int .u64 r18), .val (.int .u32 (u32 r18)), .val (.int .u64 r21), .val (.int .u32 (u32 r21)), .val (.string a0), .val (.int .i64 r12), .val (.string t35), .val (.pointer (some ⟨b33, 7, none⟩)), .put 11 [] (fun tt => .cells #[.int .i64 (i64 t25), .int .i64 r27, .bool ((bAnd .i64 r14 16384) != 0), .bool ((bAnd .i64 r14 8192) != 0), .int .i64 (Int.tmod r14 8192), .int .i64 (i64 t29), .int .i64 (i64 t31), .int .u32 (u32 r18), .int .u32 0, .string (⟨#[]⟩ : ByteArray)] 91 (0, 0)), .val (.pointer (some ⟨b33, 8, none⟩)), .put 11 [] (fun tt => .cells #[.int .i64 (i64 t25), .int .i64 r27, .bool ((bAnd .i64 r14 16384) != 0), .bool ((bAnd .i64 r14 8192) != 0), .int .i64 (Int.tmod r14 8192), .int .i64 (i64 t29), .int .i64 (i64 t31), .int .u32 (u32 r18), .int .u32 (u32 r21), .string (⟨#[]⟩ : ByteArray)] 91 (0, 0))] [(b1, .cells #[.int .i64 0, .int .i64 0, .bool false, .bool false, .int .i64 0, .int .i64 0, .int .i64 0, .int .u32 0, .int .u32 0, .string (⟨#[]⟩ : ByteArray)] 91 (0, 0))] [(b33, .cells #[.int .i64 (i64 t25), .int .i64 r27, .bool ((bAnd .i64 r14 16384) != 0), .bool ((bAnd .i64 r14 8192) != 0), .int .i64 (Int.tmod r14 8192), .int .i64 (i64 t29), .int .i64 (i64 t31), .int .u32 0, .int .u32 0, .string (⟨#[]⟩ : ByteArray)] 91 (0, 0))] (by kernel_rfl) (by kernel_rfl) (by kernel_rfl) (by kernel_rfl) (Heads.val (fun tt Ψ => OpV.run [] [] (by kernel_rfl) (fun _ => by kernel_rfl)) (Heads.val (fun tt Ψ => OpV.run [] [] (by kernel_rfl) (fun _ => by kernel_rfl)) (Heads.val (fun tt Ψ => OpV.run [] [] (by kernel_rfl) (fun _ => by kernel_rfl)) (Heads.val (fun tt Ψ => OpV.run [] [] (by kernel_rfl) (fun _ => by kernel_rfl)) (Heads.val (fun tt Ψ => OpV.run [] [] (by kernel_rfl) (fun _ => by kernel_rfl)) (Heads.val (fun tt Ψ => OpV.run [] [] (by kernel_rfl) (fun _ => by kernel_rfl)) (Heads.val (fun tt Ψ => OpV.val (fun _ => run_sliceS (s := a0) (kl := .i64) (kh := .i64) (l := 20) (h := r12) (by kernel_rfl) (by kernel_rfl) (by kernel_rfl) (by kernel_rfl) h36) (by kernel_rfl)) (Heads.val (fun tt Ψ => OpV.run [] [] (by kernel_rfl) (fun _ => by kernel_rfl)) (Heads.put (fun x x' h => rfl) 0 b33 (.cells #[.int .i64 (i64 t25), .int .i64 r27, .bool ((bAnd .i64 r14 16384) != 0), .bool ((bAnd .i64 r14 8192) != 0), .int .i64 (Int.tmod r14 8192), .int .i64 (i64 t29), .int .i64 (i64 t31), .int .u32 0, .int .u32 0, .string (⟨#[]⟩ : ByteArray)] 91 (0, 0)) (fun tt => .cells #[.int .i64 (i64 t25), .int .i64 r27, .bool ((bAnd .i64 r14 16384) != 0), .bool ((bAnd .i64 r14 8192) != 0), .int .i64 (Int.tmod r14 8192), .int .i64 (i64 t29), .int .i64 (i64 t31), .int .u32 0, .int .u32 0, .string (⟨#[]⟩ : ByteArray)] 91 (0, 0)) (by kernel_rfl) rfl (fun _ => by kernel_rfl) (fun tt Ψ => OpP.run [1] [b33] (by kernel_rfl) (fun _ _ => by kernel_rfl) (fun _ _ => by kernel_rfl)) (Heads.val (fun tt Ψ => OpV.run [] [] (by kernel_rfl) (fun _ => by kernel_rfl)) (Heads.put (fun x x' h => rfl) 0 b33 (.cells #[.int .i64 (i64 t25), .int .i64 r27, .bool ((bAnd .i64 r14 16384) != 0), .bool ((bAnd .i64 r14 8192) != 0), .int .i64 (Int.tmod r14 8192), .int .i64 (i64 t29), .int .i64 (i64 t31), .int .u32 0, .int .u32 0, .string (⟨#[]⟩ : ByteArray)] 91 (0, 0)) (fun tt => .cells #[.int .i64 (i64 t25), .int .i64 r27, .bool ((bAnd .i64 r14 16384) != 0), .bool ((bAnd .i64 r14 8192) != 0), .int .i64 (Int.tmod r14 8192), .int .i64 (i64 t29), .int .i64 (i64 t31), .int .u32 (u32 r18), .int .u32 0, .string (⟨#[]⟩ : ByteArray)] 91 (0, 0)) (by kernel_rfl) rfl (fun _ => by kernel_rfl) (fun tt Ψ => OpP.run [1] [b33] (by kernel_rfl) (fun _ _ => by kernel_rfl) (fun _ _ => by kernel_rfl)) Heads.nil))))))))))) (fun s34 tt => [(87, .int .u64 r18), (88, .int .u32 (u32 r18)), (89, .int .u64 r21), (90, .int .u32 (u32 r21)), (91, .string a0), (92, .int .i64 r12), (93, .string t35), (94, .pointer (some ⟨b33, 7, none⟩)), (95, .pointer (some ⟨b33, 8, none⟩)), (0, .string a0), (2, .pointer (some ⟨b1, 0, none⟩)), (3, .nilIface), (4, .int .i64 r12), (6, .int .u64 r18), (8, .int .u64 r21), (10, .pointer (some ⟨b33, 0, none⟩))]) (fun s34 tt => [(b1, .cells #[.int .i64 0, .int .i64 0, .bool false, .bool false, .int .i64 0, .int .i64 0, .int .i64 0, .int .u32 0, .int .u32 0, .string (⟨#[]⟩ : ByteArray)] 91 (0, 0)), (b33, .cells #[.int .i64 (i64 t25), .int .i64 r27, .bool ((bAnd .i64 r14 16384) != 0), .bool ((bAnd .i64 r14 8192) != 0), .int .i64 (Int.tmod r14 8192), .int .i64 (i64 t29), .int .i64 (i64 t31), .int .u32 (u32 r18), .int .u32 (u32 r21), .string (⟨#[]⟩ : ByteArray)] 91 (0, 0))]) (fun tt => ([] ++ [Row 1 (pl encS) noK (SkL.at b8 1 (fun _ => ())) ([t6] : List ByteArray)]) ++ Glob) (fun _ _ => by kernel_rfl) (fun _ _ => by kernel_rfl) (fun _ => by kernel_rfl) (fun s34 tt => ?_)
            refine WL.run 2 [1] [2, 3, 10] (fun _ => [(2, .pointer (some ⟨b1, 0, none⟩)), (3, .nilIface), (10, .pointer (some ⟨b33, 0, none⟩))]) (fun _ => [(b1, .cells #[.int .i64 0, .int .i64 0, .bool false, .bool false, .int .i64 0, .int .i64 0, .int .i64 0, .int .u32 0, .int .u32 0, .string (⟨#[]⟩ : ByteArray)] 91 (0, 0)), (b33, .cells #[.int .i64 (i64 t25), .int .i64 r27, .bool ((bAnd .i64 r14 16384) != 0), .bool ((bAnd .i64 r14 8192) != 0), .int .i64 (Int.tmod r14 8192), .int .i64 (i64 t29), .int .i64 (i64 t31), .int .u32 (u32 r18), .int .u32 (u32 r21), .string t35] 91 (0, 0))]) (fun _ => [b33]) (fun _ => by kernel_rfl) (fun _ => ?_)
            refine WP.done ?_
            refine WP.seq ?_
            refine WP.run [1, 1, 1, 1, 1, 1, 1, 1, 1, 1, 0, 0, 0, 0, 0, 0, 0, 0, 0, 0] [2, 3] (fun _ => [(2, .pointer (some ⟨b1, 0, none⟩)), (3, .nilIface)]) (fun _ => [(b1, .cells #[.int .i64 (i64 t25), .int .i64 r27, .bool ((bAnd .i64 r14 16384) != 0), .bool ((bAnd .i64 r14 8192) != 0), .int .i64 (Int.tmod r14 8192), .int .i64 (i64 t29), .int .i64 (i64 t31), .int .u32 (u32 r18), .int .u32 (u32 r21), .string t35] 91 (0, 0)), (b33, .cells #[.int .i64 (i64 t25), .int .i64 r27, .bool ((bAnd .i64 r14 16384) != 0), .bool ((bAnd .i64 r14 8192) != 0), .int .i64 (Int.tmod r14 8192), .int .i64 (i64 t29), .int .i64 (i64 t31), .int .u32 (u32 r18), .int .u32 (u32 r21), .string t35] 91 (0, 0))]) (fun _ => [b1, b1, b1, b1, b1, b1, b1, b1, b1, b1, b33, b33, b33, b33, b33, b33, b33, b33, b33, b33]) (fun _ => by kernel_rfl) (fun _ => ?_)
            refine WP.keep [true, false] (by kernel_rfl : _ = [(b1, .cells #[.int .i64 (i64 t25), .int .i64 r27, .bool ((bAnd .i64 r14 16384) != 0), .bool ((bAnd .i64 r14 8192) != 0), .int .i64 (Int.tmod r14 8192), .int .i64 (i64 t29), .int .i64 (i64 t31), .int .u32 (u32 r18), .int .u32 (u32 r21), .string t35] 91 (0, 0))]) ?_
            obtain rfl := Option.some.inj hM
            exact WP.ret [0, 0, 0, 0, 0, 0, 0, 0, 0, 0] [b1, b1, b1, b1, b1, b1, b1, b1, b1, b1] (.tuple #[.agg #[.int .i64 (i64 t25), .int .i64 r27, .bool ((bAnd .i64 r14 16384) != 0), .bool ((bAnd .i64 r14 8192) != 0), .int .i64 (Int.tmod r14 8192), .int .i64 (i64 t29), .int .i64 (i64 t31), .int .u32 (u32 r18), .int .u32 (u32 r21), .string t35], .nilIface]) (by kernel_rfl) (fun w' hw => ⟨rfl, (hw.pick [] rfl).less (fun _ h => List.mem_append_right _ h)⟩)

end Go.Proofs.YtbodofjnfmjbpaaGreatDoor

namespace Go.Proofs.YtbodofjnfmjbpaaGreatDoor
open Go Eng
set_option linter.unusedVariables false
set_option linter.unusedSimpArgs false

/-! ### (gangway/inet.odd).Unwrap: function 165 -/
def inet_odd_Unwrap.f (a0 : inet_odd) : Option (Int) :=
  some a0.err

set_option maxRecDepth 100000 in
theorem inet_odd_Unwrap_calls (a0 : inet_odd) (r : Int) (h : inet_odd_Unwrap.f a0 = some r) : Pure Tryz.prog Glob 165 #[.agg #[.int .i64 a0.err]] (.iface 30 (.int .i64 r)) := by
  intro w Z hS
  refine calls_of (args := [.agg #[.int .i64 a0.err]]) (L := [(0, .agg #[.int .i64 a0.err])]) (N := 6) (S := Sat w Z [] [] Glob) Tryz.func165 rfl rfl (Nat.le_of_ble_eq_true rfl) rfl hS ?_
  have hM := h
  clear h hS
  unfold inet_odd_Unwrap.f at hM
  refine WP.seq ?_
  refine WP.run [] [1, 2] (fun b1 => [(1, .pointer (some ⟨b1, 0, none⟩)), (2, .nilIface)]) (fun b1 => [(b1, .cells #[.int .i64 a0.err] 188 (0, 0))]) (fun b1 => []) (fun b1 => by kernel_rfl) (fun b1 => ?_)
  refine WP.seq ?_
  refine WP.run [0] [2] (fun _ => [(2, .iface 30 (.int .i64 a0.err))]) (fun _ => [(b1, .cells #[.int .i64 a0.err] 188 (0, 0))]) (fun _ => [b1]) (fun _ => by kernel_rfl) (fun _ => ?_)
  refine WP.keep [false] (by kernel_rfl : _ = []) ?_
  obtain rfl := Option.some.inj hM
  exact WP.ret [] [] (.iface 30 (.int .i64 a0.err)) (by kernel_rfl) (fun w' hw => ⟨rfl, hw.pick [] rfl⟩)

end Go.Proofs.YtbodofjnfmjbpaaGreatDoor

namespace Go.Proofs.YtbodofjnfmjbpaaGreatDoor
open Go Eng
set_option linter.unusedVariables false
set_option linter.unusedSimpArgs false

/-! ### errors.as: function 62 -/
def errors_as_2.f (a0 : inet_odd) (a1 : Int) : Option (Bool × Int) :=
  (inet_odd_Unwrap.f a0).bind fun r3 =>
  some (true, r3)

set_option maxRecDepth 100000 in
theorem errors_as_2_calls (b_0 : Nat) (b_1 : Nat) (a0 : inet_odd) (a1 : Int) (r : Bool × Int) (h : errors_as_2.f a0 a1 = some r) : Does Tryz.prog 62 #[.iface 188 (.agg #[.int .i64 a0.err]), .iface 175 (.pointer (some ⟨b_0, 0, none⟩)), .agg #[.pointer (some ⟨2, 175, none⟩), .pointer (some ⟨b_1, 0, none⟩), .int .u64 150], .iface 148 (.agg #[.pointer (some ⟨2, 30, none⟩)])] [(b_0, .cells #[.int .i64 a1] 30 (0, 0)), (b_1, .cells #[.pointer (some ⟨b_0, 0, none⟩)] 175 (0, 0))] Glob (fun _ : Unit => .bool r.1) (fun _ => [(b_0, .cells #[.int .i64 r.2] 30 (0, 0)), (b_1, .cells #[.pointer (some ⟨b_0, 0, none⟩)] 175 (0, 0))]) (fun _ => []) (fun _ => Glob) := by
  intro w Z hS
  refine calls_of (args := [.iface 188 (.agg #[.int .i64 a0.err]), .iface 175 (.pointer (some ⟨b_0, 0, none⟩)), .agg #[.pointer (some ⟨2, 175, none⟩), .pointer (some ⟨b_1, 0, none⟩), .int .u64 150], .iface 148 (.agg #[.pointer (some ⟨2, 30, none⟩)])]) (L := [(0, .iface 188 (.agg #[.int .i64 a0.err])), (1, .iface 175 (.pointer (some ⟨b_0, 0, none⟩))), (2, .agg #[.pointer (some ⟨2, 175, none⟩), .pointer (some ⟨b_1, 0, none⟩), .int .u64 150]), (3, .iface 148 (.agg #[.pointer (some ⟨2, 30, none⟩)]))]) (N := 62) (S := Sat w Z [(b_0, .cells #[.int .i64 a1] 30 (0, 0)), (b_1, .cells #[.pointer (some ⟨b_0, 0, none⟩)] 175 (0, 0))] [] Glob) Tryz.func62 rfl rfl (Nat.le_of_ble_eq_true rfl) rfl hS ?_
  have hM := h
  clear h hS
  unfold errors_as_2.f at hM
  refine WP.seq ?_
  refine WP.run [] [0, 1, 3, 6, 8] (fun b1 => [(0, .iface 188 (.agg #[.int .i64 a0.err])), (1, .iface 175 (.pointer (some ⟨b_0, 0, none⟩))), (3, .iface 148 (.agg #[.pointer (some ⟨2, 30, none⟩)])), (6, .pointer (some ⟨b1, 0, none⟩)), (8, .bool false)]) (fun b1 => [(b_0, .cells #[.int .i64 a1] 30 (0, 0)), (b_1, .cells #[.pointer (some ⟨b_0, 0, none⟩)] 175 (0, 0)), (b1, .cells #[.pointer (some ⟨2, 175, none⟩), .pointer (some ⟨b_1, 0, none⟩), .int .u64 150] 106 (0, 0))]) (fun b1 => []) (fun b1 => by kernel_rfl) (fun b1 => ?_)
  refine WP.block ?_
  refine WP.unroll 40 ?_
  refine WP.block ?_
  refine WP.seq ?_
  refine WP.seq ?_
  refine WP.run [] [0, 1, 3, 6, 8, 16, 17, 18, 19] (fun _ => [(0, .iface 188 (.agg #[.int .i64 a0.err])), (1, .iface 175 (.pointer (some ⟨b_0, 0, none⟩))), (3, .iface 148 (.agg #[.pointer (some ⟨2, 30, none⟩)])), (6, .pointer (some ⟨b1, 0, none⟩)), (8, .bool false), (16, .iface 188 (.agg #[.int .i64 a0.err])), (17, .iface 148 (.agg #[.pointer (some ⟨2, 188, none⟩)])), (18, .iface 148 (.agg #[.pointer (some ⟨2, 30, none⟩)])), (19, .bool false)]) (fun _ => [(b_0, .cells #[.int .i64 a1] 30 (0, 0)), (b_1, .cells #[.pointer (some ⟨b_0, 0, none⟩)] 175 (0, 0)), (b1, .cells #[.pointer (some ⟨2, 175, none⟩), .pointer (some ⟨b_1, 0, none⟩), .int .u64 150] 106 (0, 0))]) (fun _ => []) (fun _ => by kernel_rfl) (fun _ => ?_)
  refine WP.no rfl rfl ?_
  refine WP.skip ?_
  refine WP.seq ?_
  refine WP.seq ?_
  refine WP.region ?_
  refine WL.run 1 [] [0, 1, 3, 6, 8, 16, 17, 18, 19, 26] (fun _ => [(0, .iface 188 (.agg #[.int .i64 a0.err])), (1, .iface 175 (.pointer (some ⟨b_0, 0, none⟩))), (3, .iface 148 (.agg #[.pointer (some ⟨2, 30, none⟩)])), (6, .pointer (some ⟨b1, 0, none⟩)), (8, .bool false), (16, .iface 188 (.agg #[.int .i64 a0.err])), (17, .iface 148 (.agg #[.pointer (some ⟨2, 188, none⟩)])), (18, .iface 148 (.agg #[.pointer (some ⟨2, 30, none⟩)])), (19, .bool false), (26, .iface 188 (.agg #[.int .i64 a0.err]))]) (fun _ => [(b_0, .cells #[.int .i64 a1] 30 (0, 0)), (b_1, .cells #[.pointer (some ⟨b_0, 0, none⟩)] 175 (0, 0)), (b1, .cells #[.pointer (some ⟨2, 175, none⟩), .pointer (some ⟨b_1, 0, none⟩), .int .u64 150] 106 (0, 0))]) (fun _ => []) (fun _ => by kernel_rfl) (fun _ => ?_)
  refine WL.val (fun _ => run_assertLacks (t := 188) (v := .agg #[.int .i64 a0.err]) (z := .nilIface) (by kernel_rfl) (by kernel_rfl) (by kernel_rfl)) (by kernel_rfl) (by kernel_rfl) rfl ?_
  refine WL.run 5 [] [0, 1, 3, 6, 8, 9, 10, 16, 17, 18, 19, 25, 26, 27, 28, 29] (fun _ => [(0, .iface 188 (.agg #[.int .i64 a0.err])), (1, .iface 175 (.pointer (some ⟨b_0, 0, none⟩))), (3, .iface 148 (.agg #[.pointer (some ⟨2, 30, none⟩)])), (6, .pointer (some ⟨b1, 0, none⟩)), (8, .bool false), (9, .nilIface), (10, .bool false), (16, .iface 188 (.agg #[.int .i64 a0.err])), (17, .iface 148 (.agg #[.pointer (some ⟨2, 188, none⟩)])), (18, .iface 148 (.agg #[.pointer (some ⟨2, 30, none⟩)])), (19, .bool false), (25, .tuple #[.nilIface, .bool false]), (26, .iface 188 (.agg #[.int .i64 a0.err])), (27, .tuple #[.nilIface, .bool false]), (28, .nilIface), (29, .bool false)]) (fun _ => [(b_0, .cells #[.int .i64 a1] 30 (0, 0)), (b_1, .cells #[.pointer (some ⟨b_0, 0, none⟩)] 175 (0, 0)), (b1, .cells #[.pointer (some ⟨2, 175, none⟩), .pointer (some ⟨b_1, 0, none⟩), .int .u64 150] 106 (0, 0))]) (fun _ => []) (fun _ => by kernel_rfl) (fun _ => ?_)
  refine WP.done ?_
  refine WP.seq ?_
  refine WP.run [] [0, 1, 3, 6, 8, 9, 10, 16, 17, 18, 19, 25, 26, 27, 28, 29, 30, 31, 32, 33, 34, 35] (fun _ => [(0, .iface 188 (.agg #[.int .i64 a0.err])), (1, .iface 175 (.pointer (some ⟨b_0, 0, none⟩))), (3, .iface 148 (.agg #[.pointer (some ⟨2, 30, none⟩)])), (6, .pointer (some ⟨b1, 0, none⟩)), (8, .bool false), (9, .nilIface), (10, .bool false), (16, .iface 188 (.agg #[.int .i64 a0.err])), (17, .iface 148 (.agg #[.pointer (some ⟨2, 188, none⟩)])), (18, .iface 148 (.agg #[.pointer (some ⟨2, 30, none⟩)])), (19, .bool false), (25, .tuple #[.nilIface, .bool false]), (26, .iface 188 (.agg #[.int .i64 a0.err])), (27, .tuple #[.nilIface, .bool false]), (28, .nilIface), (29, .bool false), (30, .bool false), (31, .bool false), (32, .tuple #[]), (33, .tuple #[]), (34, .tuple #[]), (35, .bool false)]) (fun _ => [(b_0, .cells #[.int .i64 a1] 30 (0, 0)), (b_1, .cells #[.pointer (some ⟨b_0, 0, none⟩)] 175 (0, 0)), (b1, .cells #[.pointer (some ⟨2, 175, none⟩), .pointer (some ⟨b_1, 0, none⟩), .int .u64 150] 106 (0, 0))]) (fun _ => []) (fun _ => by kernel_rfl) (fun _ => ?_)
  refine WP.no rfl rfl ?_
  refine WP.skip ?_
  refine WP.seq ?_
  refine WP.run [] [0, 1, 3, 6, 8, 9, 10, 16, 17, 18, 19, 25, 26, 27, 28, 29, 30, 31, 32, 33, 34, 35, 36] (fun _ => [(0, .iface 188 (.agg #[.int .i64 a0.err])), (1, .iface 175 (.pointer (some ⟨b_0, 0, none⟩))), (3, .iface 148 (.agg #[.pointer (some ⟨2, 30, none⟩)])), (6, .pointer (some ⟨b1, 0, none⟩)), (8, .bool false), (9, .nilIface), (10, .bool false), (16, .iface 188 (.agg #[.int .i64 a0.err])), (17, .iface 148 (.agg #[.pointer (some ⟨2, 188, none⟩)])), (18, .iface 148 (.agg #[.pointer (some ⟨2, 30, none⟩)])), (19, .bool false), (25, .tuple #[.nilIface, .bool false]), (26, .iface 188 (.agg #[.int .i64 a0.err])), (27, .tuple #[.nilIface, .bool false]), (28, .nilIface), (29, .bool false), (30, .bool false), (31, .bool false), (32, .tuple #[]), (33, .tuple #[]), (34, .tuple #[]), (35, .bool false), (36, .iface 188 (.agg #[.int .i64 a0.err]))]) (fun _ => [(b_0, .cells #[.int .i64 a1] 30 (0, 0)), (b_1, .cells #[.pointer (some ⟨b_0, 0, none⟩)] 175 (0, 0)), (b1, .cells #[.pointer (some ⟨2, 175, none⟩), .pointer (some ⟨b_1, 0, none⟩), .int .u64 150] 106 (0, 0))]) (fun _ => []) (fun _ => by kernel_rfl) (fun _ => ?_)
  refine WP.block ?_
  refine WP.seq ?_
  refine WP.region ?_
  refine WL.val (fun _ => run_assertHas (t := 188) (v := .agg #[.int .i64 a0.err]) (by kernel_rfl) (by kernel_rfl)) (by kernel_rfl) (by kernel_rfl) rfl ?_
  refine WL.run 2 [] [0, 1, 3, 6, 8, 9, 10, 16, 17, 18, 19, 25, 26, 27, 28, 29, 30, 31, 32, 33, 34, 35, 36, 37, 38, 39] (fun _ => [(0, .iface 188 (.agg #[.int .i64 a0.err])), (1, .iface 175 (.pointer (some ⟨b_0, 0, none⟩))), (3, .iface 148 (.agg #[.pointer (some ⟨2, 30, none⟩)])), (6, .pointer (some ⟨b1, 0, none⟩)), (8, .bool false), (9, .nilIface), (10, .bool false), (16, .iface 188 (.agg #[.int .i64 a0.err])), (17, .iface 148 (.agg #[.pointer (some ⟨2, 188, none⟩)])), (18, .iface 148 (.agg #[.pointer (some ⟨2, 30, none⟩)])), (19, .bool false), (25, .tuple #[.nilIface, .bool false]), (26, .iface 188 (.agg #[.int .i64 a0.err])), (27, .tuple #[.nilIface, .bool false]), (28, .nilIface), (29, .bool false), (30, .bool false), (31, .bool false), (32, .tuple #[]), (33, .tuple #[]), (34, .tuple #[]), (35, .bool false), (36, .iface 188 (.agg #[.int .i64 a0.err])), (37, .tuple #[.iface 188 (.agg #[.int .i64 a0.err]), .bool true]), (38, .bool true), (39, .iface 188 (.agg #[.int .i64 a0.err]))]) (fun _ => [(b_0, .cells #[.int .i64 a1] 30 (0, 0)), (b_1, .cells #[.pointer (some ⟨b_0, 0, none⟩)] 175 (0, 0)), (b1, .cells #[.pointer (some ⟨2, 175, none⟩), .pointer (some ⟨b_1, 0, none⟩), .int .u64 150] 106 (0, 0))]) (fun _ => []) (fun _ => by kernel_rfl) (fun _ => ?_)
  refine WP.done ?_
  refine WP.yes rfl rfl ?_
  refine WP.seq ?_
  refine WP.run [] [0, 1, 3, 6, 8, 9, 10, 11, 16, 17, 18, 19, 25, 26, 27, 28, 29, 30, 31, 32, 33, 34, 35, 36, 37, 38, 39] (fun _ => [(0, .iface 188 (.agg #[.int .i64 a0.err])), (1, .iface 175 (.pointer (some ⟨b_0, 0, none⟩))), (3, .iface 148 (.agg #[.pointer (some ⟨2, 30, none⟩)])), (6, .pointer (some ⟨b1, 0, none⟩)), (8, .bool false), (9, .nilIface), (10, .bool false), (11, .iface 188 (.agg #[.int .i64 a0.err])), (16, .iface 188 (.agg #[.int .i64 a0.err])), (17, .iface 148 (.agg #[.pointer (some ⟨2, 188, none⟩)])), (18, .iface 148 (.agg #[.pointer (some ⟨2, 30, none⟩)])), (19, .bool false), (25, .tuple #[.nilIface, .bool false]), (26, .iface 188 (.agg #[.int .i64 a0.err])), (27, .tuple #[.nilIface, .bool false]), (28, .nilIface), (29, .bool false), (30, .bool false), (31, .bool false), (32, .tuple #[]), (33, .tuple #[]), (34, .tuple #[]), (35, .bool false), (36, .iface 188 (.agg #[.int .i64 a0.err])), (37, .tuple #[.iface 188 (.agg #[.int .i64 a0.err]), .bool true]), (38, .bool true), (39, .iface 188 (.agg #[.int .i64 a0.err]))]) (fun _ => [(b_0, .cells #[.int .i64 a1] 30 (0, 0)), (b_1, .cells #[.pointer (some ⟨b_0, 0, none⟩)] 175 (0, 0)), (b1, .cells #[.pointer (some ⟨2, 175, none⟩), .pointer (some ⟨b_1, 0, none⟩), .int .u64 150] 106 (0, 0))]) (fun _ => []) (fun _ => by kernel_rfl) (fun _ => ?_)
  refine WP.seq ?_
  refine WP.region ?_
  refine WL.run 1 [] [0, 1, 3, 6, 8, 9, 10, 11, 16, 17, 18, 19, 25, 26, 27, 28, 29, 30, 31, 32, 33, 34, 35, 36, 37, 38, 39, 40] (fun _ => [(0, .iface 188 (.agg #[.int .i64 a0.err])), (1, .iface 175 (.pointer (some ⟨b_0, 0, none⟩))), (3, .iface 148 (.agg #[.pointer (some ⟨2, 30, none⟩)])), (6, .pointer (some ⟨b1, 0, none⟩)), (8, .bool false), (9, .nilIface), (10, .bool false), (11, .iface 188 (.agg #[.int .i64 a0.err])), (16, .iface 188 (.agg #[.int .i64 a0.err])), (17, .iface 148 (.agg #[.pointer (some ⟨2, 188, none⟩)])), (18, .iface 148 (.agg #[.pointer (some ⟨2, 30, none⟩)])), (19, .bool false), (25, .tuple #[.nilIface, .bool false]), (26, .iface 188 (.agg #[.int .i64 a0.err])), (27, .tuple #[.nilIface, .bool false]), (28, .nilIface), (29, .bool false), (30, .bool false), (31, .bool false), (32, .tuple #[]), (33, .tuple #[]), (34, .tuple #[]), (35, .bool false), (36, .iface 188 (.agg #[.int .i64 a0.err])), (37, .tuple #[.iface 188 (.agg #[.int .i64 a0.err]), .bool true]), (38, .bool true), (39, .iface 188 (.agg #[.int .i64 a0.err])), (40, .iface 188 (.agg #[.int .i64 a0.err]))]) (fun _ => [(b_0, .cells #[.int .i64 a1] 30 (0, 0)), (b_1, .cells #[.pointer (some ⟨b_0, 0, none⟩)] 175 (0, 0)), (b1, .cells #[.pointer (some ⟨2, 175, none⟩), .pointer (some ⟨b_1, 0, none⟩), .int .u64 150] 106 (0, 0))]) (fun _ => []) (fun _ => by kernel_rfl) (fun _ => ?_)
  obtain ⟨r3, h4, hM⟩ := bind_some hM
  refine WL.callP [] [] (inet_odd_Unwrap_calls a0 _ h4) (fun _ h => h) (by kernel_rfl) (by kernel_rfl) rfl ?_
  refine WL.run 1 [] [0, 1, 3, 6, 8, 9, 10, 11, 16, 17, 18, 19, 25, 26, 27, 28, 29, 30, 31, 32, 33, 34, 35, 36, 37, 38, 39, 40, 41] (fun _ => [(0, .iface 30 (.int .i64 r3)), (1, .iface 175 (.pointer (some ⟨b_0, 0, none⟩))), (3, .iface 148 (.agg #[.pointer (some ⟨2, 30, none⟩)])), (6, .pointer (some ⟨b1, 0, none⟩)), (8, .bool false), (9, .nilIface), (10, .bool false), (11, .iface 188 (.agg #[.int .i64 a0.err])), (16, .iface 188 (.agg #[.int .i64 a0.err])), (17, .iface 148 (.agg #[.pointer (some ⟨2, 188, none⟩)])), (18, .iface 148 (.agg #[.pointer (some ⟨2, 30, none⟩)])), (19, .bool false), (25, .tuple #[.nilIface, .bool false]), (26, .iface 188 (.agg #[.int .i64 a0.err])), (27, .tuple #[.nilIface, .bool false]), (28, .nilIface), (29, .bool false), (30, .bool false), (31, .bool false), (32, .tuple #[]), (33, .tuple #[]), (34, .tuple #[]), (35, .bool false), (36, .iface 188 (.agg #[.int .i64 a0.err])), (37, .tuple #[.iface 188 (.agg #[.int .i64 a0.err]), .bool true]), (38, .bool true), (39, .iface 188 (.agg #[.int .i64 a0.err])), (40, .iface 188 (.agg #[.int .i64 a0.err])), (41, .iface 30 (.int .i64 r3))]) (fun _ => [(b_0, .cells #[.int .i64 a1] 30 (0, 0)), (b_1, .cells #[.pointer (some ⟨b_0, 0, none⟩)] 175 (0, 0)), (b1, .cells #[.pointer (some ⟨2, 175, none⟩), .pointer (some ⟨b_1, 0, none⟩), .int .u64 150] 106 (0, 0))]) (fun _ => []) (fun _ => by kernel_rfl) (fun _ => ?_)
  refine WP.done ?_
  refine WP.seq ?_
  refine WP.run [] [0, 1, 3, 6, 8, 9, 10, 11, 16, 17, 18, 19, 25, 26, 27, 28, 29, 30, 31, 32, 33, 34, 35, 36, 37, 38, 39, 40, 41, 42, 43] (fun _ => [(0, .iface 30 (.int .i64 r3)), (1, .iface 175 (.pointer (some ⟨b_0, 0, none⟩))), (3, .iface 148 (.agg #[.pointer (some ⟨2, 30, none⟩)])), (6, .pointer (some ⟨b1, 0, none⟩)), (8, .bool false), (9, .nilIface), (10, .bool false), (11, .iface 188 (.agg #[.int .i64 a0.err])), (16, .iface 188 (.agg #[.int .i64 a0.err])), (17, .iface 148 (.agg #[.pointer (some ⟨2, 188, none⟩)])), (18, .iface 148 (.agg #[.pointer (some ⟨2, 30, none⟩)])), (19, .bool false), (25, .tuple #[.nilIface, .bool false]), (26, .iface 188 (.agg #[.int .i64 a0.err])), (27, .tuple #[.nilIface, .bool false]), (28, .nilIface), (29, .bool false), (30, .bool false), (31, .bool false), (32, .tuple #[]), (33, .tuple #[]), (34, .tuple #[]), (35, .bool false), (36, .iface 188 (.agg #[.int .i64 a0.err])), (37, .tuple #[.iface 188 (.agg #[.int .i64 a0.err]), .bool true]), (38, .bool true), (39, .iface 188 (.agg #[.int .i64 a0.err])), (40, .iface 188 (.agg #[.int .i64 a0.err])), (41, .iface 30 (.int .i64 r3)), (42, .iface 30 (.int .i64 r3)), (43, .bool false)]) (fun _ => [(b_0, .cells #[.int .i64 a1] 30 (0, 0)), (b_1, .cells #[.pointer (some ⟨b_0, 0, none⟩)] 175 (0, 0)), (b1, .cells #[.pointer (some ⟨2, 175, none⟩), .pointer (some ⟨b_1, 0, none⟩), .int .u64 150] 106 (0, 0))]) (fun _ => []) (fun _ => by kernel_rfl) (fun _ => ?_)
  refine WP.no rfl rfl ?_
  refine WP.skip ?_
  refine WP.leave ?_
  refine WP.leave ?_
  refine WP.round ?_
  refine WP.block ?_
  refine WP.seq ?_
  refine WP.seq ?_
  refine WP.run [] [0, 1, 3, 6, 8, 9, 10, 11, 16, 17, 18, 19, 25, 26, 27, 28, 29, 30, 31, 32, 33, 34, 35, 36, 37, 38, 39, 40, 41, 42, 43] (fun _ => [(0, .iface 30 (.int .i64 r3)), (1, .iface 175 (.pointer (some ⟨b_0, 0, none⟩))), (3, .iface 148 (.agg #[.pointer (some ⟨2, 30, none⟩)])), (6, .pointer (some ⟨b1, 0, none⟩)), (8, .bool false), (9, .nilIface), (10, .bool false), (11, .iface 188 (.agg #[.int .i64 a0.err])), (16, .iface 30 (.int .i64 r3)), (17, .iface 148 (.agg #[.pointer (some ⟨2, 30, none⟩)])), (18, .iface 148 (.agg #[.pointer (some ⟨2, 30, none⟩)])), (19, .bool true), (25, .tuple #[.nilIface, .bool false]), (26, .iface 188 (.agg #[.int .i64 a0.err])), (27, .tuple #[.nilIface, .bool false]), (28, .nilIface), (29, .bool false), (30, .bool false), (31, .bool false), (32, .tuple #[]), (33, .tuple #[]), (34, .tuple #[]), (35, .bool false), (36, .iface 188 (.agg #[.int .i64 a0.err])), (37, .tuple #[.iface 188 (.agg #[.int .i64 a0.err]), .bool true]), (38, .bool true), (39, .iface 188 (.agg #[.int .i64 a0.err])), (40, .iface 188 (.agg #[.int .i64 a0.err])), (41, .iface 30 (.int .i64 r3)), (42, .iface 30 (.int .i64 r3)), (43, .bool false)]) (fun _ => [(b_0, .cells #[.int .i64 a1] 30 (0, 0)), (b_1, .cells #[.pointer (some ⟨b_0, 0, none⟩)] 175 (0, 0)), (b1, .cells #[.pointer (some ⟨2, 175, none⟩), .pointer (some ⟨b_1, 0, none⟩), .int .u64 150] 106 (0, 0))]) (fun _ => []) (fun _ => by kernel_rfl) (fun _ => ?_)
  refine WP.yes rfl rfl ?_
  refine WP.seq ?_
  refine WP.run [2, 2, 2, 1, 3, 0] [0, 1, 3, 6, 8, 9, 10, 11, 16, 17, 18, 19, 20, 21, 22, 23, 25, 26, 27, 28, 29, 30, 31, 32, 33, 34, 35, 36, 37, 38, 39, 40, 41, 42, 43] (fun b5 => [(0, .iface 30 (.int .i64 r3)), (1, .iface 175 (.pointer (some ⟨b_0, 0, none⟩))), (3, .iface 148 (.agg #[.pointer (some ⟨2, 30, none⟩)])), (6, .pointer (some ⟨b1, 0, none⟩)), (8, .bool false), (9, .nilIface), (10, .bool false), (11, .iface 188 (.agg #[.int .i64 a0.err])), (16, .iface 30 (.int .i64 r3)), (17, .iface 148 (.agg #[.pointer (some ⟨2, 30, none⟩)])), (18, .iface 148 (.agg #[.pointer (some ⟨2, 30, none⟩)])), (19, .bool true), (20, .agg #[.pointer (some ⟨2, 175, none⟩), .pointer (some ⟨b_1, 0, none⟩), .int .u64 150]), (21, .agg #[.pointer (some ⟨2, 30, none⟩), .pointer (some ⟨b_0, 0, none⟩), .int .u64 386]), (22, .iface 30 (.int .i64 r3)), (23, .agg #[.pointer (some ⟨2, 30, none⟩), .pointer (some ⟨b5, 0, none⟩), .int .u64 130]), (25, .tuple #[.nilIface, .bool false]), (26, .iface 188 (.agg #[.int .i64 a0.err])), (27, .tuple #[.nilIface, .bool false]), (28, .nilIface), (29, .bool false), (30, .bool false), (31, .bool false), (32, .tuple #[]), (33, .tuple #[]), (34, .tuple #[]), (35, .bool false), (36, .iface 188 (.agg #[.int .i64 a0.err])), (37, .tuple #[.iface 188 (.agg #[.int .i64 a0.err]), .bool true]), (38, .bool true), (39, .iface 188 (.agg #[.int .i64 a0.err])), (40, .iface 188 (.agg #[.int .i64 a0.err])), (41, .iface 30 (.int .i64 r3)), (42, .iface 30 (.int .i64 r3)), (43, .bool false)]) (fun b5 => [(b_0, .cells #[.int .i64 r3] 30 (0, 0)), (b_1, .cells #[.pointer (some ⟨b_0, 0, none⟩)] 175 (0, 0)), (b1, .cells #[.pointer (some ⟨2, 175, none⟩), .pointer (some ⟨b_1, 0, none⟩), .int .u64 150] 106 (0, 0)), (b5, .cells #[.int .i64 r3] 30 (0, 0))]) (fun b5 => [b_0, b5, b_1, b1, b1, b1]) (fun b5 => by kernel_rfl) (fun b5 => ?_)
  refine WP.seq ?_
  refine WP.run [] [0, 1, 3, 6, 8, 9, 10, 11, 16, 17, 18, 19, 20, 21, 22, 23, 25, 26, 27, 28, 29, 30, 31, 32, 33, 34, 35, 36, 37, 38, 39, 40, 41, 42, 43] (fun _ => [(0, .iface 30 (.int .i64 r3)), (1, .iface 175 (.pointer (some ⟨b_0, 0, none⟩))), (3, .iface 148 (.agg #[.pointer (some ⟨2, 30, none⟩)])), (6, .pointer (some ⟨b1, 0, none⟩)), (8, .bool true), (9, .nilIface), (10, .bool false), (11, .iface 188 (.agg #[.int .i64 a0.err])), (16, .iface 30 (.int .i64 r3)), (17, .iface 148 (.agg #[.pointer (some ⟨2, 30, none⟩)])), (18, .iface 148 (.agg #[.pointer (some ⟨2, 30, none⟩)])), (19, .bool true), (20, .agg #[.pointer (some ⟨2, 175, none⟩), .pointer (some ⟨b_1, 0, none⟩), .int .u64 150]), (21, .agg #[.pointer (some ⟨2, 30, none⟩), .pointer (some ⟨b_0, 0, none⟩), .int .u64 386]), (22, .iface 30 (.int .i64 r3)), (23, .agg #[.pointer (some ⟨2, 30, none⟩), .pointer (some ⟨b5, 0, none⟩), .int .u64 130]), (25, .tuple #[.nilIface, .bool false]), (26, .iface 188 (.agg #[.int .i64 a0.err])), (27, .tuple #[.nilIface, .bool false]), (28, .nilIface), (29, .bool false), (30, .bool false), (31, .bool false), (32, .tuple #[]), (33, .tuple #[]), (34, .tuple #[]), (35, .bool false), (36, .iface 188 (.agg #[.int .i64 a0.err])), (37, .tuple #[.iface 188 (.agg #[.int .i64 a0.err]), .bool true]), (38, .bool true), (39, .iface 188 (.agg #[.int .i64 a0.err])), (40, .iface 188 (.agg #[.int .i64 a0.err])), (41, .iface 30 (.int .i64 r3)), (42, .iface 30 (.int .i64 r3)), (43, .bool false)]) (fun _ => [(b_0, .cells #[.int .i64 r3] 30 (0, 0)), (b_1, .cells #[.pointer (some ⟨b_0, 0, none⟩)] 175 (0, 0)), (b1, .cells #[.pointer (some ⟨2, 175, none⟩), .pointer (some ⟨b_1, 0, none⟩), .int .u64 150] 106 (0, 0)), (b5, .cells #[.int .i64 r3] 30 (0, 0))]) (fun _ => []) (fun _ => by kernel_rfl) (fun _ => ?_)
  obtain rfl := Option.some.inj hM
  exact WP.ret [] [] (.bool true) (by kernel_rfl) (fun w' hw => ⟨(), rfl, hw.pick [0, 1] (by kernel_rfl)⟩)

end Go.Proofs.YtbodofjnfmjbpaaGreatDoor

namespace Go.Proofs.YtbodofjnfmjbpaaGreatDoor
open Go Eng
set_option linter.unusedVariables false
set_option linter.unusedSimpArgs false

/-! ### errors.As: function 34 -/
def errors_As_2.f (a0 : inet_odd) (a1 : Int) : Option (Bool × Int) :=
  (errors_as_2.f a0 a1).bind fun (r2, r3) =>
  some (r2, r3)

set_option maxRecDepth 100000 in
theorem errors_As_2_calls (b_0 : Nat) (a0 : inet_odd) (a1 : Int) (r : Bool × Int) (h : errors_As_2.f a0 a1 = some r) : Does Tryz.prog 34 #[.iface 188 (.agg #[.int .i64 a0.err]), .iface 175 (.pointer (some ⟨b_0, 0, none⟩))] [(b_0, .cells #[.int .i64 a1] 30 (0, 0))] Glob (fun _ : Unit => .bool r.1) (fun _ => [(b_0, .cells #[.int .i64 r.2] 30 (0, 0))]) (fun _ => []) (fun _ => Glob) := by
  intro w Z hS
  refine calls_of (args := [.iface 188 (.agg #[.int .i64 a0.err]), .iface 175 (.pointer (some ⟨b_0, 0, none⟩))]) (L := [(0, .iface 188 (.agg #[.int .i64 a0.err])), (1, .iface 175 (.pointer (some ⟨b_0, 0, none⟩)))]) (N := 42) (S := Sat w Z [(b_0, .cells #[.int .i64 a1] 30 (0, 0))] [] Glob) Tryz.func34 rfl rfl (Nat.le_of_ble_eq_true rfl) rfl hS ?_
  have hM := h
  clear h hS
  unfold errors_As_2.f at hM
  refine WP.seq ?_
  refine WP.run [] [0, 1, 4] (fun _ => [(0, .iface 188 (.agg #[.int .i64 a0.err])), (1, .iface 175 (.pointer (some ⟨b_0, 0, none⟩))), (4, .bool false)]) (fun _ => [(b_0, .cells #[.int .i64 a1] 30 (0, 0))]) (fun _ => []) (fun _ => by kernel_rfl) (fun _ => ?_)
  refine WP.seq ?_
  refine WP.seq ?_
  refine WP.run [] [0, 1, 4, 9] (fun _ => [(0, .iface 188 (.agg #[.int .i64 a0.err])), (1, .iface 175 (.pointer (some ⟨b_0, 0, none⟩))), (4, .bool false), (9, .bool false)]) (fun _ => [(b_0, .cells #[.int .i64 a1] 30 (0, 0))]) (fun _ => []) (fun _ => by kernel_rfl) (fun _ => ?_)
  refine WP.no rfl rfl ?_
  refine WP.skip ?_
  refine WP.seq ?_
  refine WP.seq ?_
  refine WP.run [] [0, 1, 4, 11] (fun _ => [(0, .iface 188 (.agg #[.int .i64 a0.err])), (1, .iface 175 (.pointer (some ⟨b_0, 0, none⟩))), (4, .bool false), (11, .bool false)]) (fun _ => [(b_0, .cells #[.int .i64 a1] 30 (0, 0))]) (fun _ => []) (fun _ => by kernel_rfl) (fun _ => ?_)
  refine WP.no rfl rfl ?_
  refine WP.skip ?_
  refine WP.seq ?_
  refine WP.run [2, 2, 2] [0, 1, 4, 5] (fun b1 => [(0, .iface 188 (.agg #[.int .i64 a0.err])), (1, .iface 175 (.pointer (some ⟨b_0, 0, none⟩))), (4, .bool false), (5, .pointer (some ⟨(b1 + 1), 0, none⟩))]) (fun b1 => [(b_0, .cells #[.int .i64 a1] 30 (0, 0)), (b1, .cells #[.pointer (some ⟨b_0, 0, none⟩)] 175 (0, 0)), ((b1 + 1), .cells #[.pointer (some ⟨2, 175, none⟩), .pointer (some ⟨b1, 0, none⟩), .int .u64 150] 106 (0, 0))]) (fun b1 => [(b1 + 1), (b1 + 1), (b1 + 1)]) (fun b1 => by kernel_rfl) (fun b1 => ?_)
  refine WP.seq ?_
  refine WP.run [2, 2, 2] [0, 1, 4, 5, 6] (fun _ => [(0, .iface 188 (.agg #[.int .i64 a0.err])), (1, .iface 175 (.pointer (some ⟨b_0, 0, none⟩))), (4, .bool false), (5, .pointer (some ⟨(b1 + 1), 0, none⟩)), (6, .iface 148 (.agg #[.pointer (some ⟨2, 175, none⟩)]))]) (fun _ => [(b_0, .cells #[.int .i64 a1] 30 (0, 0)), (b1, .cells #[.pointer (some ⟨b_0, 0, none⟩)] 175 (0, 0)), ((b1 + 1), .cells #[.pointer (some ⟨2, 175, none⟩), .pointer (some ⟨b1, 0, none⟩), .int .u64 150] 106 (0, 0))]) (fun _ => [(b1 + 1), (b1 + 1), (b1 + 1)]) (fun _ => by kernel_rfl) (fun _ => ?_)
  refine WP.seq ?_
  refine WP.seq ?_
  refine WP.run [2, 2, 2, 1] [0, 1, 4, 5, 6, 23] (fun _ => [(0, .iface 188 (.agg #[.int .i64 a0.err])), (1, .iface 175 (.pointer (some ⟨b_0, 0, none⟩))), (4, .bool false), (5, .pointer (some ⟨(b1 + 1), 0, none⟩)), (6, .iface 148 (.agg #[.pointer (some ⟨2, 175, none⟩)])), (23, .bool false)]) (fun _ => [(b_0, .cells #[.int .i64 a1] 30 (0, 0)), (b1, .cells #[.pointer (some ⟨b_0, 0, none⟩)] 175 (0, 0)), ((b1 + 1), .cells #[.pointer (some ⟨2, 175, none⟩), .pointer (some ⟨b1, 0, none⟩), .int .u64 150] 106 (0, 0))]) (fun _ => [b1, (b1 + 1), (b1 + 1), (b1 + 1)]) (fun _ => by kernel_rfl) (fun _ => ?_)
  refine WP.no rfl rfl ?_
  refine WP.skip ?_
  refine WP.seq ?_
  refine WP.run [] [0, 1, 4, 5, 7] (fun _ => [(0, .iface 188 (.agg #[.int .i64 a0.err])), (1, .iface 175 (.pointer (some ⟨b_0, 0, none⟩))), (4, .bool false), (5, .pointer (some ⟨(b1 + 1), 0, none⟩)), (7, .iface 148 (.agg #[.pointer (some ⟨2, 30, none⟩)]))]) (fun _ => [(b_0, .cells #[.int .i64 a1] 30 (0, 0)), (b1, .cells #[.pointer (some ⟨b_0, 0, none⟩)] 175 (0, 0)), ((b1 + 1), .cells #[.pointer (some ⟨2, 175, none⟩), .pointer (some ⟨b1, 0, none⟩), .int .u64 150] 106 (0, 0))]) (fun _ => []) (fun _ => by kernel_rfl) (fun _ => ?_)
  refine WP.seq ?_
  refine WP.seq ?_
  refine WP.region ?_
  refine WL.run 5 [] [0, 1, 4, 5, 7, 30, 31] (fun _ => [(0, .iface 188 (.agg #[.int .i64 a0.err])), (1, .iface 175 (.pointer (some ⟨b_0, 0, none⟩))), (4, .bool false), (5, .pointer (some ⟨(b1 + 1), 0, none⟩)), (7, .iface 148 (.agg #[.pointer (some ⟨2, 30, none⟩)])), (30, .bool true), (31, .iface 148 (.agg #[.pointer (some ⟨2, 30, none⟩)]))]) (fun _ => [(b_0, .cells #[.int .i64 a1] 30 (0, 0)), (b1, .cells #[.pointer (some ⟨b_0, 0, none⟩)] 175 (0, 0)), ((b1 + 1), .cells #[.pointer (some ⟨2, 175, none⟩), .pointer (some ⟨b1, 0, none⟩), .int .u64 150] 106 (0, 0))]) (fun _ => []) (fun _ => by kernel_rfl) (fun _ => ?_)
  refine WL.loadGlob (v := .iface 148 (.agg #[.pointer (some ⟨2, 73, none⟩)])) (by simp [Glob]) (fun _ => by kernel_rfl) (by kernel_rfl) rfl ?_
  refine WL.run 3 [] [0, 1, 4, 5, 7, 35] (fun _ => [(0, .iface 188 (.agg #[.int .i64 a0.err])), (1, .iface 175 (.pointer (some ⟨b_0, 0, none⟩))), (4, .bool false), (5, .pointer (some ⟨(b1 + 1), 0, none⟩)), (7, .iface 148 (.agg #[.pointer (some ⟨2, 30, none⟩)])), (35, .bool false)]) (fun _ => [(b_0, .cells #[.int .i64 a1] 30 (0, 0)), (b1, .cells #[.pointer (some ⟨b_0, 0, none⟩)] 175 (0, 0)), ((b1 + 1), .cells #[.pointer (some ⟨2, 175, none⟩), .pointer (some ⟨b1, 0, none⟩), .int .u64 150] 106 (0, 0))]) (fun _ => []) (fun _ => by kernel_rfl) (fun _ => ?_)
  refine WP.done ?_
  refine WP.no rfl rfl ?_
  refine WP.skip ?_
  refine WP.seq ?_
  refine WP.region ?_
  refine WL.run 4 [2, 2, 2] [4, 37, 38, 39, 40] (fun _ => [(4, .bool false), (37, .iface 188 (.agg #[.int .i64 a0.err])), (38, .iface 175 (.pointer (some ⟨b_0, 0, none⟩))), (39, .agg #[.pointer (some ⟨2, 175, none⟩), .pointer (some ⟨b1, 0, none⟩), .int .u64 150]), (40, .iface 148 (.agg #[.pointer (some ⟨2, 30, none⟩)]))]) (fun _ => [(b_0, .cells #[.int .i64 a1] 30 (0, 0)), (b1, .cells #[.pointer (some ⟨b_0, 0, none⟩)] 175 (0, 0)), ((b1 + 1), .cells #[.pointer (some ⟨2, 175, none⟩), .pointer (some ⟨b1, 0, none⟩), .int .u64 150] 106 (0, 0))]) (fun _ => [(b1 + 1), (b1 + 1), (b1 + 1)]) (fun _ => by kernel_rfl) (fun _ => ?_)
  obtain ⟨⟨r2, r3⟩, h4, hM⟩ := bind_some hM
  dsimp only at hM
  refine WL.callE (X := Unit) [] [] [true, true, false] (fun _ => _) (errors_as_2_calls b_0 b1 a0 a1 _ h4) rfl rfl (fun _ h => h) (by kernel_rfl) (by kernel_rfl) (fun _ => rfl) (fun _ => ?_)
  refine WL.run 1 [] [4] (fun _ => [(4, .bool r2)]) (fun _ => [(b_0, .cells #[.int .i64 r3] 30 (0, 0)), (b1, .cells #[.pointer (some ⟨b_0, 0, none⟩)] 175 (0, 0)), ((b1 + 1), .cells #[.pointer (some ⟨2, 175, none⟩), .pointer (some ⟨b1, 0, none⟩), .int .u64 150] 106 (0, 0))]) (fun _ => []) (fun _ => by kernel_rfl) (fun _ => ?_)
  refine WP.done ?_
  refine WP.keep [true, false, false] (by kernel_rfl : _ = [(b_0, .cells #[.int .i64 r3] 30 (0, 0))]) ?_
  obtain rfl := Option.some.inj hM
  exact WP.ret [] [] (.bool r2) (by kernel_rfl) (fun w' hw => ⟨(), rfl, hw.pick [0] (by kernel_rfl)⟩)

end Go.Proofs.YtbodofjnfmjbpaaGreatDoor

namespace Go.Proofs.YtbodofjnfmjbpaaGreatDoor
open Go Eng
set_option linter.unusedVariables false
set_option linter.unusedSimpArgs false

/-! ### gangway/inet.number: function 112 -/
def inet_number.f (a0 : inet_odd) : Option (Int) :=
  (errors_As_2.f a0 0).bind fun (r2, r3) =>
  bif r2 then
    some r3
  else
    some 0

set_option maxRecDepth 100000 in
theorem inet_number_calls (a0 : inet_odd) (r : Int) (h : inet_number.f a0 = some r) : Pure Tryz.prog Glob 112 #[.iface 188 (.agg #[.int .i64 a0.err])] (.int .i64 r) := by
  intro w Z hS
  refine calls_of (args := [.iface 188 (.agg #[.int .i64 a0.err])]) (L := [(0, .iface 188 (.agg #[.int .i64 a0.err]))]) (N := 8) (S := Sat w Z [] [] Glob) Tryz.func112 rfl rfl (Nat.le_of_ble_eq_true rfl) rfl hS ?_
  have hM := h
  clear h hS
  unfold inet_number.f at hM
  refine WP.seq ?_
  refine WP.run [] [0, 2] (fun _ => [(0, .iface 188 (.agg #[.int .i64 a0.err])), (2, .int .i64 0)]) (fun _ => []) (fun _ => []) (fun _ => by kernel_rfl) (fun _ => ?_)
  refine WP.seq ?_
  refine WP.run [] [0, 2, 3] (fun b1 => [(0, .iface 188 (.agg #[.int .i64 a0.err])), (2, .int .i64 0), (3, .pointer (some ⟨b1, 0, none⟩))]) (fun b1 => [(b1, .cells #[.int .i64 0] 30 (0, 0))]) (fun b1 => []) (fun b1 => by kernel_rfl) (fun b1 => ?_)
  refine WP.seq ?_
  refine WP.seq ?_
  refine WP.region ?_
  refine WL.run 2 [] [2, 3, 4, 5] (fun _ => [(2, .int .i64 0), (3, .pointer (some ⟨b1, 0, none⟩)), (4, .iface 188 (.agg #[.int .i64 a0.err])), (5, .iface 175 (.pointer (some ⟨b1, 0, none⟩)))]) (fun _ => [(b1, .cells #[.int .i64 0] 30 (0, 0))]) (fun _ => []) (fun _ => by kernel_rfl) (fun _ => ?_)
  obtain ⟨⟨r2, r3⟩, h4, hM⟩ := bind_some hM
  dsimp only at hM
  refine WL.callE (X := Unit) [] [] [true] (fun _ => _) (errors_As_2_calls b1 a0 0 _ h4) rfl rfl (fun _ h => h) (by kernel_rfl) (by kernel_rfl) (fun _ => rfl) (fun _ => ?_)
  refine WP.done ?_
  refine WP.cond r2 rfl rfl (fun c5 => ?_) (fun c5 => ?_)
  · replace hM := cond_t hM c5
    refine WP.seq ?_
    refine WP.run [0] [2] (fun _ => [(2, .int .i64 r3)]) (fun _ => [(b1, .cells #[.int .i64 r3] 30 (0, 0))]) (fun _ => [b1]) (fun _ => by kernel_rfl) (fun _ => ?_)
    refine WP.keep [false] (by kernel_rfl : _ = []) ?_
    obtain rfl := Option.some.inj hM
    exact WP.ret [] [] (.int .i64 r3) (by kernel_rfl) (fun w' hw => ⟨rfl, hw.pick [] rfl⟩)
  · replace hM := cond_f hM c5
    refine WP.skip ?_
    refine WP.seq ?_
    refine WP.run [] [2] (fun _ => [(2, .int .i64 0)]) (fun _ => [(b1, .cells #[.int .i64 r3] 30 (0, 0))]) (fun _ => []) (fun _ => by kernel_rfl) (fun _ => ?_)
    refine WP.keep [false] (by kernel_rfl : _ = []) ?_
    obtain rfl := Option.some.inj hM
    exact WP.ret [] [] (.int .i64 0) (by kernel_rfl) (fun w' hw => ⟨rfl, hw.pick [] rfl⟩)

end Go.Proofs.YtbodofjnfmjbpaaGreatDoor

namespace Go.Proofs.YtbodofjnfmjbpaaGreatDoor
open Go Eng
set_option linter.unusedVariables false
set_option linter.unusedSimpArgs false

/-! ### gangway/inet.Parse: function 89 -/
def inet_Parse.f (k : Nat) (a0 : ByteArray) : Option (api_Ip × Int) :=
  (inet_read.f k a0).bind fun (r2, r3) =>
  match r3 with
  | none =>
    some (r2, 0)
  | some q6 =>
    (inet_number.f q6).bind fun r7 =>
    some ((api_Ip.mk 0 0 false false 0 0 0 0 0 (⟨#[]⟩ : ByteArray)), r7)

set_option maxRecDepth 100000 in
theorem inet_Parse_calls (k : Nat) (a0 : ByteArray) (r : api_Ip × Int) (h : inet_Parse.f k a0 = some r) : Pure Tryz.prog Glob 89 #[.string a0] (.tuple #[.agg #[.int .i64 r.1.Tos, .int .i64 r.1.Id, .bool r.1.Whole, .bool r.1.More, .int .i64 r.1.Off, .int .i64 r.1.Ttl, .int .i64 r.1.Proto, .int .u32 r.1.Src, .int .u32 r.1.Dst, .string r.1.Body], .int .i64 r.2]) := by
  intro w Z hS
  refine calls_of (args := [.string a0]) (L := [(0, .string a0)]) (N := 17) (S := Sat w Z [] [] Glob) Tryz.func89 rfl rfl (Nat.le_of_ble_eq_true rfl) rfl hS ?_
  have hM := h
  clear h hS
  unfold inet_Parse.f at hM
  refine WP.seq ?_
  refine WP.run [] [0, 2, 3] (fun b1 => [(0, .string a0), (2, .pointer (some ⟨b1, 0, none⟩)), (3, .int .i64 0)]) (fun b1 => [(b1, .cells #[.int .i64 0, .int .i64 0, .bool false, .bool false, .int .i64 0, .int .i64 0, .int .i64 0, .int .u32 0, .int .u32 0, .string (⟨#[]⟩ : ByteArray)] 91 (0, 0))]) (fun b1 => []) (fun b1 => by kernel_rfl) (fun b1 => ?_)
  refine WP.seq ?_
  refine WP.region ?_
  refine WL.run 1 [] [2, 3, 7] (fun _ => [(2, .pointer (some ⟨b1, 0, none⟩)), (3, .int .i64 0), (7, .string a0)]) (fun _ => [(b1, .cells #[.int .i64 0, .int .i64 0, .bool false, .bool false, .int .i64 0, .int .i64 0, .int .i64 0, .int .u32 0, .int .u32 0, .string (⟨#[]⟩ : ByteArray)] 91 (0, 0))]) (fun _ => []) (fun _ => by kernel_rfl) (fun _ => ?_)
  obtain ⟨⟨r2, r3⟩, h4, hM⟩ := bind_some hM
  dsimp only at hM
  refine WL.callP [] [] (inet_read_calls k a0 _ h4) (fun _ h => h) (by kernel_rfl) (by kernel_rfl) rfl ?_
  refine WL.run 6 [1, 1, 1, 1, 1, 1, 1, 1, 1, 1] [2, 3, 4, 5] (fun b5 => [(2, .pointer (some ⟨b1, 0, none⟩)), (3, .int .i64 0), (4, .pointer (some ⟨b5, 0, none⟩)), (5, Un3.v r3)]) (fun b5 => [(b1, .cells #[.int .i64 0, .int .i64 0, .bool false, .bool false, .int .i64 0, .int .i64 0, .int .i64 0, .int .u32 0, .int .u32 0, .string (⟨#[]⟩ : ByteArray)] 91 (0, 0)), (b5, .cells #[.int .i64 r2.Tos, .int .i64 r2.Id, .bool r2.Whole, .bool r2.More, .int .i64 r2.Off, .int .i64 r2.Ttl, .int .i64 r2.Proto, .int .u32 r2.Src, .int .u32 r2.Dst, .string r2.Body] 91 (0, 0))]) (fun b5 => [b5, b5, b5, b5, b5, b5, b5, b5, b5, b5]) (fun b5 => by kernel_rfl) (fun b5 => ?_)
  refine WP.done ?_
  refine WP.seq ?_
  refine WP.seq ?_
  refine WP.region ?_
  refine WL.run 1 [] [2, 3, 4, 5, 11] (fun _ => [(2, .pointer (some ⟨b1, 0, none⟩)), (3, .int .i64 0), (4, .pointer (some ⟨b5, 0, none⟩)), (5, Un3.v r3), (11, Un3.v r3)]) (fun _ => [(b1, .cells #[.int .i64 0, .int .i64 0, .bool false, .bool false, .int .i64 0, .int .i64 0, .int .i64 0, .int .u32 0, .int .u32 0, .string (⟨#[]⟩ : ByteArray)] 91 (0, 0)), (b5, .cells #[.int .i64 r2.Tos, .int .i64 r2.Id, .bool r2.Whole, .bool r2.More, .int .i64 r2.Off, .int .i64 r2.Ttl, .int .i64 r2.Proto, .int .u32 r2.Src, .int .u32 r2.Dst, .string r2.Body] 91 (0, 0))]) (fun _ => []) (fun _ => by kernel_rfl) (fun _ => ?_)
  rcases r3 with _ | q6
  · dsimp only at hM
    refine WL.run 1 [] [2, 3, 4, 5, 12] (fun _ => [(2, .pointer (some ⟨b1, 0, none⟩)), (3, .int .i64 0), (4, .pointer (some ⟨b5, 0, none⟩)), (5, .nilIface), (12, .bool false)]) (fun _ => [(b1, .cells #[.int .i64 0, .int .i64 0, .bool false, .bool false, .int .i64 0, .int .i64 0, .int .i64 0, .int .u32 0, .int .u32 0, .string (⟨#[]⟩ : ByteArray)] 91 (0, 0)), (b5, .cells #[.int .i64 r2.Tos, .int .i64 r2.Id, .bool r2.Whole, .bool r2.More, .int .i64 r2.Off, .int .i64 r2.Ttl, .int .i64 r2.Proto, .int .u32 r2.Src, .int .u32 r2.Dst, .string r2.Body] 91 (0, 0))]) (fun _ => []) (fun _ => by kernel_rfl) (fun _ => ?_)
    refine WP.done ?_
    refine WP.no rfl rfl ?_
    refine WP.skip ?_
    refine WP.seq ?_
    refine WP.run [1, 1, 1, 1, 1, 1, 1, 1, 1, 1, 0, 0, 0, 0, 0, 0, 0, 0, 0, 0] [2, 3] (fun _ => [(2, .pointer (some ⟨b1, 0, none⟩)), (3, .int .i64 0)]) (fun _ => [(b1, .cells #[.int .i64 r2.Tos, .int .i64 r2.Id, .bool r2.Whole, .bool r2.More, .int .i64 r2.Off, .int .i64 r2.Ttl, .int .i64 r2.Proto, .int .u32 r2.Src, .int .u32 r2.Dst, .string r2.Body] 91 (0, 0)), (b5, .cells #[.int .i64 r2.Tos, .int .i64 r2.Id, .bool r2.Whole, .bool r2.More, .int .i64 r2.Off, .int .i64 r2.Ttl, .int .i64 r2.Proto, .int .u32 r2.Src, .int .u32 r2.Dst, .string r2.Body] 91 (0, 0))]) (fun _ => [b1, b1, b1, b1, b1, b1, b1, b1, b1, b1, b5, b5, b5, b5, b5, b5, b5, b5, b5, b5]) (fun _ => by kernel_rfl) (fun _ => ?_)
    refine WP.keep [true, false] (by kernel_rfl : _ = [(b1, .cells #[.int .i64 r2.Tos, .int .i64 r2.Id, .bool r2.Whole, .bool r2.More, .int .i64 r2.Off, .int .i64 r2.Ttl, .int .i64 r2.Proto, .int .u32 r2.Src, .int .u32 r2.Dst, .string r2.Body] 91 (0, 0))]) ?_
    obtain rfl := Option.some.inj hM
    exact WP.ret [0, 0, 0, 0, 0, 0, 0, 0, 0, 0] [b1, b1, b1, b1, b1, b1, b1, b1, b1, b1] (.tuple #[.agg #[.int .i64 r2.Tos, .int .i64 r2.Id, .bool r2.Whole, .bool r2.More, .int .i64 r2.Off, .int .i64 r2.Ttl, .int .i64 r2.Proto, .int .u32 r2.Src, .int .u32 r2.Dst, .string r2.Body], .int .i64 0]) (by kernel_rfl) (fun w' hw => ⟨rfl, hw.pick [] rfl⟩)
  · dsimp only at hM
    refine WL.run 1 [] [2, 3, 4, 5, 12] (fun _ => [(2, .pointer (some ⟨b1, 0, none⟩)), (3, .int .i64 0), (4, .pointer (some ⟨b5, 0, none⟩)), (5, .iface 188 (.agg #[.int .i64 q6.err])), (12, .bool true)]) (fun _ => [(b1, .cells #[.int .i64 0, .int .i64 0, .bool false, .bool false, .int .i64 0, .int .i64 0, .int .i64 0, .int .u32 0, .int .u32 0, .string (⟨#[]⟩ : ByteArray)] 91 (0, 0)), (b5, .cells #[.int .i64 r2.Tos, .int .i64 r2.Id, .bool r2.Whole, .bool r2.More, .int .i64 r2.Off, .int .i64 r2.Ttl, .int .i64 r2.Proto, .int .u32 r2.Src, .int .u32 r2.Dst, .string r2.Body] 91 (0, 0))]) (fun _ => []) (fun _ => by kernel_rfl) (fun _ => ?_)
    refine WP.done ?_
    refine WP.yes rfl rfl ?_
    refine WP.seq ?_
    refine WP.region ?_
    refine WL.run 2 [] [2, 3, 4, 13, 14] (fun _ => [(2, .pointer (some ⟨b1, 0, none⟩)), (3, .int .i64 0), (4, .pointer (some ⟨b5, 0, none⟩)), (13, .agg #[.int .i64 0, .int .i64 0, .bool false, .bool false, .int .i64 0, .int .i64 0, .int .i64 0, .int .u32 0, .int .u32 0, .string (⟨#[]⟩ : ByteArray)]), (14, .iface 188 (.agg #[.int .i64 q6.err]))]) (fun _ => [(b1, .cells #[.int .i64 0, .int .i64 0, .bool false, .bool false, .int .i64 0, .int .i64 0, .int .i64 0, .int .u32 0, .int .u32 0, .string (⟨#[]⟩ : ByteArray)] 91 (0, 0)), (b5, .cells #[.int .i64 r2.Tos, .int .i64 r2.Id, .bool r2.Whole, .bool r2.More, .int .i64 r2.Off, .int .i64 r2.Ttl, .int .i64 r2.Proto, .int .u32 r2.Src, .int .u32 r2.Dst, .string r2.Body] 91 (0, 0))]) (fun _ => []) (fun _ => by kernel_rfl) (fun _ => ?_)
    obtain ⟨r7, h8, hM⟩ := bind_some hM
    refine WL.callP [] [] (inet_number_calls q6 _ h8) (fun _ h => h) (by kernel_rfl) (by kernel_rfl) rfl ?_
    refine WL.run 2 [0, 0, 0, 0, 0, 0, 0, 0, 0, 0] [2, 3, 4] (fun _ => [(2, .pointer (some ⟨b1, 0, none⟩)), (3, .int .i64 r7), (4, .pointer (some ⟨b5, 0, none⟩))]) (fun _ => [(b1, .cells #[.int .i64 0, .int .i64 0, .bool false, .bool false, .int .i64 0, .int .i64 0, .int .i64 0, .int .u32 0, .int .u32 0, .string (⟨#[]⟩ : ByteArray)] 91 (0, 0)), (b5, .cells #[.int .i64 r2.Tos, .int .i64 r2.Id, .bool r2.Whole, .bool r2.More, .int .i64 r2.Off, .int .i64 r2.Ttl, .int .i64 r2.Proto, .int .u32 r2.Src, .int .u32 r2.Dst, .string r2.Body] 91 (0, 0))]) (fun _ => [b1, b1, b1, b1, b1, b1, b1, b1, b1, b1]) (fun _ => by kernel_rfl) (fun _ => ?_)
    refine WP.done ?_
    obtain rfl := Option.some.inj hM
    exact WP.ret [0, 0, 0, 0, 0, 0, 0, 0, 0, 0] [b1, b1, b1, b1, b1, b1, b1, b1, b1, b1] (.tuple #[.agg #[.int .i64 0, .int .i64 0, .bool false, .bool false, .int .i64 0, .int .i64 0, .int .i64 0, .int .u32 0, .int .u32 0, .string (⟨#[]⟩ : ByteArray)], .int .i64 r7]) (by kernel_rfl) (fun w' hw => ⟨rfl, hw.pick [] rfl⟩)

end Go.Proofs.YtbodofjnfmjbpaaGreatDoor

namespace Go.Proofs.YtbodofjnfmjbpaaGreatDoor
open Go Eng
set_option linter.unusedVariables false
set_option linter.unusedSimpArgs false

/-! ### gangway/inet.Part: function 90 -/
def inet_Part.f (a0 : api_Ip) : Option (Bool) :=
  some (a0.More || (decide (a0.Off > 0)))

set_option maxRecDepth 100000 in
theorem inet_Part_calls (a0 : api_Ip) (r : Bool) (h : inet_Part.f a0 = some r) : Pure Tryz.prog Glob 90 #[.agg #[.int .i64 a0.Tos, .int .i64 a0.Id, .bool a0.Whole, .bool a0.More, .int .i64 a0.Off, .int .i64 a0.Ttl, .int .i64 a0.Proto, .int .u32 a0.Src, .int .u32 a0.Dst, .string a0.Body]] (.bool r) := by
  intro w Z hS
  refine calls_of (args := [.agg #[.int .i64 a0.Tos, .int .i64 a0.Id, .bool a0.Whole, .bool a0.More, .int .i64 a0.Off, .int .i64 a0.Ttl, .int .i64 a0.Proto, .int .u32 a0.Src, .int .u32 a0.Dst, .string a0.Body]]) (L := [(0, .agg #[.int .i64 a0.Tos, .int .i64 a0.Id, .bool a0.Whole, .bool a0.More, .int .i64 a0.Off, .int .i64 a0.Ttl, .int .i64 a0.Proto, .int .u32 a0.Src, .int .u32 a0.Dst, .string a0.Body])]) (N := 10) (S := Sat w Z [] [] Glob) Tryz.func90 rfl rfl (Nat.le_of_ble_eq_true rfl) rfl hS ?_
  have hM := h
  clear h hS
  unfold inet_Part.f at hM
  refine WP.seq ?_
  refine WP.run [] [1, 2] (fun b1 => [(1, .pointer (some ⟨b1, 0, none⟩)), (2, .bool false)]) (fun b1 => [(b1, .cells #[.int .i64 a0.Tos, .int .i64 a0.Id, .bool a0.Whole, .bool a0.More, .int .i64 a0.Off, .int .i64 a0.Ttl, .int .i64 a0.Proto, .int .u32 a0.Src, .int .u32 a0.Dst, .string a0.Body] 91 (0, 0))]) (fun b1 => []) (fun b1 => by kernel_rfl) (fun b1 => ?_)
  refine WP.seq ?_
  refine WP.region ?_
  refine WL.run 3 [0] [1, 2, 5] (fun _ => [(1, .pointer (some ⟨b1, 0, none⟩)), (2, .bool false), (5, .bool a0.More)]) (fun _ => [(b1, .cells #[.int .i64 a0.Tos, .int .i64 a0.Id, .bool a0.Whole, .bool a0.More, .int .i64 a0.Off, .int .i64 a0.Ttl, .int .i64 a0.Proto, .int .u32 a0.Src, .int .u32 a0.Dst, .string a0.Body] 91 (0, 0))]) (fun _ => [b1]) (fun _ => by kernel_rfl) (fun _ => ?_)
  refine WL.sub [1, 2, 5] (L' := [(1, .pointer (some ⟨b1, 0, none⟩)), (2, .bool false), (5, .bool a0.More)]) (by kernel_rfl) ?_
  refine WL.both (fun b' => [(1, .pointer (some ⟨b1, 0, none⟩)), (2, .bool false), (5, .bool b')]) a0.More 4 [] [0] [2, 9] (fun b' => [(2, .bool false), (9, .bool (b' || (decide (a0.Off > 0))))]) [] [b1] (fun _ => by kernel_rfl) (fun _ => by kernel_rfl) ?_
  refine WL.run 1 [] [2] (fun _ => [(2, .bool (a0.More || (decide (a0.Off > 0))))]) (fun _ => [(b1, .cells #[.int .i64 a0.Tos, .int .i64 a0.Id, .bool a0.Whole, .bool a0.More, .int .i64 a0.Off, .int .i64 a0.Ttl, .int .i64 a0.Proto, .int .u32 a0.Src, .int .u32 a0.Dst, .string a0.Body] 91 (0, 0))]) (fun _ => []) (fun _ => by kernel_rfl) (fun _ => ?_)
  refine WP.done ?_
  refine WP.keep [false] (by kernel_rfl : _ = []) ?_
  obtain rfl := Option.some.inj hM
  exact WP.ret [] [] (.bool (a0.More || (decide (a0.Off > 0)))) (by kernel_rfl) (fun w' hw => ⟨rfl, hw.pick [] rfl⟩)

end Go.Proofs.YtbodofjnfmjbpaaGreatDoor

namespace Go.Proofs.YtbodofjnfmjbpaaGreatDoor
open Go Eng
set_option linter.unusedVariables false
set_option linter.unusedSimpArgs false

/-! ### gangway/station.packet: function 57 -/
def station_packet.f (k : Nat) (a0 : Int) (a1 : ByteArray) : Option (api_Ip × Un2) :=
  (inet_Parse.f k a1).bind fun (r2, r3) =>
  bif ((r3 != 0) || (r2.Ttl == 0)) then
    (station_not.f (⟨#[112, 97, 99, 107, 101, 116]⟩ : ByteArray) 4).bind fun r8 =>
    some (r2, some (r8.1, r8.2))
  else
    bif (r2.Dst != a0) then
      (station_not.f (⟨#[112, 97, 99, 107, 101, 116]⟩ : ByteArray) 2).bind fun r12 =>
      some (r2, some (r12.1, r12.2))
    else
      (inet_Part.f r2).bind fun r14 =>
      bif r14 then
        (station_not.f (⟨#[112, 97, 99, 107, 101, 116]⟩ : ByteArray) 5).bind fun r18 =>
        some (r2, some (r18.1, r18.2))
      else
        some (r2, none)

set_option maxRecDepth 100000 in
theorem station_packet_calls (k : Nat) (a0 : Int) (a1 : ByteArray) (r : api_Ip × Un2) (h : station_packet.f k a0 a1 = some r) : Pure Tryz.prog Glob 57 #[.int .u32 a0, .string a1] (.tuple #[.agg #[.int .i64 r.1.Tos, .int .i64 r.1.Id, .bool r.1.Whole, .bool r.1.More, .int .i64 r.1.Off, .int .i64 r.1.Ttl, .int .i64 r.1.Proto, .int .u32 r.1.Src, .int .u32 r.1.Dst, .string r.1.Body], Un2.v r.2]) := by
  intro w Z hS
  refine calls_of (args := [.int .u32 a0, .string a1]) (L := [(0, .int .u32 a0), (1, .string a1)]) (N := 36) (S := Sat w Z [] [] Glob) Tryz.func57 rfl rfl (Nat.le_of_ble_eq_true rfl) rfl hS ?_
  have hM := h
  clear h hS
  unfold station_packet.f at hM
  refine WP.seq ?_
  refine WP.run [] [0, 1, 4, 5] (fun b1 => [(0, .int .u32 a0), (1, .string a1), (4, .pointer (some ⟨b1, 0, none⟩)), (5, .nilIface)]) (fun b1 => [(b1, .cells #[.int .i64 0, .int .i64 0, .bool false, .bool false, .int .i64 0, .int .i64 0, .int .i64 0, .int .u32 0, .int .u32 0, .string (⟨#[]⟩ : ByteArray)] 91 (0, 0))]) (fun b1 => []) (fun b1 => by kernel_rfl) (fun b1 => ?_)
  refine WP.seq ?_
  refine WP.region ?_
  refine WL.run 1 [] [0, 4, 5, 9] (fun _ => [(0, .int .u32 a0), (4, .pointer (some ⟨b1, 0, none⟩)), (5, .nilIface), (9, .string a1)]) (fun _ => [(b1, .cells #[.int .i64 0, .int .i64 0, .bool false, .bool false, .int .i64 0, .int .i64 0, .int .i64 0, .int .u32 0, .int .u32 0, .string (⟨#[]⟩ : ByteArray)] 91 (0, 0))]) (fun _ => []) (fun _ => by kernel_rfl) (fun _ => ?_)
  obtain ⟨⟨r2, r3⟩, h4, hM⟩ := bind_some hM
  dsimp only at hM
  refine WL.callP [] [] (inet_Parse_calls k a1 _ h4) (fun _ h => h) (by kernel_rfl) (by kernel_rfl) rfl ?_
  refine WL.run 6 [1, 1, 1, 1, 1, 1, 1, 1, 1, 1] [0, 4, 5, 6, 7] (fun b5 => [(0, .int .u32 a0), (4, .pointer (some ⟨b1, 0, none⟩)), (5, .nilIface), (6, .pointer (some ⟨b5, 0, none⟩)), (7, .int .i64 r3)]) (fun b5 => [(b1, .cells #[.int .i64 0, .int .i64 0, .bool false, .bool false, .int .i64 0, .int .i64 0, .int .i64 0, .int .u32 0, .int .u32 0, .string (⟨#[]⟩ : ByteArray)] 91 (0, 0)), (b5, .cells #[.int .i64 r2.Tos, .int .i64 r2.Id, .bool r2.Whole, .bool r2.More, .int .i64 r2.Off, .int .i64 r2.Ttl, .int .i64 r2.Proto, .int .u32 r2.Src, .int .u32 r2.Dst, .string r2.Body] 91 (0, 0))]) (fun b5 => [b5, b5, b5, b5, b5, b5, b5, b5, b5, b5]) (fun b5 => by kernel_rfl) (fun b5 => ?_)
  refine WP.done ?_
  refine WP.seq ?_
  refine WP.block ?_
  refine WP.seq ?_
  refine WP.region ?_
  refine WL.run 3 [] [0, 4, 5, 6, 16] (fun _ => [(0, .int .u32 a0), (4, .pointer (some ⟨b1, 0, none⟩)), (5, .nilIface), (6, .pointer (some ⟨b5, 0, none⟩)), (16, .bool (r3 != 0))]) (fun _ => [(b1, .cells #[.int .i64 0, .int .i64 0, .bool false, .bool false, .int .i64 0, .int .i64 0, .int .i64 0, .int .u32 0, .int .u32 0, .string (⟨#[]⟩ : ByteArray)] 91 (0, 0)), (b5, .cells #[.int .i64 r2.Tos, .int .i64 r2.Id, .bool r2.Whole, .bool r2.More, .int .i64 r2.Off, .int .i64 r2.Ttl, .int .i64 r2.Proto, .int .u32 r2.Src, .int .u32 r2.Dst, .string r2.Body] 91 (0, 0))]) (fun _ => []) (fun _ => by kernel_rfl) (fun _ => ?_)
  refine WL.sub [0, 4, 5, 6, 16] (L' := [(0, .int .u32 a0), (4, .pointer (some ⟨b1, 0, none⟩)), (5, .nilIface), (6, .pointer (some ⟨b5, 0, none⟩)), (16, .bool (r3 != 0))]) (by kernel_rfl) ?_
  refine WL.both (fun b' => [(0, .int .u32 a0), (4, .pointer (some ⟨b1, 0, none⟩)), (5, .nilIface), (6, .pointer (some ⟨b5, 0, none⟩)), (16, .bool b')]) (r3 != 0) 4 [] [1] [0, 4, 5, 6, 20] (fun b' => [(0, .int .u32 a0), (4, .pointer (some ⟨b1, 0, none⟩)), (5, .nilIface), (6, .pointer (some ⟨b5, 0, none⟩)), (20, .bool (b' || (r2.Ttl == 0)))]) [] [b5] (fun _ => by kernel_rfl) (fun _ => by kernel_rfl) ?_
  refine WL.run 1 [] [0, 4, 5, 6, 13] (fun _ => [(0, .int .u32 a0), (4, .pointer (some ⟨b1, 0, none⟩)), (5, .nilIface), (6, .pointer (some ⟨b5, 0, none⟩)), (13, .bool ((r3 != 0) || (r2.Ttl == 0)))]) (fun _ => [(b1, .cells #[.int .i64 0, .int .i64 0, .bool false, .bool false, .int .i64 0, .int .i64 0, .int .i64 0, .int .u32 0, .int .u32 0, .string (⟨#[]⟩ : ByteArray)] 91 (0, 0)), (b5, .cells #[.int .i64 r2.Tos, .int .i64 r2.Id, .bool r2.Whole, .bool r2.More, .int .i64 r2.Off, .int .i64 r2.Ttl, .int .i64 r2.Proto, .int .u32 r2.Src, .int .u32 r2.Dst, .string r2.Body] 91 (0, 0))]) (fun _ => []) (fun _ => by kernel_rfl) (fun _ => ?_)
  refine WP.done ?_
  refine WP.cond ((r3 != 0) || (r2.Ttl == 0)) rfl rfl (fun c6 => ?_) (fun c6 => ?_)
  · replace hM := cond_t hM c6
    refine WP.seq ?_
    obtain ⟨r8, h9, hM⟩ := bind_some hM
    refine WP.sub [4, 5, 6] (L' := [(4, .pointer (some ⟨b1, 0, none⟩)), (5, .nilIface), (6, .pointer (some ⟨b5, 0, none⟩))]) (by kernel_rfl) ?_
    refine WP.mixed (X := Unit) 2 [.val (.agg #[.int .i64 r2.Tos, .int .i64 r2.Id, .bool r2.Whole, .bool r2.More, .int .i64 r2.Off, .int .i64 r2.Ttl, .int .i64 r2.Proto, .int .u32 r2.Src, .int .u32 r2.Dst, .string r2.Body]), .val (.iface 138 (.agg #[.string r8.1, .iface 80 (.agg #[.int .i64 r8.2.n])]))] [(b1, .cells #[.int .i64 0, .int .i64 0, .bool false, .bool false, .int .i64 0, .int .i64 0, .int .i64 0, .int .u32 0, .int .u32 0, .string (⟨#[]⟩ : ByteArray)] 91 (0, 0)), (b5, .cells #[.int .i64 r2.Tos, .int .i64 r2.Id, .bool r2.Whole, .bool r2.More, .int .i64 r2.Off, .int .i64 r2.Ttl, .int .i64 r2.Proto, .int .u32 r2.Src, .int .u32 r2.Dst, .string r2.Body] 91 (0, 0))] [] (by kernel_rfl) (by kernel_rfl) (by kernel_rfl) (by kernel_rfl) (Heads.val (fun tt Ψ => OpV.run [1, 1, 1, 1, 1, 1, 1, 1, 1, 1] [b5, b5, b5, b5, b5, b5, b5, b5, b5, b5] (by kernel_rfl) (fun _ => by kernel_rfl)) (Heads.val (fun tt Ψ => OpV.callF [] [] (fun _ h => (List.mem_append_right _ h)) (station_not_calls (⟨#[112, 97, 99, 107, 101, 116]⟩ : ByteArray) 4 _ h9)  (fun _ => by kernel_rfl)) Heads.nil)) (fun s7 tt => [(21, .agg #[.int .i64 r2.Tos, .int .i64 r2.Id, .bool r2.Whole, .bool r2.More, .int .i64 r2.Off, .int .i64 r2.Ttl, .int .i64 r2.Proto, .int .u32 r2.Src, .int .u32 r2.Dst, .string r2.Body]), (22, .iface 138 (.agg #[.string r8.1, .iface 80 (.agg #[.int .i64 r8.2.n])])), (4, .pointer (some ⟨b1, 0, none⟩)), (5, .nilIface), (6, .pointer (some ⟨b5, 0, none⟩))]) (fun s7 tt => [(b1, .cells #[.int .i64 0, .int .i64 0, .bool false, .bool false, .int .i64 0, .int .i64 0, .int .i64 0, .int .u32 0, .int .u32 0, .string (⟨#[]⟩ : ByteArray)] 91 (0, 0)), (b5, .cells #[.int .i64 r2.Tos, .int .i64 r2.Id, .bool r2.Whole, .bool r2.More, .int .i64 r2.Off, .int .i64 r2.Ttl, .int .i64 r2.Proto, .int .u32 r2.Src, .int .u32 r2.Dst, .string r2.Body] 91 (0, 0))]) (fun tt => Glob) (fun _ _ => by kernel_rfl) (fun _ _ => by kernel_rfl) (fun _ => by kernel_rfl) (fun s7 tt => ?_)
    refine WL.run 2 [0, 0, 0, 0, 0, 0, 0, 0, 0, 0] [4, 5, 6] (fun _ => [(4, .pointer (some ⟨b1, 0, none⟩)), (5, .iface 138 (.agg #[.string r8.1, .iface 80 (.agg #[.int .i64 r8.2.n])])), (6, .pointer (some ⟨b5, 0, none⟩))]) (fun _ => [(b1, .cells #[.int .i64 r2.Tos, .int .i64 r2.Id, .bool r2.Whole, .bool r2.More, .int .i64 r2.Off, .int .i64 r2.Ttl, .int .i64 r2.Proto, .int .u32 r2.Src, .int .u32 r2.Dst, .string r2.Body] 91 (0, 0)), (b5, .cells #[.int .i64 r2.Tos, .int .i64 r2.Id, .bool r2.Whole, .bool r2.More, .int .i64 r2.Off, .int .i64 r2.Ttl, .int .i64 r2.Proto, .int .u32 r2.Src, .int .u32 r2.Dst, .string r2.Body] 91 (0, 0))]) (fun _ => [b1, b1, b1, b1, b1, b1, b1, b1, b1, b1]) (fun _ => by kernel_rfl) (fun _ => ?_)
    refine WP.done ?_
    obtain rfl := Option.some.inj hM
    exact WP.ret [0, 0, 0, 0, 0, 0, 0, 0, 0, 0] [b1, b1, b1, b1, b1, b1, b1, b1, b1, b1] (.tuple #[.agg #[.int .i64 r2.Tos, .int .i64 r2.Id, .bool r2.Whole, .bool r2.More, .int .i64 r2.Off, .int .i64 r2.Ttl, .int .i64 r2.Proto, .int .u32 r2.Src, .int .u32 r2.Dst, .string r2.Body], .iface 138 (.agg #[.string r8.1, .iface 80 (.agg #[.int .i64 r8.2.n])])]) (by kernel_rfl) (fun w' hw => ⟨rfl, hw.pick [] rfl⟩)
  · replace hM := cond_f hM c6
    refine WP.seq ?_
    refine WP.run [1] [4, 5, 6, 23] (fun _ => [(4, .pointer (some ⟨b1, 0, none⟩)), (5, .nilIface), (6, .pointer (some ⟨b5, 0, none⟩)), (23, .bool (r2.Dst != a0))]) (fun _ => [(b1, .cells #[.int .i64 0, .int .i64 0, .bool false, .bool false, .int .i64 0, .int .i64 0, .int .i64 0, .int .u32 0, .int .u32 0, .string (⟨#[]⟩ : ByteArray)] 91 (0, 0)), (b5, .cells #[.int .i64 r2.Tos, .int .i64 r2.Id, .bool r2.Whole, .bool r2.More, .int .i64 r2.Off, .int .i64 r2.Ttl, .int .i64 r2.Proto, .int .u32 r2.Src, .int .u32 r2.Dst, .string r2.Body] 91 (0, 0))]) (fun _ => [b5]) (fun _ => by kernel_rfl) (fun _ => ?_)
    refine WP.cond (r2.Dst != a0) rfl rfl (fun c10 => ?_) (fun c10 => ?_)
    · replace hM := cond_t hM c10
      refine WP.seq ?_
      obtain ⟨r12, h13, hM⟩ := bind_some hM
      refine WP.sub [4, 5, 6] (L' := [(4, .pointer (some ⟨b1, 0, none⟩)), (5, .nilIface), (6, .pointer (some ⟨b5, 0, none⟩))]) (by kernel_rfl) ?_
      refine WP.mixed (X := Unit) 2 [.val (.agg #[.int .i64 r2.Tos, .int .i64 r2.Id, .bool r2.Whole, .bool r2.More, .int .i64 r2.Off, .int .i64 r2.Ttl, .int .i64 r2.Proto, .int .u32 r2.Src, .int .u32 r2.Dst, .string r2.Body]), .val (.iface 138 (.agg #[.string r12.1, .iface 80 (.agg #[.int .i64 r12.2.n])]))] [(b1, .cells #[.int .i64 0, .int .i64 0, .bool false, .bool false, .int .i64 0, .int .i64 0, .int .i64 0, .int .u32 0, .int .u32 0, .string (⟨#[]⟩ : ByteArray)] 91 (0, 0)), (b5, .cells #[.int .i64 r2.Tos, .int .i64 r2.Id, .bool r2.Whole, .bool r2.More, .int .i64 r2.Off, .int .i64 r2.Ttl, .int .i64 r2.Proto, .int .u32 r2.Src, .int .u32 r2.Dst, .string r2.Body] 91 (0, 0))] [] (by kernel_rfl) (by kernel_rfl) (by kernel_rfl) (by kernel_rfl) (Heads.val (fun tt Ψ => OpV.run [1, 1, 1, 1, 1, 1, 1, 1, 1, 1] [b5, b5, b5, b5, b5, b5, b5, b5, b5, b5] (by kernel_rfl) (fun _ => by kernel_rfl)) (Heads.val (fun tt Ψ => OpV.callF [] [] (fun _ h => (List.mem_append_right _ h)) (station_not_calls (⟨#[112, 97, 99, 107, 101, 116]⟩ : ByteArray) 2 _ h13)  (fun _ => by kernel_rfl)) Heads.nil)) (fun s11 tt => [(28, .agg #[.int .i64 r2.Tos, .int .i64 r2.Id, .bool r2.Whole, .bool r2.More, .int .i64 r2.Off, .int .i64 r2.Ttl, .int .i64 r2.Proto, .int .u32 r2.Src, .int .u32 r2.Dst, .string r2.Body]), (29, .iface 138 (.agg #[.string r12.1, .iface 80 (.agg #[.int .i64 r12.2.n])])), (4, .pointer (some ⟨b1, 0, none⟩)), (5, .nilIface), (6, .pointer (some ⟨b5, 0, none⟩))]) (fun s11 tt => [(b1, .cells #[.int .i64 0, .int .i64 0, .bool false, .bool false, .int .i64 0, .int .i64 0, .int .i64 0, .int .u32 0, .int .u32 0, .string (⟨#[]⟩ : ByteArray)] 91 (0, 0)), (b5, .cells #[.int .i64 r2.Tos, .int .i64 r2.Id, .bool r2.Whole, .bool r2.More, .int .i64 r2.Off, .int .i64 r2.Ttl, .int .i64 r2.Proto, .int .u32 r2.Src, .int .u32 r2.Dst, .string r2.Body] 91 (0, 0))]) (fun tt => Glob) (fun _ _ => by kernel_rfl) (fun _ _ => by kernel_rfl) (fun _ => by kernel_rfl) (fun s11 tt => ?_)
      refine WL.run 2 [0, 0, 0, 0, 0, 0, 0, 0, 0, 0] [4, 5, 6] (fun _ => [(4, .pointer (some ⟨b1, 0, none⟩)), (5, .iface 138 (.agg #[.string r12.1, .iface 80 (.agg #[.int .i64 r12.2.n])])), (6, .pointer (some ⟨b5, 0, none⟩))]) (fun _ => [(b1, .cells #[.int .i64 r2.Tos, .int .i64 r2.Id, .bool r2.Whole, .bool r2.More, .int .i64 r2.Off, .int .i64 r2.Ttl, .int .i64 r2.Proto, .int .u32 r2.Src, .int .u32 r2.Dst, .string r2.Body] 91 (0, 0)), (b5, .cells #[.int .i64 r2.Tos, .int .i64 r2.Id, .bool r2.Whole, .bool r2.More, .int .i64 r2.Off, .int .i64 r2.Ttl, .int .i64 r2.Proto, .int .u32 r2.Src, .int .u32 r2.Dst, .string r2.Body] 91 (0, 0))]) (fun _ => [b1, b1, b1, b1, b1, b1, b1, b1, b1, b1]) (fun _ => by kernel_rfl) (fun _ => ?_)
      refine WP.done ?_
      obtain rfl := Option.some.inj hM
      exact WP.ret [0, 0, 0, 0, 0, 0, 0, 0, 0, 0] [b1, b1, b1, b1, b1, b1, b1, b1, b1, b1] (.tuple #[.agg #[.int .i64 r2.Tos, .int .i64 r2.Id, .bool r2.Whole, .bool r2.More, .int .i64 r2.Off, .int .i64 r2.Ttl, .int .i64 r2.Proto, .int .u32 r2.Src, .int .u32 r2.Dst, .string r2.Body], .iface 138 (.agg #[.string r12.1, .iface 80 (.agg #[.int .i64 r12.2.n])])]) (by kernel_rfl) (fun w' hw => ⟨rfl, hw.pick [] rfl⟩)
    · replace hM := cond_f hM c10
      refine WP.seq ?_
      refine WP.region ?_
      refine WL.run 1 [1, 1, 1, 1, 1, 1, 1, 1, 1, 1] [4, 5, 6, 31] (fun _ => [(4, .pointer (some ⟨b1, 0, none⟩)), (5, .nilIface), (6, .pointer (some ⟨b5, 0, none⟩)), (31, .agg #[.int .i64 r2.Tos, .int .i64 r2.Id, .bool r2.Whole, .bool r2.More, .int .i64 r2.Off, .int .i64 r2.Ttl, .int .i64 r2.Proto, .int .u32 r2.Src, .int .u32 r2.Dst, .string r2.Body])]) (fun _ => [(b1, .cells #[.int .i64 0, .int .i64 0, .bool false, .bool false, .int .i64 0, .int .i64 0, .int .i64 0, .int .u32 0, .int .u32 0, .string (⟨#[]⟩ : ByteArray)] 91 (0, 0)), (b5, .cells #[.int .i64 r2.Tos, .int .i64 r2.Id, .bool r2.Whole, .bool r2.More, .int .i64 r2.Off, .int .i64 r2.Ttl, .int .i64 r2.Proto, .int .u32 r2.Src, .int .u32 r2.Dst, .string r2.Body] 91 (0, 0))]) (fun _ => [b5, b5, b5, b5, b5, b5, b5, b5, b5, b5]) (fun _ => by kernel_rfl) (fun _ => ?_)
      obtain ⟨r14, h15, hM⟩ := bind_some hM
      refine WL.callP [] [] (inet_Part_calls r2 _ h15) (fun _ h => h) (by kernel_rfl) (by kernel_rfl) rfl ?_
      refine WL.run 1 [] [4, 5, 6, 30] (fun _ => [(4, .pointer (some ⟨b1, 0, none⟩)), (5, .nilIface), (6, .pointer (some ⟨b5, 0, none⟩)), (30, .bool r14)]) (fun _ => [(b1, .cells #[.int .i64 0, .int .i64 0, .bool false, .bool false, .int .i64 0, .int .i64 0, .int .i64 0, .int .u32 0, .int .u32 0, .string (⟨#[]⟩ : ByteArray)] 91 (0, 0)), (b5, .cells #[.int .i64 r2.Tos, .int .i64 r2.Id, .bool r2.Whole, .bool r2.More, .int .i64 r2.Off, .int .i64 r2.Ttl, .int .i64 r2.Proto, .int .u32 r2.Src, .int .u32 r2.Dst, .string r2.Body] 91 (0, 0))]) (fun _ => []) (fun _ => by kernel_rfl) (fun _ => ?_)
      refine WP.done ?_
      refine WP.cond r14 rfl rfl (fun c16 => ?_) (fun c16 => ?_)
      · replace hM := cond_t hM c16
        refine WP.seq ?_
        obtain ⟨r18, h19, hM⟩ := bind_some hM
        refine WP.sub [4, 5, 6] (L' := [(4, .pointer (some ⟨b1, 0, none⟩)), (5, .nilIface), (6, .pointer (some ⟨b5, 0, none⟩))]) (by kernel_rfl) ?_
        refine WP.mixed (X := Unit) 2 [.val (.agg #[.int .i64 r2.Tos, .int .i64 r2.Id, .bool r2.Whole, .bool r2.More, .int .i64 r2.Off, .int .i64 r2.Ttl, .int .i64 r2.Proto, .int .u32 r2.Src, .int .u32 r2.Dst, .string r2.Body]), .val (.iface 138 (.agg #[.string r18.1, .iface 80 (.agg #[.int .i64 r18.2.n])]))] [(b1, .cells #[.int .i64 0, .int .i64 0, .bool false, .bool false, .int .i64 0, .int .i64 0, .int .i64 0, .int .u32 0, .int .u32 0, .string (⟨#[]⟩ : ByteArray)] 91 (0, 0)), (b5, .cells #[.int .i64 r2.Tos, .int .i64 r2.Id, .bool r2.Whole, .bool r2.More, .int .i64 r2.Off, .int .i64 r2.Ttl, .int .i64 r2.Proto, .int .u32 r2.Src, .int .u32 r2.Dst, .string r2.Body] 91 (0, 0))] [] (by kernel_rfl) (by kernel_rfl) (by kernel_rfl) (by kernel_rfl) (Heads.val (fun tt Ψ => OpV.run [1, 1, 1, 1, 1, 1, 1, 1, 1, 1] [b5, b5, b5, b5, b5, b5, b5, b5, b5, b5] (by kernel_rfl) (fun _ => by kernel_rfl)) (Heads.val (fun tt Ψ => OpV.callF [] [] (fun _ h => (List.mem_append_right _ h)) (station_not_calls (⟨#[112, 97, 99, 107, 101, 116]⟩ : ByteArray) 5 _ h19)  (fun _ => by kernel_rfl)) Heads.nil)) (fun s17 tt => [(33, .agg #[.int .i64 r2.Tos, .int .i64 r2.Id, .bool r2.Whole, .bool r2.More, .int .i64 r2.Off, .int .i64 r2.Ttl, .int .i64 r2.Proto, .int .u32 r2.Src, .int .u32 r2.Dst, .string r2.Body]), (34, .iface 138 (.agg #[.string r18.1, .iface 80 (.agg #[.int .i64 r18.2.n])])), (4, .pointer (some ⟨b1, 0, none⟩)), (5, .nilIface), (6, .pointer (some ⟨b5, 0, none⟩))]) (fun s17 tt => [(b1, .cells #[.int .i64 0, .int .i64 0, .bool false, .bool false, .int .i64 0, .int .i64 0, .int .i64 0, .int .u32 0, .int .u32 0, .string (⟨#[]⟩ : ByteArray)] 91 (0, 0)), (b5, .cells #[.int .i64 r2.Tos, .int .i64 r2.Id, .bool r2.Whole, .bool r2.More, .int .i64 r2.Off, .int .i64 r2.Ttl, .int .i64 r2.Proto, .int .u32 r2.Src, .int .u32 r2.Dst, .string r2.Body] 91 (0, 0))]) (fun tt => Glob) (fun _ _ => by kernel_rfl) (fun _ _ => by kernel_rfl) (fun _ => by kernel_rfl) (fun s17 tt => ?_)
        refine WL.run 2 [0, 0, 0, 0, 0, 0, 0, 0, 0, 0] [4, 5, 6] (fun _ => [(4, .pointer (some ⟨b1, 0, none⟩)), (5, .iface 138 (.agg #[.string r18.1, .iface 80 (.agg #[.int .i64 r18.2.n])])), (6, .pointer (some ⟨b5, 0, none⟩))]) (fun _ => [(b1, .cells #[.int .i64 r2.Tos, .int .i64 r2.Id, .bool r2.Whole, .bool r2.More, .int .i64 r2.Off, .int .i64 r2.Ttl, .int .i64 r2.Proto, .int .u32 r2.Src, .int .u32 r2.Dst, .string r2.Body] 91 (0, 0)), (b5, .cells #[.int .i64 r2.Tos, .int .i64 r2.Id, .bool r2.Whole, .bool r2.More, .int .i64 r2.Off, .int .i64 r2.Ttl, .int .i64 r2.Proto, .int .u32 r2.Src, .int .u32 r2.Dst, .string r2.Body] 91 (0, 0))]) (fun _ => [b1, b1, b1, b1, b1, b1, b1, b1, b1, b1]) (fun _ => by kernel_rfl) (fun _ => ?_)
        refine WP.done ?_
        obtain rfl := Option.some.inj hM
        exact WP.ret [0, 0, 0, 0, 0, 0, 0, 0, 0, 0] [b1, b1, b1, b1, b1, b1, b1, b1, b1, b1] (.tuple #[.agg #[.int .i64 r2.Tos, .int .i64 r2.Id, .bool r2.Whole, .bool r2.More, .int .i64 r2.Off, .int .i64 r2.Ttl, .int .i64 r2.Proto, .int .u32 r2.Src, .int .u32 r2.Dst, .string r2.Body], .iface 138 (.agg #[.string r18.1, .iface 80 (.agg #[.int .i64 r18.2.n])])]) (by kernel_rfl) (fun w' hw => ⟨rfl, hw.pick [] rfl⟩)
      · replace hM := cond_f hM c16
        refine WP.skip ?_
        refine WP.leave ?_
        refine WP.seq ?_
        refine WP.run [1, 1, 1, 1, 1, 1, 1, 1, 1, 1, 0, 0, 0, 0, 0, 0, 0, 0, 0, 0] [4, 5] (fun _ => [(4, .pointer (some ⟨b1, 0, none⟩)), (5, .nilIface)]) (fun _ => [(b1, .cells #[.int .i64 r2.Tos, .int .i64 r2.Id, .bool r2.Whole, .bool r2.More, .int .i64 r2.Off, .int .i64 r2.Ttl, .int .i64 r2.Proto, .int .u32 r2.Src, .int .u32 r2.Dst, .string r2.Body] 91 (0, 0)), (b5, .cells #[.int .i64 r2.Tos, .int .i64 r2.Id, .bool r2.Whole, .bool r2.More, .int .i64 r2.Off, .int .i64 r2.Ttl, .int .i64 r2.Proto, .int .u32 r2.Src, .int .u32 r2.Dst, .string r2.Body] 91 (0, 0))]) (fun _ => [b1, b1, b1, b1, b1, b1, b1, b1, b1, b1, b5, b5, b5, b5, b5, b5, b5, b5, b5, b5]) (fun _ => by kernel_rfl) (fun _ => ?_)
        refine WP.keep [true, false] (by kernel_rfl : _ = [(b1, .cells #[.int .i64 r2.Tos, .int .i64 r2.Id, .bool r2.Whole, .bool r2.More, .int .i64 r2.Off, .int .i64 r2.Ttl, .int .i64 r2.Proto, .int .u32 r2.Src, .int .u32 r2.Dst, .string r2.Body] 91 (0, 0))]) ?_
        obtain rfl := Option.some.inj hM
        exact WP.ret [0, 0, 0, 0, 0, 0, 0, 0, 0, 0] [b1, b1, b1, b1, b1, b1, b1, b1, b1, b1] (.tuple #[.agg #[.int .i64 r2.Tos, .int .i64 r2.Id, .bool r2.Whole, .bool r2.More, .int .i64 r2.Off, .int .i64 r2.Ttl, .int .i64 r2.Proto, .int .u32 r2.Src, .int .u32 r2.Dst, .string r2.Body], .nilIface]) (by kernel_rfl) (fun w' hw => ⟨rfl, hw.pick [] rfl⟩)

end Go.Proofs.YtbodofjnfmjbpaaGreatDoor
