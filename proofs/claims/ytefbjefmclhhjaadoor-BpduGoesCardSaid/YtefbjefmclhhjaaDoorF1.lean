/- The walks of the functions that the laws reach: each shows that a call returns what its plain model says, wherever the model gives an answer. -/
import Derived.Test.YtefbjefmclhhjaaDoorProg
import Derived.Test.YtefbjefmclhhjaaDoorE1

namespace Go.Proofs.YtefbjefmclhhjaaDoor
open Go Eng
set_option linter.unusedVariables false

/-- What is known of the package-level variables. -/
def Glob : List Pr := [fun w => w.cell? ⟨0, 0, none⟩ = some (.iface 93 (.agg #[.pointer (some ⟨1, 52, none⟩)]))]

structure api_Tag where
  Has : Bool
  Pri : Int
  Dei : Bool
  Vid : Int

structure api_Frame where
  Dst : Int
  Src : Int
  Tag : api_Tag
  Type_ : Int
  Body : ByteArray

structure ether_reader where
  s : ByteArray
  at_ : Int

abbrev Un0 : Type := (Option (Int × Int))
def Un0.v : Un0 → Value
  | none => .nilIface
  | some (q1, q2) => .iface 125 (.agg #[.int .i64 q1, .iface 27 (.int .i64 q2)])

abbrev Un1 : Type := (Option (ByteArray × Int))
def Un1.v : Un1 → Value
  | none => .nilIface
  | some (q1, q2) => .iface 91 (.agg #[.string q1, .iface 27 (.int .i64 q2)])

structure api_Bpdu where
  Kind : Int
  Change : Bool
  Propose : Bool
  Learn : Bool
  Forward : Bool
  Agree : Bool
  Ack : Bool
  Role : Int
  Root : Int
  Cost : Int
  Bridge : Int
  Port : Int
  Age : Int
  MaxAge : Int
  Hello : Int
  Delay : Int

end Go.Proofs.YtefbjefmclhhjaaDoor

namespace Go.Proofs.YtefbjefmclhhjaaDoor
open Go Eng
set_option linter.unusedVariables false
set_option linter.unusedSimpArgs false

/-! ### gangway/ether.tag: function 30 -/
def ether_tag.f (a0 : api_Tag) : Option (Bool) :=
  bif !a0.Has then
    some ((a0.Has == false) && ((a0.Pri == 0) && ((a0.Dei == false) && ((a0.Vid == 0) && true))))
  else
    some ((((decide (a0.Pri ≥ 0)) && (decide (a0.Pri < 8))) && (decide (a0.Vid ≥ 0))) && (decide (a0.Vid < 4096)))

set_option maxRecDepth 100000 in
theorem ether_tag_calls (a0 : api_Tag) (r : Bool) (h : ether_tag.f a0 = some r) : Pure Tryd.prog Glob 30 #[.agg #[.bool a0.Has, .int .i64 a0.Pri, .bool a0.Dei, .int .i64 a0.Vid]] (.bool r) := by
  intro w Z hS
  refine calls_of (args := [.agg #[.bool a0.Has, .int .i64 a0.Pri, .bool a0.Dei, .int .i64 a0.Vid]]) (L := [(0, .agg #[.bool a0.Has, .int .i64 a0.Pri, .bool a0.Dei, .int .i64 a0.Vid])]) (N := 27) (S := Sat w Z [] [] Glob) Tryd.func30 rfl rfl (Nat.le_of_ble_eq_true rfl) rfl hS ?_
  have hM := h
  clear h hS
  unfold ether_tag.f at hM
  refine WP.seq ?_
  refine WP.run [] [1, 2] (fun b1 => [(1, .pointer (some ⟨b1, 0, none⟩)), (2, .bool false)]) (fun b1 => [(b1, .cells #[.bool a0.Has, .int .i64 a0.Pri, .bool a0.Dei, .int .i64 a0.Vid] 24 (0, 0))]) (fun b1 => []) (fun b1 => by kernel_rfl) (fun b1 => ?_)
  refine WP.seq ?_
  refine WP.seq ?_
  refine WP.run [0] [1, 2, 5] (fun _ => [(1, .pointer (some ⟨b1, 0, none⟩)), (2, .bool false), (5, .bool (!a0.Has))]) (fun _ => [(b1, .cells #[.bool a0.Has, .int .i64 a0.Pri, .bool a0.Dei, .int .i64 a0.Vid] 24 (0, 0))]) (fun _ => [b1]) (fun _ => by kernel_rfl) (fun _ => ?_)
  refine WP.cond (!a0.Has) rfl rfl (fun c2 => ?_) (fun c2 => ?_)
  · replace hM := cond_t hM c2
    refine WP.seq ?_
    refine WP.region ?_
    refine WL.run 2 [0, 0, 0, 0] [1, 2, 6, 7] (fun _ => [(1, .pointer (some ⟨b1, 0, none⟩)), (2, .bool false), (6, .agg #[.bool a0.Has, .int .i64 a0.Pri, .bool a0.Dei, .int .i64 a0.Vid]), (7, .agg #[.bool false, .int .i64 0, .bool false, .int .i64 0])]) (fun _ => [(b1, .cells #[.bool a0.Has, .int .i64 a0.Pri, .bool a0.Dei, .int .i64 a0.Vid] 24 (0, 0))]) (fun _ => [b1, b1, b1, b1]) (fun _ => by kernel_rfl) (fun _ => ?_)
    refine WL.val (fun _ => run_structEq (xs := #[.bool a0.Has, .int .i64 a0.Pri, .bool a0.Dei, .int .i64 a0.Vid]) (ys := #[.bool false, .int .i64 0, .bool false, .int .i64 0]) (b := ((a0.Has == false) && ((a0.Pri == 0) && ((a0.Dei == false) && ((a0.Vid == 0) && true))))) (by kernel_rfl) (by kernel_rfl) (by kernel_rfl) (by kernel_rfl)) (by kernel_rfl) (by kernel_rfl) rfl ?_
    refine WL.run 1 [] [1, 2] (fun _ => [(1, .pointer (some ⟨b1, 0, none⟩)), (2, .bool ((a0.Has == false) && ((a0.Pri == 0) && ((a0.Dei == false) && ((a0.Vid == 0) && true)))))]) (fun _ => [(b1, .cells #[.bool a0.Has, .int .i64 a0.Pri, .bool a0.Dei, .int .i64 a0.Vid] 24 (0, 0))]) (fun _ => []) (fun _ => by kernel_rfl) (fun _ => ?_)
    refine WP.done ?_
    obtain rfl := Option.some.inj hM
    exact WP.ret [] [] (.bool ((a0.Has == false) && ((a0.Pri == 0) && ((a0.Dei == false) && ((a0.Vid == 0) && true))))) (by kernel_rfl) (fun w' hw => ⟨rfl, hw.pick [] rfl⟩)
  · replace hM := cond_f hM c2
    refine WP.skip ?_
    refine WP.seq ?_
    refine WP.region ?_
    refine WL.run 4 [0] [1, 2, 12] (fun _ => [(1, .pointer (some ⟨b1, 0, none⟩)), (2, .bool false), (12, .bool (decide (a0.Pri ≥ 0)))]) (fun _ => [(b1, .cells #[.bool a0.Has, .int .i64 a0.Pri, .bool a0.Dei, .int .i64 a0.Vid] 24 (0, 0))]) (fun _ => [b1]) (fun _ => by kernel_rfl) (fun _ => ?_)
    refine WL.sub [1, 2, 12] (L' := [(1, .pointer (some ⟨b1, 0, none⟩)), (2, .bool false), (12, .bool (decide (a0.Pri ≥ 0)))]) (by kernel_rfl) ?_
    refine WL.both (fun b' => [(1, .pointer (some ⟨b1, 0, none⟩)), (2, .bool false), (12, .bool b')]) (decide (a0.Pri ≥ 0)) 4 [0] [] [1, 2, 16] (fun b' => [(1, .pointer (some ⟨b1, 0, none⟩)), (2, .bool false), (16, .bool (b' && (decide (a0.Pri < 8))))]) [b1] [] (fun _ => by kernel_rfl) (fun _ => by kernel_rfl) ?_
    refine WL.run 1 [] [1, 2, 17] (fun _ => [(1, .pointer (some ⟨b1, 0, none⟩)), (2, .bool false), (17, .bool ((decide (a0.Pri ≥ 0)) && (decide (a0.Pri < 8))))]) (fun _ => [(b1, .cells #[.bool a0.Has, .int .i64 a0.Pri, .bool a0.Dei, .int .i64 a0.Vid] 24 (0, 0))]) (fun _ => []) (fun _ => by kernel_rfl) (fun _ => ?_)
    refine WL.sub [1, 2, 17] (L' := [(1, .pointer (some ⟨b1, 0, none⟩)), (2, .bool false), (17, .bool ((decide (a0.Pri ≥ 0)) && (decide (a0.Pri < 8))))]) (by kernel_rfl) ?_
    refine WL.both (fun b' => [(1, .pointer (some ⟨b1, 0, none⟩)), (2, .bool false), (17, .bool b')]) ((decide (a0.Pri ≥ 0)) && (decide (a0.Pri < 8))) 4 [0] [] [1, 2, 21] (fun b' => [(1, .pointer (some ⟨b1, 0, none⟩)), (2, .bool false), (21, .bool (b' && (decide (a0.Vid ≥ 0))))]) [b1] [] (fun _ => by kernel_rfl) (fun _ => by kernel_rfl) ?_
    refine WL.run 1 [] [1, 2, 22] (fun _ => [(1, .pointer (some ⟨b1, 0, none⟩)), (2, .bool false), (22, .bool (((decide (a0.Pri ≥ 0)) && (decide (a0.Pri < 8))) && (decide (a0.Vid ≥ 0))))]) (fun _ => [(b1, .cells #[.bool a0.Has, .int .i64 a0.Pri, .bool a0.Dei, .int .i64 a0.Vid] 24 (0, 0))]) (fun _ => []) (fun _ => by kernel_rfl) (fun _ => ?_)
    refine WL.sub [1, 2, 22] (L' := [(1, .pointer (some ⟨b1, 0, none⟩)), (2, .bool false), (22, .bool (((decide (a0.Pri ≥ 0)) && (decide (a0.Pri < 8))) && (decide (a0.Vid ≥ 0))))]) (by kernel_rfl) ?_
    refine WL.both (fun b' => [(1, .pointer (some ⟨b1, 0, none⟩)), (2, .bool false), (22, .bool b')]) (((decide (a0.Pri ≥ 0)) && (decide (a0.Pri < 8))) && (decide (a0.Vid ≥ 0))) 4 [0] [] [2, 26] (fun b' => [(2, .bool false), (26, .bool (b' && (decide (a0.Vid < 4096))))]) [b1] [] (fun _ => by kernel_rfl) (fun _ => by kernel_rfl) ?_
    refine WL.run 1 [] [2] (fun _ => [(2, .bool ((((decide (a0.Pri ≥ 0)) && (decide (a0.Pri < 8))) && (decide (a0.Vid ≥ 0))) && (decide (a0.Vid < 4096))))]) (fun _ => [(b1, .cells #[.bool a0.Has, .int .i64 a0.Pri, .bool a0.Dei, .int .i64 a0.Vid] 24 (0, 0))]) (fun _ => []) (fun _ => by kernel_rfl) (fun _ => ?_)
    refine WP.done ?_
    refine WP.keep [false] (by kernel_rfl : _ = []) ?_
    obtain rfl := Option.some.inj hM
    exact WP.ret [] [] (.bool ((((decide (a0.Pri ≥ 0)) && (decide (a0.Pri < 8))) && (decide (a0.Vid ≥ 0))) && (decide (a0.Vid < 4096)))) (by kernel_rfl) (fun w' hw => ⟨rfl, hw.pick [] rfl⟩)

end Go.Proofs.YtefbjefmclhhjaaDoor

namespace Go.Proofs.YtefbjefmclhhjaaDoor
open Go Eng
set_option linter.unusedVariables false
set_option linter.unusedSimpArgs false

/-! ### gangway/ether.size: function 31 -/
def ether_size.k1 (x3 : Int) : Option (Int) :=
  some x3

def ether_size.f (a0 : api_Frame) : Option (Int) :=
  bif a0.Tag.Has then
    ether_size.k1 (i64 ((i64 (14 + (a0.Body.size : Int))) + 4))
  else
    ether_size.k1 (i64 (14 + (a0.Body.size : Int)))

set_option maxRecDepth 100000 in
theorem ether_size_calls (a0 : api_Frame) (r : Int) (h : ether_size.f a0 = some r) : Pure Tryd.prog Glob 31 #[.agg #[.int .u64 a0.Dst, .int .u64 a0.Src, .bool a0.Tag.Has, .int .i64 a0.Tag.Pri, .bool a0.Tag.Dei, .int .i64 a0.Tag.Vid, .int .i64 a0.Type_, .string a0.Body]] (.int .i64 r) := by
  intro w Z hS
  refine calls_of (args := [.agg #[.int .u64 a0.Dst, .int .u64 a0.Src, .bool a0.Tag.Has, .int .i64 a0.Tag.Pri, .bool a0.Tag.Dei, .int .i64 a0.Tag.Vid, .int .i64 a0.Type_, .string a0.Body]]) (L := [(0, .agg #[.int .u64 a0.Dst, .int .u64 a0.Src, .bool a0.Tag.Has, .int .i64 a0.Tag.Pri, .bool a0.Tag.Dei, .int .i64 a0.Tag.Vid, .int .i64 a0.Type_, .string a0.Body])]) (N := 14) (S := Sat w Z [] [] Glob) Tryd.func31 rfl rfl (Nat.le_of_ble_eq_true rfl) rfl hS ?_
  have hM := h
  clear h hS
  unfold ether_size.f at hM
  refine WP.seq ?_
  refine WP.run [] [1, 2] (fun b1 => [(1, .pointer (some ⟨b1, 0, none⟩)), (2, .int .i64 0)]) (fun b1 => [(b1, .cells #[.int .u64 a0.Dst, .int .u64 a0.Src, .bool a0.Tag.Has, .int .i64 a0.Tag.Pri, .bool a0.Tag.Dei, .int .i64 a0.Tag.Vid, .int .i64 a0.Type_, .string a0.Body] 26 (0, 0))]) (fun b1 => []) (fun b1 => by kernel_rfl) (fun b1 => ?_)
  refine WP.seq ?_
  refine WP.run [0] [1, 2, 3] (fun _ => [(1, .pointer (some ⟨b1, 0, none⟩)), (2, .int .i64 0), (3, .int .i64 (i64 (14 + (a0.Body.size : Int))))]) (fun _ => [(b1, .cells #[.int .u64 a0.Dst, .int .u64 a0.Src, .bool a0.Tag.Has, .int .i64 a0.Tag.Pri, .bool a0.Tag.Dei, .int .i64 a0.Tag.Vid, .int .i64 a0.Type_, .string a0.Body] 26 (0, 0))]) (fun _ => [b1]) (fun _ => by kernel_rfl) (fun _ => ?_)
  refine WP.seqJoin (σ := Int) (fun st => ether_size.k1 st = some r) (fun st => [(2, .int .i64 0), (3, .int .i64 st)]) (fun st => Sat w Z [] [] Glob) (fun st hM => ?_) (fun K1 => ?_)
  ·
    obtain ⟨x3, rfl⟩ : ∃ y, y = st := ⟨st, rfl⟩
    replace hM : ether_size.k1 x3 = some r := hM
    unfold ether_size.k1 at hM
    show WP _ _ _ _ _ [(2, .int .i64 0), (3, .int .i64 x3)] (Sat w Z [] [] Glob)
    refine WP.seq ?_
    refine WP.run [] [2] (fun _ => [(2, .int .i64 x3)]) (fun _ => []) (fun _ => []) (fun _ => by kernel_rfl) (fun _ => ?_)
    obtain rfl := Option.some.inj hM
    exact WP.ret [] [] (.int .i64 x3) (by kernel_rfl) (fun w' hw => ⟨rfl, hw.pick [] rfl⟩)
  ·
    refine WP.seq ?_
    refine WP.run [0] [2, 3, 10] (fun _ => [(2, .int .i64 0), (3, .int .i64 (i64 (14 + (a0.Body.size : Int)))), (10, .bool a0.Tag.Has)]) (fun _ => [(b1, .cells #[.int .u64 a0.Dst, .int .u64 a0.Src, .bool a0.Tag.Has, .int .i64 a0.Tag.Pri, .bool a0.Tag.Dei, .int .i64 a0.Tag.Vid, .int .i64 a0.Type_, .string a0.Body] 26 (0, 0))]) (fun _ => [b1]) (fun _ => by kernel_rfl) (fun _ => ?_)
    refine WP.keep [false] (by kernel_rfl : _ = []) ?_
    refine WP.cond a0.Tag.Has rfl rfl (fun c2 => ?_) (fun c2 => ?_)
    · replace hM := cond_t hM c2
      refine WP.run [] [2, 3] (fun _ => [(2, .int .i64 0), (3, .int .i64 (i64 ((i64 (14 + (a0.Body.size : Int))) + 4)))]) (fun _ => []) (fun _ => []) (fun _ => by kernel_rfl) (fun _ => ?_)
      exact WP.sub [2, 3] (by kernel_rfl) (WP.pick [] (by kernel_rfl) (by kernel_rfl) (K1 (i64 ((i64 (14 + (a0.Body.size : Int))) + 4)) hM))
    · replace hM := cond_f hM c2
      refine WP.skip ?_
      exact WP.sub [2, 3] (by kernel_rfl) (WP.pick [] (by kernel_rfl) (by kernel_rfl) (K1 (i64 (14 + (a0.Body.size : Int))) hM))

end Go.Proofs.YtefbjefmclhhjaaDoor

namespace Go.Proofs.YtefbjefmclhhjaaDoor
open Go Eng
set_option linter.unusedVariables false
set_option linter.unusedSimpArgs false

/-! ### gangway/ether.Check: function 13 -/
def ether_Check.k1 (a0 : api_Frame) (x7 : Bool) : Option (Int) :=
  bif x7 then
    some 41
  else
    bif ((a0.Type_ == 0) && (decide ((a0.Body.size : Int) > 1500))) then
      some 40
    else
      (ether_size.f a0).bind fun r10 =>
      bif decide (r10 > 1600) then
        some 41
      else
        some 0

def ether_Check.k2 (a0 : api_Frame) (x5 : Bool) : Option (Int) :=
  bif x5 then
    ether_Check.k1 a0 true
  else
    ether_Check.k1 a0 ((a0.Type_ != 0) && (!(((decide (a0.Type_ ≥ 1536)) && (decide (a0.Type_ ≤ 65535))) && (a0.Type_ != 33024))))

def ether_Check.f (a0 : api_Frame) : Option (Int) :=
  bif ((decide (a0.Dst ≥ 281474976710656)) || (decide (a0.Src ≥ 281474976710656))) then
    ether_Check.k2 a0 true
  else
    (ether_tag.f a0.Tag).bind fun r3 =>
    ether_Check.k2 a0 (!r3)

set_option maxRecDepth 100000 in
theorem ether_Check_calls (a0 : api_Frame) (r : Int) (h : ether_Check.f a0 = some r) : Pure Tryd.prog Glob 13 #[.agg #[.int .u64 a0.Dst, .int .u64 a0.Src, .bool a0.Tag.Has, .int .i64 a0.Tag.Pri, .bool a0.Tag.Dei, .int .i64 a0.Tag.Vid, .int .i64 a0.Type_, .string a0.Body]] (.int .i64 r) := by
  intro w Z hS
  refine calls_of (args := [.agg #[.int .u64 a0.Dst, .int .u64 a0.Src, .bool a0.Tag.Has, .int .i64 a0.Tag.Pri, .bool a0.Tag.Dei, .int .i64 a0.Tag.Vid, .int .i64 a0.Type_, .string a0.Body]]) (L := [(0, .agg #[.int .u64 a0.Dst, .int .u64 a0.Src, .bool a0.Tag.Has, .int .i64 a0.Tag.Pri, .bool a0.Tag.Dei, .int .i64 a0.Tag.Vid, .int .i64 a0.Type_, .string a0.Body])]) (N := 55) (S := Sat w Z [] [] Glob) Tryd.func13 rfl rfl (Nat.le_of_ble_eq_true rfl) rfl hS ?_
  have hM := h
  clear h hS
  unfold ether_Check.f at hM
  refine WP.seq ?_
  refine WP.run [] [1, 2] (fun b1 => [(1, .pointer (some ⟨b1, 0, none⟩)), (2, .int .i64 0)]) (fun b1 => [(b1, .cells #[.int .u64 a0.Dst, .int .u64 a0.Src, .bool a0.Tag.Has, .int .i64 a0.Tag.Pri, .bool a0.Tag.Dei, .int .i64 a0.Tag.Vid, .int .i64 a0.Type_, .string a0.Body] 26 (0, 0))]) (fun b1 => []) (fun b1 => by kernel_rfl) (fun b1 => ?_)
  refine WP.seq ?_
  refine WP.region ?_
  refine WL.run 4 [0] [1, 2, 7] (fun _ => [(1, .pointer (some ⟨b1, 0, none⟩)), (2, .int .i64 0), (7, .bool (decide (a0.Type_ ≥ 1536)))]) (fun _ => [(b1, .cells #[.int .u64 a0.Dst, .int .u64 a0.Src, .bool a0.Tag.Has, .int .i64 a0.Tag.Pri, .bool a0.Tag.Dei, .int .i64 a0.Tag.Vid, .int .i64 a0.Type_, .string a0.Body] 26 (0, 0))]) (fun _ => [b1]) (fun _ => by kernel_rfl) (fun _ => ?_)
  refine WL.sub [1, 2, 7] (L' := [(1, .pointer (some ⟨b1, 0, none⟩)), (2, .int .i64 0), (7, .bool (decide (a0.Type_ ≥ 1536)))]) (by kernel_rfl) ?_
  refine WL.both (fun b' => [(1, .pointer (some ⟨b1, 0, none⟩)), (2, .int .i64 0), (7, .bool b')]) (decide (a0.Type_ ≥ 1536)) 4 [0] [] [1, 2, 11] (fun b' => [(1, .pointer (some ⟨b1, 0, none⟩)), (2, .int .i64 0), (11, .bool (b' && (decide (a0.Type_ ≤ 65535))))]) [b1] [] (fun _ => by kernel_rfl) (fun _ => by kernel_rfl) ?_
  refine WL.run 1 [] [1, 2, 12] (fun _ => [(1, .pointer (some ⟨b1, 0, none⟩)), (2, .int .i64 0), (12, .bool ((decide (a0.Type_ ≥ 1536)) && (decide (a0.Type_ ≤ 65535))))]) (fun _ => [(b1, .cells #[.int .u64 a0.Dst, .int .u64 a0.Src, .bool a0.Tag.Has, .int .i64 a0.Tag.Pri, .bool a0.Tag.Dei, .int .i64 a0.Tag.Vid, .int .i64 a0.Type_, .string a0.Body] 26 (0, 0))]) (fun _ => []) (fun _ => by kernel_rfl) (fun _ => ?_)
  refine WL.sub [1, 2, 12] (L' := [(1, .pointer (some ⟨b1, 0, none⟩)), (2, .int .i64 0), (12, .bool ((decide (a0.Type_ ≥ 1536)) && (decide (a0.Type_ ≤ 65535))))]) (by kernel_rfl) ?_
  refine WL.both (fun b' => [(1, .pointer (some ⟨b1, 0, none⟩)), (2, .int .i64 0), (12, .bool b')]) ((decide (a0.Type_ ≥ 1536)) && (decide (a0.Type_ ≤ 65535))) 4 [0] [] [1, 2, 16] (fun b' => [(1, .pointer (some ⟨b1, 0, none⟩)), (2, .int .i64 0), (16, .bool (b' && (a0.Type_ != 33024)))]) [b1] [] (fun _ => by kernel_rfl) (fun _ => by kernel_rfl) ?_
  refine WL.run 1 [] [1, 2, 3] (fun _ => [(1, .pointer (some ⟨b1, 0, none⟩)), (2, .int .i64 0), (3, .bool (((decide (a0.Type_ ≥ 1536)) && (decide (a0.Type_ ≤ 65535))) && (a0.Type_ != 33024)))]) (fun _ => [(b1, .cells #[.int .u64 a0.Dst, .int .u64 a0.Src, .bool a0.Tag.Has, .int .i64 a0.Tag.Pri, .bool a0.Tag.Dei, .int .i64 a0.Tag.Vid, .int .i64 a0.Type_, .string a0.Body] 26 (0, 0))]) (fun _ => []) (fun _ => by kernel_rfl) (fun _ => ?_)
  refine WP.done ?_
  refine WP.seq ?_
  refine WP.block ?_
  refine WP.seq ?_
  refine WP.region ?_
  refine WL.run 4 [0] [1, 2, 3, 21] (fun _ => [(1, .pointer (some ⟨b1, 0, none⟩)), (2, .int .i64 0), (3, .bool (((decide (a0.Type_ ≥ 1536)) && (decide (a0.Type_ ≤ 65535))) && (a0.Type_ != 33024))), (21, .bool (decide (a0.Dst ≥ 281474976710656)))]) (fun _ => [(b1, .cells #[.int .u64 a0.Dst, .int .u64 a0.Src, .bool a0.Tag.Has, .int .i64 a0.Tag.Pri, .bool a0.Tag.Dei, .int .i64 a0.Tag.Vid, .int .i64 a0.Type_, .string a0.Body] 26 (0, 0))]) (fun _ => [b1]) (fun _ => by kernel_rfl) (fun _ => ?_)
  refine WL.sub [1, 2, 3, 21] (L' := [(1, .pointer (some ⟨b1, 0, none⟩)), (2, .int .i64 0), (3, .bool (((decide (a0.Type_ ≥ 1536)) && (decide (a0.Type_ ≤ 65535))) && (a0.Type_ != 33024))), (21, .bool (decide (a0.Dst ≥ 281474976710656)))]) (by kernel_rfl) ?_
  refine WL.both (fun b' => [(1, .pointer (some ⟨b1, 0, none⟩)), (2, .int .i64 0), (3, .bool (((decide (a0.Type_ ≥ 1536)) && (decide (a0.Type_ ≤ 65535))) && (a0.Type_ != 33024))), (21, .bool b')]) (decide (a0.Dst ≥ 281474976710656)) 4 [] [0] [1, 2, 3, 25] (fun b' => [(1, .pointer (some ⟨b1, 0, none⟩)), (2, .int .i64 0), (3, .bool (((decide (a0.Type_ ≥ 1536)) && (decide (a0.Type_ ≤ 65535))) && (a0.Type_ != 33024))), (25, .bool (b' || (decide (a0.Src ≥ 281474976710656))))]) [] [b1] (fun _ => by kernel_rfl) (fun _ => by kernel_rfl) ?_
  refine WL.run 1 [] [1, 2, 3, 26] (fun _ => [(1, .pointer (some ⟨b1, 0, none⟩)), (2, .int .i64 0), (3, .bool (((decide (a0.Type_ ≥ 1536)) && (decide (a0.Type_ ≤ 65535))) && (a0.Type_ != 33024))), (26, .bool ((decide (a0.Dst ≥ 281474976710656)) || (decide (a0.Src ≥ 281474976710656))))]) (fun _ => [(b1, .cells #[.int .u64 a0.Dst, .int .u64 a0.Src, .bool a0.Tag.Has, .int .i64 a0.Tag.Pri, .bool a0.Tag.Dei, .int .i64 a0.Tag.Vid, .int .i64 a0.Type_, .string a0.Body] 26 (0, 0))]) (fun _ => []) (fun _ => by kernel_rfl) (fun _ => ?_)
  refine WL.sub [1, 2, 3, 26] (L' := [(1, .pointer (some ⟨b1, 0, none⟩)), (2, .int .i64 0), (3, .bool (((decide (a0.Type_ ≥ 1536)) && (decide (a0.Type_ ≤ 65535))) && (a0.Type_ != 33024))), (26, .bool ((decide (a0.Dst ≥ 281474976710656)) || (decide (a0.Src ≥ 281474976710656))))]) (by kernel_rfl) ?_
  refine WL.join (σ := Bool) 5 (fun st => ether_Check.k2 a0 st = some r) (fun st => [(1, .pointer (some ⟨b1, 0, none⟩)), (2, .int .i64 0), (3, .bool (((decide (a0.Type_ ≥ 1536)) && (decide (a0.Type_ ≤ 65535))) && (a0.Type_ != 33024))), (31, .bool st)]) (fun st => Sat w Z [(b1, .cells #[.int .u64 a0.Dst, .int .u64 a0.Src, .bool a0.Tag.Has, .int .i64 a0.Tag.Pri, .bool a0.Tag.Dei, .int .i64 a0.Tag.Vid, .int .i64 a0.Type_, .string a0.Body] 26 (0, 0))] [] Glob) (fun st hM => ?_) (fun K2 => ?_)
  ·
    obtain ⟨x5, rfl⟩ : ∃ y, y = st := ⟨st, rfl⟩
    replace hM : ether_Check.k2 a0 x5 = some r := hM
    unfold ether_Check.k2 at hM
    show WL _ _ _ _ _ [(1, .pointer (some ⟨b1, 0, none⟩)), (2, .int .i64 0), (3, .bool (((decide (a0.Type_ ≥ 1536)) && (decide (a0.Type_ ≤ 65535))) && (a0.Type_ != 33024))), (31, .bool x5)] (Sat w Z [(b1, .cells #[.int .u64 a0.Dst, .int .u64 a0.Src, .bool a0.Tag.Has, .int .i64 a0.Tag.Pri, .bool a0.Tag.Dei, .int .i64 a0.Tag.Vid, .int .i64 a0.Type_, .string a0.Body] 26 (0, 0))] [] Glob)
    refine WL.run 1 [] [1, 2, 3, 32] (fun _ => [(1, .pointer (some ⟨b1, 0, none⟩)), (2, .int .i64 0), (3, .bool (((decide (a0.Type_ ≥ 1536)) && (decide (a0.Type_ ≤ 65535))) && (a0.Type_ != 33024))), (32, .bool x5)]) (fun _ => [(b1, .cells #[.int .u64 a0.Dst, .int .u64 a0.Src, .bool a0.Tag.Has, .int .i64 a0.Tag.Pri, .bool a0.Tag.Dei, .int .i64 a0.Tag.Vid, .int .i64 a0.Type_, .string a0.Body] 26 (0, 0))]) (fun _ => []) (fun _ => by kernel_rfl) (fun _ => ?_)
    refine WL.sub [1, 2, 3, 32] (L' := [(1, .pointer (some ⟨b1, 0, none⟩)), (2, .int .i64 0), (3, .bool (((decide (a0.Type_ ≥ 1536)) && (decide (a0.Type_ ≤ 65535))) && (a0.Type_ != 33024))), (32, .bool x5)]) (by kernel_rfl) ?_
    refine WL.join (σ := Bool) 8 (fun st => ether_Check.k1 a0 st = some r) (fun st => [(1, .pointer (some ⟨b1, 0, none⟩)), (2, .int .i64 0), (40, .bool st)]) (fun st => Sat w Z [(b1, .cells #[.int .u64 a0.Dst, .int .u64 a0.Src, .bool a0.Tag.Has, .int .i64 a0.Tag.Pri, .bool a0.Tag.Dei, .int .i64 a0.Tag.Vid, .int .i64 a0.Type_, .string a0.Body] 26 (0, 0))] [] Glob) (fun st hM => ?_) (fun K1 => ?_)
    ·
      obtain ⟨x7, rfl⟩ : ∃ y, y = st := ⟨st, rfl⟩
      replace hM : ether_Check.k1 a0 x7 = some r := hM
      unfold ether_Check.k1 at hM
      show WL _ _ _ _ _ [(1, .pointer (some ⟨b1, 0, none⟩)), (2, .int .i64 0), (40, .bool x7)] (Sat w Z [(b1, .cells #[.int .u64 a0.Dst, .int .u64 a0.Src, .bool a0.Tag.Has, .int .i64 a0.Tag.Pri, .bool a0.Tag.Dei, .int .i64 a0.Tag.Vid, .int .i64 a0.Type_, .string a0.Body] 26 (0, 0))] [] Glob)
      refine WL.run 1 [] [1, 2, 17] (fun _ => [(1, .pointer (some ⟨b1, 0, none⟩)), (2, .int .i64 0), (17, .bool x7)]) (fun _ => [(b1, .cells #[.int .u64 a0.Dst, .int .u64 a0.Src, .bool a0.Tag.Has, .int .i64 a0.Tag.Pri, .bool a0.Tag.Dei, .int .i64 a0.Tag.Vid, .int .i64 a0.Type_, .string a0.Body] 26 (0, 0))]) (fun _ => []) (fun _ => by kernel_rfl) (fun _ => ?_)
      refine WP.done ?_
      refine WP.cond x7 rfl rfl (fun c8 => ?_) (fun c8 => ?_)
      · replace hM := cond_t hM c8
        refine WP.seq ?_
        refine WP.run [] [2] (fun _ => [(2, .int .i64 41)]) (fun _ => [(b1, .cells #[.int .u64 a0.Dst, .int .u64 a0.Src, .bool a0.Tag.Has, .int .i64 a0.Tag.Pri, .bool a0.Tag.Dei, .int .i64 a0.Tag.Vid, .int .i64 a0.Type_, .string a0.Body] 26 (0, 0))]) (fun _ => []) (fun _ => by kernel_rfl) (fun _ => ?_)
        refine WP.keep [false] (by kernel_rfl : _ = []) ?_
        obtain rfl := Option.some.inj hM
        exact WP.ret [] [] (.int .i64 41) (by kernel_rfl) (fun w' hw => ⟨rfl, hw.pick [] rfl⟩)
      · replace hM := cond_f hM c8
        refine WP.seq ?_
        refine WP.region ?_
        refine WL.run 4 [0] [1, 2, 45] (fun _ => [(1, .pointer (some ⟨b1, 0, none⟩)), (2, .int .i64 0), (45, .bool (a0.Type_ == 0))]) (fun _ => [(b1, .cells #[.int .u64 a0.Dst, .int .u64 a0.Src, .bool a0.Tag.Has, .int .i64 a0.Tag.Pri, .bool a0.Tag.Dei, .int .i64 a0.Tag.Vid, .int .i64 a0.Type_, .string a0.Body] 26 (0, 0))]) (fun _ => [b1]) (fun _ => by kernel_rfl) (fun _ => ?_)
        refine WL.sub [1, 2, 45] (L' := [(1, .pointer (some ⟨b1, 0, none⟩)), (2, .int .i64 0), (45, .bool (a0.Type_ == 0))]) (by kernel_rfl) ?_
        refine WL.both (fun b' => [(1, .pointer (some ⟨b1, 0, none⟩)), (2, .int .i64 0), (45, .bool b')]) (a0.Type_ == 0) 5 [0] [] [1, 2, 50] (fun b' => [(1, .pointer (some ⟨b1, 0, none⟩)), (2, .int .i64 0), (50, .bool (b' && (decide ((a0.Body.size : Int) > 1500))))]) [b1] [] (fun _ => by kernel_rfl) (fun _ => by kernel_rfl) ?_
        refine WL.run 1 [] [1, 2, 41] (fun _ => [(1, .pointer (some ⟨b1, 0, none⟩)), (2, .int .i64 0), (41, .bool ((a0.Type_ == 0) && (decide ((a0.Body.size : Int) > 1500))))]) (fun _ => [(b1, .cells #[.int .u64 a0.Dst, .int .u64 a0.Src, .bool a0.Tag.Has, .int .i64 a0.Tag.Pri, .bool a0.Tag.Dei, .int .i64 a0.Tag.Vid, .int .i64 a0.Type_, .string a0.Body] 26 (0, 0))]) (fun _ => []) (fun _ => by kernel_rfl) (fun _ => ?_)
        refine WP.done ?_
        refine WP.cond ((a0.Type_ == 0) && (decide ((a0.Body.size : Int) > 1500))) rfl rfl (fun c9 => ?_) (fun c9 => ?_)
        · replace hM := cond_t hM c9
          refine WP.seq ?_
          refine WP.run [] [2] (fun _ => [(2, .int .i64 40)]) (fun _ => [(b1, .cells #[.int .u64 a0.Dst, .int .u64 a0.Src, .bool a0.Tag.Has, .int .i64 a0.Tag.Pri, .bool a0.Tag.Dei, .int .i64 a0.Tag.Vid, .int .i64 a0.Type_, .string a0.Body] 26 (0, 0))]) (fun _ => []) (fun _ => by kernel_rfl) (fun _ => ?_)
          refine WP.keep [false] (by kernel_rfl : _ = []) ?_
          obtain rfl := Option.some.inj hM
          exact WP.ret [] [] (.int .i64 40) (by kernel_rfl) (fun w' hw => ⟨rfl, hw.pick [] rfl⟩)
        · replace hM := cond_f hM c9
          refine WP.seq ?_
          refine WP.region ?_
          refine WL.run 1 [0, 0, 0, 0, 0, 0, 0, 0] [2, 52] (fun _ => [(2, .int .i64 0), (52, .agg #[.int .u64 a0.Dst, .int .u64 a0.Src, .bool a0.Tag.Has, .int .i64 a0.Tag.Pri, .bool a0.Tag.Dei, .int .i64 a0.Tag.Vid, .int .i64 a0.Type_, .string a0.Body])]) (fun _ => [(b1, .cells #[.int .u64 a0.Dst, .int .u64 a0.Src, .bool a0.Tag.Has, .int .i64 a0.Tag.Pri, .bool a0.Tag.Dei, .int .i64 a0.Tag.Vid, .int .i64 a0.Type_, .string a0.Body] 26 (0, 0))]) (fun _ => [b1, b1, b1, b1, b1, b1, b1, b1]) (fun _ => by kernel_rfl) (fun _ => ?_)
          obtain ⟨r10, h11, hM⟩ := bind_some hM
          refine WL.callP [] [] (ether_size_calls a0 _ h11) (fun _ h => h) (by kernel_rfl) (by kernel_rfl) rfl ?_
          refine WL.run 2 [] [2, 51] (fun _ => [(2, .int .i64 0), (51, .bool (decide (r10 > 1600)))]) (fun _ => [(b1, .cells #[.int .u64 a0.Dst, .int .u64 a0.Src, .bool a0.Tag.Has, .int .i64 a0.Tag.Pri, .bool a0.Tag.Dei, .int .i64 a0.Tag.Vid, .int .i64 a0.Type_, .string a0.Body] 26 (0, 0))]) (fun _ => []) (fun _ => by kernel_rfl) (fun _ => ?_)
          refine WP.done ?_
          refine WP.keep [false] (by kernel_rfl : _ = []) ?_
          refine WP.cond (decide (r10 > 1600)) rfl rfl (fun c12 => ?_) (fun c12 => ?_)
          · replace hM := cond_t hM c12
            refine WP.seq ?_
            refine WP.run [] [2] (fun _ => [(2, .int .i64 41)]) (fun _ => []) (fun _ => []) (fun _ => by kernel_rfl) (fun _ => ?_)
            obtain rfl := Option.some.inj hM
            exact WP.ret [] [] (.int .i64 41) (by kernel_rfl) (fun w' hw => ⟨rfl, hw.pick [] rfl⟩)
          · replace hM := cond_f hM c12
            refine WP.skip ?_
            refine WP.leave ?_
            refine WP.seq ?_
            refine WP.run [] [2] (fun _ => [(2, .int .i64 0)]) (fun _ => []) (fun _ => []) (fun _ => by kernel_rfl) (fun _ => ?_)
            obtain rfl := Option.some.inj hM
            exact WP.ret [] [] (.int .i64 0) (by kernel_rfl) (fun w' hw => ⟨rfl, hw.pick [] rfl⟩)
    ·
      refine WL.split (fun b' => [(1, .pointer (some ⟨b1, 0, none⟩)), (2, .int .i64 0), (3, .bool (((decide (a0.Type_ ≥ 1536)) && (decide (a0.Type_ ≤ 65535))) && (a0.Type_ != 33024))), (32, .bool b')]) x5 (fun c6 => ?_) (fun c6 => ?_)
      · replace hM := cond_t hM c6
        refine WL.run 8 [] [1, 2, 40] (fun _ => [(1, .pointer (some ⟨b1, 0, none⟩)), (2, .int .i64 0), (40, .bool true)]) (fun _ => [(b1, .cells #[.int .u64 a0.Dst, .int .u64 a0.Src, .bool a0.Tag.Has, .int .i64 a0.Tag.Pri, .bool a0.Tag.Dei, .int .i64 a0.Tag.Vid, .int .i64 a0.Type_, .string a0.Body] 26 (0, 0))]) (fun _ => []) (fun _ => by kernel_rfl) (fun _ => ?_)
        exact WL.sub [1, 2, 40] (by kernel_rfl) (WL.pick [0] (by kernel_rfl) (by kernel_rfl) (K1 true hM))
      · replace hM := cond_f hM c6
        refine WL.run 4 [0] [1, 2, 3, 32, 36] (fun _ => [(1, .pointer (some ⟨b1, 0, none⟩)), (2, .int .i64 0), (3, .bool (((decide (a0.Type_ ≥ 1536)) && (decide (a0.Type_ ≤ 65535))) && (a0.Type_ != 33024))), (32, .bool false), (36, .bool (a0.Type_ != 0))]) (fun _ => [(b1, .cells #[.int .u64 a0.Dst, .int .u64 a0.Src, .bool a0.Tag.Has, .int .i64 a0.Tag.Pri, .bool a0.Tag.Dei, .int .i64 a0.Tag.Vid, .int .i64 a0.Type_, .string a0.Body] 26 (0, 0))]) (fun _ => [b1]) (fun _ => by kernel_rfl) (fun _ => ?_)
        refine WL.sub [1, 2, 3, 32, 36] (L' := [(1, .pointer (some ⟨b1, 0, none⟩)), (2, .int .i64 0), (3, .bool (((decide (a0.Type_ ≥ 1536)) && (decide (a0.Type_ ≤ 65535))) && (a0.Type_ != 33024))), (32, .bool false), (36, .bool (a0.Type_ != 0))]) (by kernel_rfl) ?_
        refine WL.both (fun b' => [(1, .pointer (some ⟨b1, 0, none⟩)), (2, .int .i64 0), (3, .bool (((decide (a0.Type_ ≥ 1536)) && (decide (a0.Type_ ≤ 65535))) && (a0.Type_ != 33024))), (32, .bool false), (36, .bool b')]) (a0.Type_ != 0) 3 [] [] [1, 2, 32, 39] (fun b' => [(1, .pointer (some ⟨b1, 0, none⟩)), (2, .int .i64 0), (32, .bool false), (39, .bool (b' && (!(((decide (a0.Type_ ≥ 1536)) && (decide (a0.Type_ ≤ 65535))) && (a0.Type_ != 33024)))))]) [] [] (fun _ => by kernel_rfl) (fun _ => by kernel_rfl) ?_
        refine WL.run 1 [] [1, 2, 40] (fun _ => [(1, .pointer (some ⟨b1, 0, none⟩)), (2, .int .i64 0), (40, .bool ((a0.Type_ != 0) && (!(((decide (a0.Type_ ≥ 1536)) && (decide (a0.Type_ ≤ 65535))) && (a0.Type_ != 33024)))))]) (fun _ => [(b1, .cells #[.int .u64 a0.Dst, .int .u64 a0.Src, .bool a0.Tag.Has, .int .i64 a0.Tag.Pri, .bool a0.Tag.Dei, .int .i64 a0.Tag.Vid, .int .i64 a0.Type_, .string a0.Body] 26 (0, 0))]) (fun _ => []) (fun _ => by kernel_rfl) (fun _ => ?_)
        exact WL.sub [1, 2, 40] (by kernel_rfl) (WL.pick [0] (by kernel_rfl) (by kernel_rfl) (K1 ((a0.Type_ != 0) && (!(((decide (a0.Type_ ≥ 1536)) && (decide (a0.Type_ ≤ 65535))) && (a0.Type_ != 33024)))) hM))
  ·
    refine WL.split (fun b' => [(1, .pointer (some ⟨b1, 0, none⟩)), (2, .int .i64 0), (3, .bool (((decide (a0.Type_ ≥ 1536)) && (decide (a0.Type_ ≤ 65535))) && (a0.Type_ != 33024))), (26, .bool b')]) ((decide (a0.Dst ≥ 281474976710656)) || (decide (a0.Src ≥ 281474976710656))) (fun c2 => ?_) (fun c2 => ?_)
    · replace hM := cond_t hM c2
      refine WL.run 5 [] [1, 2, 3, 31] (fun _ => [(1, .pointer (some ⟨b1, 0, none⟩)), (2, .int .i64 0), (3, .bool (((decide (a0.Type_ ≥ 1536)) && (decide (a0.Type_ ≤ 65535))) && (a0.Type_ != 33024))), (31, .bool true)]) (fun _ => [(b1, .cells #[.int .u64 a0.Dst, .int .u64 a0.Src, .bool a0.Tag.Has, .int .i64 a0.Tag.Pri, .bool a0.Tag.Dei, .int .i64 a0.Tag.Vid, .int .i64 a0.Type_, .string a0.Body] 26 (0, 0))]) (fun _ => []) (fun _ => by kernel_rfl) (fun _ => ?_)
      exact WL.sub [1, 2, 3, 31] (by kernel_rfl) (WL.pick [0] (by kernel_rfl) (by kernel_rfl) (K2 true hM))
    · replace hM := cond_f hM c2
      refine WL.run 2 [0, 0, 0, 0] [1, 2, 3, 26, 28] (fun _ => [(1, .pointer (some ⟨b1, 0, none⟩)), (2, .int .i64 0), (3, .bool (((decide (a0.Type_ ≥ 1536)) && (decide (a0.Type_ ≤ 65535))) && (a0.Type_ != 33024))), (26, .bool false), (28, .agg #[.bool a0.Tag.Has, .int .i64 a0.Tag.Pri, .bool a0.Tag.Dei, .int .i64 a0.Tag.Vid])]) (fun _ => [(b1, .cells #[.int .u64 a0.Dst, .int .u64 a0.Src, .bool a0.Tag.Has, .int .i64 a0.Tag.Pri, .bool a0.Tag.Dei, .int .i64 a0.Tag.Vid, .int .i64 a0.Type_, .string a0.Body] 26 (0, 0))]) (fun _ => [b1, b1, b1, b1]) (fun _ => by kernel_rfl) (fun _ => ?_)
      obtain ⟨r3, h4, hM⟩ := bind_some hM
      refine WL.callP [] [] (ether_tag_calls a0.Tag _ h4) (fun _ h => h) (by kernel_rfl) (by kernel_rfl) rfl ?_
      refine WL.run 2 [] [1, 2, 3, 31] (fun _ => [(1, .pointer (some ⟨b1, 0, none⟩)), (2, .int .i64 0), (3, .bool (((decide (a0.Type_ ≥ 1536)) && (decide (a0.Type_ ≤ 65535))) && (a0.Type_ != 33024))), (31, .bool (!r3))]) (fun _ => [(b1, .cells #[.int .u64 a0.Dst, .int .u64 a0.Src, .bool a0.Tag.Has, .int .i64 a0.Tag.Pri, .bool a0.Tag.Dei, .int .i64 a0.Tag.Vid, .int .i64 a0.Type_, .string a0.Body] 26 (0, 0))]) (fun _ => []) (fun _ => by kernel_rfl) (fun _ => ?_)
      exact WL.sub [1, 2, 3, 31] (by kernel_rfl) (WL.pick [0] (by kernel_rfl) (by kernel_rfl) (K2 (!r3) hM))

end Go.Proofs.YtefbjefmclhhjaaDoor

namespace Go.Proofs.YtefbjefmclhhjaaDoor
open Go Eng
set_option linter.unusedVariables false
set_option linter.unusedSimpArgs false

/-! ### gangway/octets.Put: function 46 -/
def octets_Put.k4 (t8 : Nat) (x24 : (List Int)) : Option (ByteArray × Int) :=
  (strOf t8 x24).bind fun t25 =>
  some (t25, 0)

def octets_Put.l3 (t8 : Nat) (a0 : Int) (a1 : Int) : Nat → Int → (List Int) → Option (ByteArray × Int)
  | 0, _, _ => none
  | n + 1, x17, x18 =>
    bif decide (x17 < (t8 : Int)) then
      (shrI .u64 a0 (i64 (8 * x17))).bind fun t20 =>
      (getL t8 x18 (i64 ((i64 (a1 - 1)) - x17))).bind fun t22 =>
      octets_Put.l3 t8 a0 a1 n (i64 (x17 + 1)) (List.set x18 (i64 ((i64 (a1 - 1)) - x17)).toNat (u8 t20))
    else
      octets_Put.k4 t8 x18

def octets_Put.k2 (a1 : Int) (a0 : Int) (k : Nat) (x6 : Bool) : Option (ByteArray × Int) :=
  bif x6 then
    some ((⟨#[]⟩ : ByteArray), 1)
  else
    (mkLen 1 a1).bind fun t8 =>
    octets_Put.l3 t8 a0 a1 k 0 (List.replicate t8 0)

def octets_Put.k1 (a1 : Int) (a0 : Int) (k : Nat) (x5 : Bool) : Option (ByteArray × Int) :=
  octets_Put.k2 a1 a0 k x5

def octets_Put.f (k : Nat) (a0 : Int) (a1 : Int) : Option (ByteArray × Int) :=
  bif ((decide (a1 < 1)) || (decide (a1 > 8))) then
    octets_Put.k2 a1 a0 k true
  else
    bif decide (a1 < 8) then
      (shrI .u64 a0 (i64 (8 * a1))).bind fun t3 =>
      octets_Put.k1 a1 a0 k (t3 != 0)
    else
      octets_Put.k1 a1 a0 k false

set_option maxRecDepth 100000 in
theorem octets_Put_calls (k : Nat) (a0 : Int) (a1 : Int) (r : ByteArray × Int) (h : octets_Put.f k a0 a1 = some r) : Pure Tryd.prog Glob 46 #[.int .u64 a0, .int .i64 a1] (.tuple #[.string r.1, .int .i64 r.2]) := by
  intro w Z hS
  refine calls_of (args := [.int .u64 a0, .int .i64 a1]) (L := [(0, .int .u64 a0), (1, .int .i64 a1)]) (N := 46) (S := Sat w Z [] [] Glob) Tryd.func46 rfl rfl (Nat.le_of_ble_eq_true rfl) rfl hS ?_
  have hM := h
  clear h hS
  unfold octets_Put.f at hM
  refine WP.seq ?_
  refine WP.run [] [0, 1, 4, 5] (fun _ => [(0, .int .u64 a0), (1, .int .i64 a1), (4, .string (⟨#[]⟩ : ByteArray)), (5, .int .i64 0)]) (fun _ => []) (fun _ => []) (fun _ => by kernel_rfl) (fun _ => ?_)
  refine WP.seq ?_
  refine WP.seq ?_
  refine WP.region ?_
  refine WL.run 3 [] [0, 1, 4, 5, 10] (fun _ => [(0, .int .u64 a0), (1, .int .i64 a1), (4, .string (⟨#[]⟩ : ByteArray)), (5, .int .i64 0), (10, .bool (decide (a1 < 1)))]) (fun _ => []) (fun _ => []) (fun _ => by kernel_rfl) (fun _ => ?_)
  refine WL.sub [0, 1, 4, 5, 10] (L' := [(0, .int .u64 a0), (1, .int .i64 a1), (4, .string (⟨#[]⟩ : ByteArray)), (5, .int .i64 0), (10, .bool (decide (a1 < 1)))]) (by kernel_rfl) ?_
  refine WL.both (fun b' => [(0, .int .u64 a0), (1, .int .i64 a1), (4, .string (⟨#[]⟩ : ByteArray)), (5, .int .i64 0), (10, .bool b')]) (decide (a1 < 1)) 3 [] [] [0, 1, 4, 5, 13] (fun b' => [(0, .int .u64 a0), (1, .int .i64 a1), (4, .string (⟨#[]⟩ : ByteArray)), (5, .int .i64 0), (13, .bool (b' || (decide (a1 > 8))))]) [] [] (fun _ => by kernel_rfl) (fun _ => by kernel_rfl) ?_
  refine WL.run 1 [] [0, 1, 4, 5, 14] (fun _ => [(0, .int .u64 a0), (1, .int .i64 a1), (4, .string (⟨#[]⟩ : ByteArray)), (5, .int .i64 0), (14, .bool ((decide (a1 < 1)) || (decide (a1 > 8))))]) (fun _ => []) (fun _ => []) (fun _ => by kernel_rfl) (fun _ => ?_)
  refine WL.sub [0, 1, 4, 5, 14] (L' := [(0, .int .u64 a0), (1, .int .i64 a1), (4, .string (⟨#[]⟩ : ByteArray)), (5, .int .i64 0), (14, .bool ((decide (a1 < 1)) || (decide (a1 > 8))))]) (by kernel_rfl) ?_
  refine WL.join (σ := Bool) 10 (fun st => octets_Put.k2 a1 a0 k st = some r) (fun st => [(0, .int .u64 a0), (1, .int .i64 a1), (4, .string (⟨#[]⟩ : ByteArray)), (5, .int .i64 0), (24, .bool st)]) (fun st => Sat w Z [] [] Glob) (fun st hM => ?_) (fun K2 => ?_)
  ·
    obtain ⟨x6, rfl⟩ : ∃ y, y = st := ⟨st, rfl⟩
    replace hM : octets_Put.k2 a1 a0 k x6 = some r := hM
    unfold octets_Put.k2 at hM
    show WL _ _ _ _ _ [(0, .int .u64 a0), (1, .int .i64 a1), (4, .string (⟨#[]⟩ : ByteArray)), (5, .int .i64 0), (24, .bool x6)] (Sat w Z [] [] Glob)
    refine WP.done ?_
    refine WP.cond x6 rfl rfl (fun c7 => ?_) (fun c7 => ?_)
    · replace hM := cond_t hM c7
      refine WP.seq ?_
      refine WP.run [] [0, 1, 4, 5] (fun _ => [(0, .int .u64 a0), (1, .int .i64 a1), (4, .string (⟨#[]⟩ : ByteArray)), (5, .int .i64 1)]) (fun _ => []) (fun _ => []) (fun _ => by kernel_rfl) (fun _ => ?_)
      obtain rfl := Option.some.inj hM
      exact WP.ret [] [] (.tuple #[.string (⟨#[]⟩ : ByteArray), .int .i64 1]) (by kernel_rfl) (fun w' hw => ⟨rfl, hw.pick [] rfl⟩)
    · replace hM := cond_f hM c7
      refine WP.skip ?_
      refine WP.seq ?_
      refine WP.region ?_
      refine WL.run 1 [] [0, 1, 4, 5, 25] (fun _ => [(0, .int .u64 a0), (1, .int .i64 a1), (4, .string (⟨#[]⟩ : ByteArray)), (5, .int .i64 0), (25, .int .i64 a1)]) (fun _ => []) (fun _ => []) (fun _ => by kernel_rfl) (fun _ => ?_)
      obtain ⟨t8, h9, hM⟩ := bind_some hM
      refine WL.makeSlice (f := (encI .u8)) (z := 0) (zv := .int .u8 0) (i := a1) (k := .i64) (e := 5) (by kernel_rfl) (by kernel_rfl) rfl Nat.zero_lt_one (fun _ => rfl) (by kernel_rfl) (by kernel_rfl) h9 (by kernel_rfl) rfl (fun b10 => ?_)
      refine WL.run 1 [] [0, 1, 4, 5, 6] (fun _ => [(0, .int .u64 a0), (1, .int .i64 a1), (4, .string (⟨#[]⟩ : ByteArray)), (5, .int .i64 0), (6, .slice (some ⟨b10, 0, none⟩) t8 t8)]) (fun _ => [(b10, .cells (rowF (encI .u8) (List.replicate t8 0)) 5 (0, 0))]) (fun _ => []) (fun _ => by kernel_rfl) (fun _ => ?_)
      refine WP.done ?_
      refine WP.seq ?_
      refine WP.seq ?_
      refine WP.run [] [0, 1, 4, 5, 6, 28, 29] (fun _ => [(0, .int .u64 a0), (1, .int .i64 a1), (4, .string (⟨#[]⟩ : ByteArray)), (5, .int .i64 0), (6, .slice (some ⟨b10, 0, none⟩) t8 t8), (28, .int .i64 (t8 : Int)), (29, .int .i64 0)]) (fun _ => [(b10, .cells (rowF (encI .u8) (List.replicate t8 0)) 5 (0, 0))]) (fun _ => []) (fun _ => by kernel_rfl) (fun _ => ?_)
      refine WP.blockJoin (σ := (List Int)) (fun st => octets_Put.k4 t8 st = some r) (fun st => [(4, .string (⟨#[]⟩ : ByteArray)), (5, .int .i64 0), (6, .slice (some ⟨b10, 0, none⟩) t8 t8)]) (fun st => Sat w Z [(b10, .cells (rowF (encI .u8) st) 5 (0, 0))] [] Glob) (fun st hM => ?_) (fun K4 => ?_)
      ·
        obtain ⟨x24, rfl⟩ : ∃ y, y = st := ⟨st, rfl⟩
        replace hM : octets_Put.k4 t8 x24 = some r := hM
        unfold octets_Put.k4 at hM
        show WP _ _ _ _ _ [(4, .string (⟨#[]⟩ : ByteArray)), (5, .int .i64 0), (6, .slice (some ⟨b10, 0, none⟩) t8 t8)] (Sat w Z [(b10, .cells (rowF (encI .u8) x24) 5 (0, 0))] [] Glob)
        refine WP.seq ?_
        refine WP.region ?_
        refine WL.run 1 [] [4, 5, 44] (fun _ => [(4, .string (⟨#[]⟩ : ByteArray)), (5, .int .i64 0), (44, .slice (some ⟨b10, 0, none⟩) t8 t8)]) (fun _ => [(b10, .cells (rowF (encI .u8) x24) 5 (0, 0))]) (fun _ => []) (fun _ => by kernel_rfl) (fun _ => ?_)
        obtain ⟨t25, h26, hM⟩ := bind_some hM
        refine WL.strOf (b := b10) (n := t8) (c := t8) (xs := x24) (e0 := 5) (fr := (0, 0)) 0 (e := 5) (by kernel_rfl) (by kernel_rfl) (by kernel_rfl) (by kernel_rfl) (by kernel_rfl) (by kernel_rfl) h26 (by kernel_rfl) rfl ?_
        refine WL.run 2 [] [4, 5] (fun _ => [(4, .string t25), (5, .int .i64 0)]) (fun _ => [(b10, .cells (rowF (encI .u8) x24) 5 (0, 0))]) (fun _ => []) (fun _ => by kernel_rfl) (fun _ => ?_)
        refine WP.done ?_
        refine WP.keep [false] (by kernel_rfl : _ = []) ?_
        obtain rfl := Option.some.inj hM
        exact WP.ret [] [] (.tuple #[.string t25, .int .i64 0]) (by kernel_rfl) (fun w' hw => ⟨rfl, hw.pick [] rfl⟩)
      ·
        refine WP.sub [0, 1, 4, 5, 6, 28, 29] (L' := [(0, .int .u64 a0), (1, .int .i64 a1), (4, .string (⟨#[]⟩ : ByteArray)), (5, .int .i64 0), (6, .slice (some ⟨b10, 0, none⟩) t8 t8), (28, .int .i64 (t8 : Int)), (29, .int .i64 0)]) (by kernel_rfl) ?_
        refine WP.loop (σ := Int × (List Int)) (fun n st => octets_Put.l3 t8 a0 a1 n st.1 st.2) r (fun st => [(0, .int .u64 a0), (1, .int .i64 a1), (4, .string (⟨#[]⟩ : ByteArray)), (5, .int .i64 0), (6, .slice (some ⟨b10, 0, none⟩) t8 t8), (28, .int .i64 (t8 : Int)), (29, .int .i64 st.1)]) (fun st => Sat w Z [(b10, .cells (rowF (encI .u8) st.2) 5 (0, 0))] [] Glob) (st := (0, (List.replicate t8 0))) (fun n st hM => ?_) hM
        rcases n with _ | n
        · exact nomatch (show (none : Option _) = some r from hM)
        obtain ⟨x17, x18⟩ := st
        replace hM : octets_Put.l3 t8 a0 a1 (n + 1) x17 x18 = some r := hM
        rw [octets_Put.l3] at hM
        show WP _ _ _ _ _ [(0, .int .u64 a0), (1, .int .i64 a1), (4, .string (⟨#[]⟩ : ByteArray)), (5, .int .i64 0), (6, .slice (some ⟨b10, 0, none⟩) t8 t8), (28, .int .i64 (t8 : Int)), (29, .int .i64 x17)] (Sat w Z [(b10, .cells (rowF (encI .u8) x18) 5 (0, 0))] [] Glob)
        refine WP.seq ?_
        refine WP.run [] [0, 1, 4, 5, 6, 28, 29, 30] (fun _ => [(0, .int .u64 a0), (1, .int .i64 a1), (4, .string (⟨#[]⟩ : ByteArray)), (5, .int .i64 0), (6, .slice (some ⟨b10, 0, none⟩) t8 t8), (28, .int .i64 (t8 : Int)), (29, .int .i64 x17), (30, .bool (decide (x17 < (t8 : Int))))]) (fun _ => [(b10, .cells (rowF (encI .u8) x18) 5 (0, 0))]) (fun _ => []) (fun _ => by kernel_rfl) (fun _ => ?_)
        refine WP.seq ?_
        refine WP.cond (decide (x17 < (t8 : Int))) rfl rfl (fun c19 => ?_) (fun c19 => ?_)
        · replace hM := cond_t hM c19
          refine WP.skip ?_
          refine WP.seq ?_
          refine WP.block ?_
          refine WP.seq ?_
          refine WP.run [] [0, 1, 4, 5, 6, 7, 28, 29, 30, 31] (fun _ => [(0, .int .u64 a0), (1, .int .i64 a1), (4, .string (⟨#[]⟩ : ByteArray)), (5, .int .i64 0), (6, .slice (some ⟨b10, 0, none⟩) t8 t8), (7, .int .i64 x17), (28, .int .i64 (t8 : Int)), (29, .int .i64 x17), (30, .bool (decide (x17 < (t8 : Int)))), (31, .int .i64 x17)]) (fun _ => [(b10, .cells (rowF (encI .u8) x18) 5 (0, 0))]) (fun _ => []) (fun _ => by kernel_rfl) (fun _ => ?_)
          refine WP.region ?_
          refine WL.run 8 [] [0, 1, 4, 5, 6, 7, 28, 29, 30, 31, 32, 33, 34, 35, 36, 37, 38, 39] (fun _ => [(0, .int .u64 a0), (1, .int .i64 a1), (4, .string (⟨#[]⟩ : ByteArray)), (5, .int .i64 0), (6, .slice (some ⟨b10, 0, none⟩) t8 t8), (7, .int .i64 x17), (28, .int .i64 (t8 : Int)), (29, .int .i64 x17), (30, .bool (decide (x17 < (t8 : Int)))), (31, .int .i64 x17), (32, .slice (some ⟨b10, 0, none⟩) t8 t8), (33, .int .i64 a1), (34, .int .i64 (i64 (a1 - 1))), (35, .int .i64 x17), (36, .int .i64 (i64 ((i64 (a1 - 1)) - x17))), (37, .int .u64 a0), (38, .int .i64 x17), (39, .int .i64 (i64 (8 * x17)))]) (fun _ => [(b10, .cells (rowF (encI .u8) x18) 5 (0, 0))]) (fun _ => []) (fun _ => by kernel_rfl) (fun _ => ?_)
          obtain ⟨t20, h21, hM⟩ := bind_some hM
          refine WL.val (fun _ => run_shr (k := .u64) (k' := .i64) (a := a0) (b := i64 (8 * x17)) (by kernel_rfl) (by kernel_rfl) h21) (by kernel_rfl) (by kernel_rfl) rfl ?_
          refine WL.run 1 [] [0, 1, 4, 5, 6, 7, 28, 29, 30, 31, 32, 33, 34, 35, 36, 37, 38, 39, 40, 41] (fun _ => [(0, .int .u64 a0), (1, .int .i64 a1), (4, .string (⟨#[]⟩ : ByteArray)), (5, .int .i64 0), (6, .slice (some ⟨b10, 0, none⟩) t8 t8), (7, .int .i64 x17), (28, .int .i64 (t8 : Int)), (29, .int .i64 x17), (30, .bool (decide (x17 < (t8 : Int)))), (31, .int .i64 x17), (32, .slice (some ⟨b10, 0, none⟩) t8 t8), (33, .int .i64 a1), (34, .int .i64 (i64 (a1 - 1))), (35, .int .i64 x17), (36, .int .i64 (i64 ((i64 (a1 - 1)) - x17))), (37, .int .u64 a0), (38, .int .i64 x17), (39, .int .i64 (i64 (8 * x17))), (40, .int .u64 t20), (41, .int .u8 (u8 t20))]) (fun _ => [(b10, .cells (rowF (encI .u8) x18) 5 (0, 0))]) (fun _ => []) (fun _ => by kernel_rfl) (fun _ => ?_)
          obtain ⟨t22, h23, hM⟩ := bind_some hM
          refine WL.val (fun _ => run_indexAddr (i := i64 ((i64 (a1 - 1)) - x17)) (k := .i64) (b := b10) (o := 0) (n := t8) (c := t8) (e := 5) (sz := 1) (by kernel_rfl) (by kernel_rfl) (by kernel_rfl) (by kernel_rfl) (getL_parts h23).1) (by kernel_rfl) (by kernel_rfl) rfl ?_
          refine WL.storeCell (b := b10) (off := 0 + (i64 ((i64 (a1 - 1)) - x17)).toNat * 1) (e := 5) (H' := [(b10, .cells (rowF (encI .u8) (List.set x18 (i64 ((i64 (a1 - 1)) - x17)).toNat (u8 t20))) 5 (0, 0))]) (v := .int .u8 (u8 t20)) (u := .int .u8 t22) 0 (fun _ => by kernel_rfl) (by kernel_rfl) (by kernel_rfl) (by kernel_rfl) (by kernel_rfl) rfl (by kernel_rfl) (rowF_at0 (f := (encI .u8)) (m := 1) (fun _ => rfl) Nat.zero_lt_one h23) (rowF_set0 (f := (encI .u8)) (m := 1) (x' := u8 t20) (fun _ => rfl) Nat.zero_lt_one h23 rfl) (by kernel_rfl) (by kernel_rfl) ?_
          refine WP.done ?_
          refine WP.leave ?_
          refine WP.run [] [0, 1, 4, 5, 6, 7, 28, 29, 30, 31, 32, 33, 34, 35, 36, 37, 38, 39, 40, 41, 42, 43] (fun _ => [(0, .int .u64 a0), (1, .int .i64 a1), (4, .string (⟨#[]⟩ : ByteArray)), (5, .int .i64 0), (6, .slice (some ⟨b10, 0, none⟩) t8 t8), (7, .int .i64 x17), (28, .int .i64 (t8 : Int)), (29, .int .i64 (i64 (x17 + 1))), (30, .bool (decide (x17 < (t8 : Int)))), (31, .int .i64 x17), (32, .slice (some ⟨b10, 0, none⟩) t8 t8), (33, .int .i64 a1), (34, .int .i64 (i64 (a1 - 1))), (35, .int .i64 x17), (36, .int .i64 (i64 ((i64 (a1 - 1)) - x17))), (37, .int .u64 a0), (38, .int .i64 x17), (39, .int .i64 (i64 (8 * x17))), (40, .int .u64 t20), (41, .int .u8 (u8 t20)), (42, .pointer (some ⟨b10, 0 + (i64 ((i64 (a1 - 1)) - x17)).toNat * 1, none⟩)), (43, .int .i64 (i64 (x17 + 1)))]) (fun _ => [(b10, .cells (rowF (encI .u8) (List.set x18 (i64 ((i64 (a1 - 1)) - x17)).toNat (u8 t20))) 5 (0, 0))]) (fun _ => []) (fun _ => by kernel_rfl) (fun _ => ?_)
          exact WP.again' [0, 1, 4, 5, 6, 28, 29] (i64 (x17 + 1), (List.set x18 (i64 ((i64 (a1 - 1)) - x17)).toNat (u8 t20))) hM (by kernel_rfl) (fun _ h => h.pick [0] (by kernel_rfl))
        · replace hM := cond_f hM c19
          refine WP.exit rfl ?_
          exact WP.sub [4, 5, 6] (by kernel_rfl) (WP.pick [0] (by kernel_rfl) (by kernel_rfl) (K4 x18 hM))
  ·
    refine WL.split (fun b' => [(0, .int .u64 a0), (1, .int .i64 a1), (4, .string (⟨#[]⟩ : ByteArray)), (5, .int .i64 0), (14, .bool b')]) ((decide (a1 < 1)) || (decide (a1 > 8))) (fun c1 => ?_) (fun c1 => ?_)
    · replace hM := cond_t hM c1
      refine WL.run 10 [] [0, 1, 4, 5, 24] (fun _ => [(0, .int .u64 a0), (1, .int .i64 a1), (4, .string (⟨#[]⟩ : ByteArray)), (5, .int .i64 0), (24, .bool true)]) (fun _ => []) (fun _ => []) (fun _ => by kernel_rfl) (fun _ => ?_)
      exact WL.sub [0, 1, 4, 5, 24] (by kernel_rfl) (WL.pick [] (by kernel_rfl) (by kernel_rfl) (K2 true hM))
    · replace hM := cond_f hM c1
      refine WL.run 3 [] [0, 1, 4, 5, 14, 17] (fun _ => [(0, .int .u64 a0), (1, .int .i64 a1), (4, .string (⟨#[]⟩ : ByteArray)), (5, .int .i64 0), (14, .bool false), (17, .bool (decide (a1 < 8)))]) (fun _ => []) (fun _ => []) (fun _ => by kernel_rfl) (fun _ => ?_)
      refine WL.sub [0, 1, 4, 5, 14, 17] (L' := [(0, .int .u64 a0), (1, .int .i64 a1), (4, .string (⟨#[]⟩ : ByteArray)), (5, .int .i64 0), (14, .bool false), (17, .bool (decide (a1 < 8)))]) (by kernel_rfl) ?_
      refine WL.join (σ := Bool) 6 (fun st => octets_Put.k1 a1 a0 k st = some r) (fun st => [(0, .int .u64 a0), (1, .int .i64 a1), (4, .string (⟨#[]⟩ : ByteArray)), (5, .int .i64 0), (14, .bool false), (23, .bool st)]) (fun st => Sat w Z [] [] Glob) (fun st hM => ?_) (fun K1 => ?_)
      ·
        obtain ⟨x5, rfl⟩ : ∃ y, y = st := ⟨st, rfl⟩
        replace hM : octets_Put.k1 a1 a0 k x5 = some r := hM
        unfold octets_Put.k1 at hM
        show WL _ _ _ _ _ [(0, .int .u64 a0), (1, .int .i64 a1), (4, .string (⟨#[]⟩ : ByteArray)), (5, .int .i64 0), (14, .bool false), (23, .bool x5)] (Sat w Z [] [] Glob)
        refine WL.run 1 [] [0, 1, 4, 5, 24] (fun _ => [(0, .int .u64 a0), (1, .int .i64 a1), (4, .string (⟨#[]⟩ : ByteArray)), (5, .int .i64 0), (24, .bool x5)]) (fun _ => []) (fun _ => []) (fun _ => by kernel_rfl) (fun _ => ?_)
        exact WL.sub [0, 1, 4, 5, 24] (by kernel_rfl) (WL.pick [] (by kernel_rfl) (by kernel_rfl) (K2 x5 hM))
      ·
        refine WL.split (fun b' => [(0, .int .u64 a0), (1, .int .i64 a1), (4, .string (⟨#[]⟩ : ByteArray)), (5, .int .i64 0), (14, .bool false), (17, .bool b')]) (decide (a1 < 8)) (fun c2 => ?_) (fun c2 => ?_)
        · replace hM := cond_t hM c2
          refine WL.run 3 [] [0, 1, 4, 5, 14, 17, 18, 20] (fun _ => [(0, .int .u64 a0), (1, .int .i64 a1), (4, .string (⟨#[]⟩ : ByteArray)), (5, .int .i64 0), (14, .bool false), (17, .bool true), (18, .int .u64 a0), (20, .int .i64 (i64 (8 * a1)))]) (fun _ => []) (fun _ => []) (fun _ => by kernel_rfl) (fun _ => ?_)
          obtain ⟨t3, h4, hM⟩ := bind_some hM
          refine WL.val (fun _ => run_shr (k := .u64) (k' := .i64) (a := a0) (b := i64 (8 * a1)) (by kernel_rfl) (by kernel_rfl) h4) (by kernel_rfl) (by kernel_rfl) rfl ?_
          refine WL.run 2 [] [0, 1, 4, 5, 14, 23] (fun _ => [(0, .int .u64 a0), (1, .int .i64 a1), (4, .string (⟨#[]⟩ : ByteArray)), (5, .int .i64 0), (14, .bool false), (23, .bool (t3 != 0))]) (fun _ => []) (fun _ => []) (fun _ => by kernel_rfl) (fun _ => ?_)
          exact WL.sub [0, 1, 4, 5, 14, 23] (by kernel_rfl) (WL.pick [] (by kernel_rfl) (by kernel_rfl) (K1 (t3 != 0) hM))
        · replace hM := cond_f hM c2
          refine WL.run 6 [] [0, 1, 4, 5, 14, 23] (fun _ => [(0, .int .u64 a0), (1, .int .i64 a1), (4, .string (⟨#[]⟩ : ByteArray)), (5, .int .i64 0), (14, .bool false), (23, .bool false)]) (fun _ => []) (fun _ => []) (fun _ => by kernel_rfl) (fun _ => ?_)
          exact WL.sub [0, 1, 4, 5, 14, 23] (by kernel_rfl) (WL.pick [] (by kernel_rfl) (by kernel_rfl) (K1 false hM))

end Go.Proofs.YtefbjefmclhhjaaDoor

namespace Go.Proofs.YtefbjefmclhhjaaDoor
open Go Eng
set_option linter.unusedVariables false
set_option linter.unusedSimpArgs false

/-! ### gangway/ether.put: function 28 -/
def ether_put.f (k : Nat) (a0 : Int) (a1 : Int) : Option (ByteArray) :=
  (octets_Put.f k a0 a1).bind fun (r1, r2) =>
  some r1

set_option maxRecDepth 100000 in
theorem ether_put_calls (k : Nat) (a0 : Int) (a1 : Int) (r : ByteArray) (h : ether_put.f k a0 a1 = some r) : Pure Tryd.prog Glob 28 #[.int .u64 a0, .int .i64 a1] (.string r) := by
  intro w Z hS
  refine calls_of (args := [.int .u64 a0, .int .i64 a1]) (L := [(0, .int .u64 a0), (1, .int .i64 a1)]) (N := 14) (S := Sat w Z [] [] Glob) Tryd.func28 rfl rfl (Nat.le_of_ble_eq_true rfl) rfl hS ?_
  have hM := h
  clear h hS
  unfold ether_put.f at hM
  refine WP.seq ?_
  refine WP.run [] [0, 1, 4] (fun _ => [(0, .int .u64 a0), (1, .int .i64 a1), (4, .string (⟨#[]⟩ : ByteArray))]) (fun _ => []) (fun _ => []) (fun _ => by kernel_rfl) (fun _ => ?_)
  refine WP.seq ?_
  refine WP.region ?_
  refine WL.run 2 [] [4, 8, 9] (fun _ => [(4, .string (⟨#[]⟩ : ByteArray)), (8, .int .u64 a0), (9, .int .i64 a1)]) (fun _ => []) (fun _ => []) (fun _ => by kernel_rfl) (fun _ => ?_)
  obtain ⟨⟨r1, r2⟩, h3, hM⟩ := bind_some hM
  dsimp only at hM
  refine WL.callP [] [] (octets_Put_calls k a0 a1 _ h3) (fun _ h => h) (by kernel_rfl) (by kernel_rfl) rfl ?_
  refine WL.run 5 [] [4, 5] (fun _ => [(4, .string (⟨#[]⟩ : ByteArray)), (5, .string r1)]) (fun _ => []) (fun _ => []) (fun _ => by kernel_rfl) (fun _ => ?_)
  refine WP.done ?_
  refine WP.seq ?_
  refine WP.run [] [4] (fun _ => [(4, .string r1)]) (fun _ => []) (fun _ => []) (fun _ => by kernel_rfl) (fun _ => ?_)
  obtain rfl := Option.some.inj hM
  exact WP.ret [] [] (.string r1) (by kernel_rfl) (fun w' hw => ⟨rfl, hw.pick [] rfl⟩)

end Go.Proofs.YtefbjefmclhhjaaDoor

namespace Go.Proofs.YtefbjefmclhhjaaDoor
open Go Eng
set_option linter.unusedVariables false
set_option linter.unusedSimpArgs false

/-! ### gangway/ether.info: function 29 -/
def ether_info.k1 (x3 : Int) : Option (Int) :=
  some (u64 x3)

def ether_info.f (a0 : api_Tag) : Option (Int) :=
  bif a0.Dei then
    ether_info.k1 (bOr .i64 (bOr .i64 (i64 (a0.Pri * 8192)) a0.Vid) 4096)
  else
    ether_info.k1 (bOr .i64 (i64 (a0.Pri * 8192)) a0.Vid)

set_option maxRecDepth 100000 in
theorem ether_info_calls (a0 : api_Tag) (r : Int) (h : ether_info.f a0 = some r) : Pure Tryd.prog Glob 29 #[.agg #[.bool a0.Has, .int .i64 a0.Pri, .bool a0.Dei, .int .i64 a0.Vid]] (.int .u64 r) := by
  intro w Z hS
  refine calls_of (args := [.agg #[.bool a0.Has, .int .i64 a0.Pri, .bool a0.Dei, .int .i64 a0.Vid]]) (L := [(0, .agg #[.bool a0.Has, .int .i64 a0.Pri, .bool a0.Dei, .int .i64 a0.Vid])]) (N := 16) (S := Sat w Z [] [] Glob) Tryd.func29 rfl rfl (Nat.le_of_ble_eq_true rfl) rfl hS ?_
  have hM := h
  clear h hS
  unfold ether_info.f at hM
  refine WP.seq ?_
  refine WP.run [] [1, 2] (fun b1 => [(1, .pointer (some ⟨b1, 0, none⟩)), (2, .int .u64 0)]) (fun b1 => [(b1, .cells #[.bool a0.Has, .int .i64 a0.Pri, .bool a0.Dei, .int .i64 a0.Vid] 24 (0, 0))]) (fun b1 => []) (fun b1 => by kernel_rfl) (fun b1 => ?_)
  refine WP.seq ?_
  refine WP.run [0, 0] [1, 2, 3] (fun _ => [(1, .pointer (some ⟨b1, 0, none⟩)), (2, .int .u64 0), (3, .int .i64 (bOr .i64 (i64 (a0.Pri * 8192)) a0.Vid))]) (fun _ => [(b1, .cells #[.bool a0.Has, .int .i64 a0.Pri, .bool a0.Dei, .int .i64 a0.Vid] 24 (0, 0))]) (fun _ => [b1, b1]) (fun _ => by kernel_rfl) (fun _ => ?_)
  refine WP.seqJoin (σ := Int) (fun st => ether_info.k1 st = some r) (fun st => [(2, .int .u64 0), (3, .int .i64 st)]) (fun st => Sat w Z [] [] Glob) (fun st hM => ?_) (fun K1 => ?_)
  ·
    obtain ⟨x3, rfl⟩ : ∃ y, y = st := ⟨st, rfl⟩
    replace hM : ether_info.k1 x3 = some r := hM
    unfold ether_info.k1 at hM
    show WP _ _ _ _ _ [(2, .int .u64 0), (3, .int .i64 x3)] (Sat w Z [] [] Glob)
    refine WP.seq ?_
    refine WP.run [] [2] (fun _ => [(2, .int .u64 (u64 x3))]) (fun _ => []) (fun _ => []) (fun _ => by kernel_rfl) (fun _ => ?_)
    obtain rfl := Option.some.inj hM
    exact WP.ret [] [] (.int .u64 (u64 x3)) (by kernel_rfl) (fun w' hw => ⟨rfl, hw.pick [] rfl⟩)
  ·
    refine WP.seq ?_
    refine WP.run [0] [2, 3, 11] (fun _ => [(2, .int .u64 0), (3, .int .i64 (bOr .i64 (i64 (a0.Pri * 8192)) a0.Vid)), (11, .bool a0.Dei)]) (fun _ => [(b1, .cells #[.bool a0.Has, .int .i64 a0.Pri, .bool a0.Dei, .int .i64 a0.Vid] 24 (0, 0))]) (fun _ => [b1]) (fun _ => by kernel_rfl) (fun _ => ?_)
    refine WP.keep [false] (by kernel_rfl : _ = []) ?_
    refine WP.cond a0.Dei rfl rfl (fun c2 => ?_) (fun c2 => ?_)
    · replace hM := cond_t hM c2
      refine WP.run [] [2, 3] (fun _ => [(2, .int .u64 0), (3, .int .i64 (bOr .i64 (bOr .i64 (i64 (a0.Pri * 8192)) a0.Vid) 4096))]) (fun _ => []) (fun _ => []) (fun _ => by kernel_rfl) (fun _ => ?_)
      exact WP.sub [2, 3] (by kernel_rfl) (WP.pick [] (by kernel_rfl) (by kernel_rfl) (K1 (bOr .i64 (bOr .i64 (i64 (a0.Pri * 8192)) a0.Vid) 4096) hM))
    · replace hM := cond_f hM c2
      refine WP.skip ?_
      exact WP.sub [2, 3] (by kernel_rfl) (WP.pick [] (by kernel_rfl) (by kernel_rfl) (K1 (bOr .i64 (i64 (a0.Pri * 8192)) a0.Vid) hM))

end Go.Proofs.YtefbjefmclhhjaaDoor

namespace Go.Proofs.YtefbjefmclhhjaaDoor
open Go Eng
set_option linter.unusedVariables false
set_option linter.unusedSimpArgs false

/-! ### gangway/ether.Build: function 12 -/
def ether_Build.k1 (k : Nat) (x22 : ByteArray) (a0 : api_Frame) (x24 : Int) : Option (ByteArray × Int) :=
  (ether_put.f k (u64 x24) 2).bind fun r25 =>
  (catS x22 r25).bind fun t27 =>
  (catS t27 a0.Body).bind fun t29 =>
  some (t29, 0)

def ether_Build.k2 (a0 : api_Frame) (k : Nat) (x22 : ByteArray) : Option (ByteArray × Int) :=
  bif (a0.Type_ == 0) then
    ether_Build.k1 k x22 a0 (a0.Body.size : Int)
  else
    ether_Build.k1 k x22 a0 a0.Type_

def ether_Build.f (k : Nat) (a0 : api_Frame) : Option (ByteArray × Int) :=
  (ether_Check.f a0).bind fun r2 =>
  bif (r2 != 0) then
    some ((⟨#[]⟩ : ByteArray), r2)
  else
    (ether_put.f k a0.Dst 6).bind fun r5 =>
    (ether_put.f k a0.Src 6).bind fun r7 =>
    (catS r5 r7).bind fun t9 =>
    bif a0.Tag.Has then
      (ether_put.f k 33024 2).bind fun r12 =>
      (ether_info.f a0.Tag).bind fun r14 =>
      (ether_put.f k r14 2).bind fun r16 =>
      (catS r12 r16).bind fun t18 =>
      (catS t9 t18).bind fun t20 =>
      ether_Build.k2 a0 k t20
    else
      ether_Build.k2 a0 k t9

set_option maxRecDepth 100000 in
theorem ether_Build_calls (k : Nat) (a0 : api_Frame) (r : ByteArray × Int) (h : ether_Build.f k a0 = some r) : Pure Tryd.prog Glob 12 #[.agg #[.int .u64 a0.Dst, .int .u64 a0.Src, .bool a0.Tag.Has, .int .i64 a0.Tag.Pri, .bool a0.Tag.Dei, .int .i64 a0.Tag.Vid, .int .i64 a0.Type_, .string a0.Body]] (.tuple #[.string r.1, .int .i64 r.2]) := by
  intro w Z hS
  refine calls_of (args := [.agg #[.int .u64 a0.Dst, .int .u64 a0.Src, .bool a0.Tag.Has, .int .i64 a0.Tag.Pri, .bool a0.Tag.Dei, .int .i64 a0.Tag.Vid, .int .i64 a0.Type_, .string a0.Body]]) (L := [(0, .agg #[.int .u64 a0.Dst, .int .u64 a0.Src, .bool a0.Tag.Has, .int .i64 a0.Tag.Pri, .bool a0.Tag.Dei, .int .i64 a0.Tag.Vid, .int .i64 a0.Type_, .string a0.Body])]) (N := 45) (S := Sat w Z [] [] Glob) Tryd.func12 rfl rfl (Nat.le_of_ble_eq_true rfl) rfl hS ?_
  have hM := h
  clear h hS
  unfold ether_Build.f at hM
  refine WP.seq ?_
  refine WP.run [] [1, 2, 3] (fun b1 => [(1, .pointer (some ⟨b1, 0, none⟩)), (2, .string (⟨#[]⟩ : ByteArray)), (3, .int .i64 0)]) (fun b1 => [(b1, .cells #[.int .u64 a0.Dst, .int .u64 a0.Src, .bool a0.Tag.Has, .int .i64 a0.Tag.Pri, .bool a0.Tag.Dei, .int .i64 a0.Tag.Vid, .int .i64 a0.Type_, .string a0.Body] 26 (0, 0))]) (fun b1 => []) (fun b1 => by kernel_rfl) (fun b1 => ?_)
  refine WP.seq ?_
  refine WP.seq ?_
  refine WP.region ?_
  refine WL.run 1 [0, 0, 0, 0, 0, 0, 0, 0] [1, 2, 3, 7] (fun _ => [(1, .pointer (some ⟨b1, 0, none⟩)), (2, .string (⟨#[]⟩ : ByteArray)), (3, .int .i64 0), (7, .agg #[.int .u64 a0.Dst, .int .u64 a0.Src, .bool a0.Tag.Has, .int .i64 a0.Tag.Pri, .bool a0.Tag.Dei, .int .i64 a0.Tag.Vid, .int .i64 a0.Type_, .string a0.Body])]) (fun _ => [(b1, .cells #[.int .u64 a0.Dst, .int .u64 a0.Src, .bool a0.Tag.Has, .int .i64 a0.Tag.Pri, .bool a0.Tag.Dei, .int .i64 a0.Tag.Vid, .int .i64 a0.Type_, .string a0.Body] 26 (0, 0))]) (fun _ => [b1, b1, b1, b1, b1, b1, b1, b1]) (fun _ => by kernel_rfl) (fun _ => ?_)
  obtain ⟨r2, h3, hM⟩ := bind_some hM
  refine WL.callP [] [] (ether_Check_calls a0 _ h3) (fun _ h => h) (by kernel_rfl) (by kernel_rfl) rfl ?_
  refine WL.run 1 [] [1, 2, 3, 4] (fun _ => [(1, .pointer (some ⟨b1, 0, none⟩)), (2, .string (⟨#[]⟩ : ByteArray)), (3, .int .i64 0), (4, .int .i64 r2)]) (fun _ => [(b1, .cells #[.int .u64 a0.Dst, .int .u64 a0.Src, .bool a0.Tag.Has, .int .i64 a0.Tag.Pri, .bool a0.Tag.Dei, .int .i64 a0.Tag.Vid, .int .i64 a0.Type_, .string a0.Body] 26 (0, 0))]) (fun _ => []) (fun _ => by kernel_rfl) (fun _ => ?_)
  refine WP.done ?_
  refine WP.seq ?_
  refine WP.run [] [1, 2, 3, 4, 10] (fun _ => [(1, .pointer (some ⟨b1, 0, none⟩)), (2, .string (⟨#[]⟩ : ByteArray)), (3, .int .i64 0), (4, .int .i64 r2), (10, .bool (r2 != 0))]) (fun _ => [(b1, .cells #[.int .u64 a0.Dst, .int .u64 a0.Src, .bool a0.Tag.Has, .int .i64 a0.Tag.Pri, .bool a0.Tag.Dei, .int .i64 a0.Tag.Vid, .int .i64 a0.Type_, .string a0.Body] 26 (0, 0))]) (fun _ => []) (fun _ => by kernel_rfl) (fun _ => ?_)
  refine WP.cond (r2 != 0) rfl rfl (fun c4 => ?_) (fun c4 => ?_)
  · replace hM := cond_t hM c4
    refine WP.seq ?_
    refine WP.run [] [1, 2, 3] (fun _ => [(1, .pointer (some ⟨b1, 0, none⟩)), (2, .string (⟨#[]⟩ : ByteArray)), (3, .int .i64 r2)]) (fun _ => [(b1, .cells #[.int .u64 a0.Dst, .int .u64 a0.Src, .bool a0.Tag.Has, .int .i64 a0.Tag.Pri, .bool a0.Tag.Dei, .int .i64 a0.Tag.Vid, .int .i64 a0.Type_, .string a0.Body] 26 (0, 0))]) (fun _ => []) (fun _ => by kernel_rfl) (fun _ => ?_)
    obtain rfl := Option.some.inj hM
    exact WP.ret [] [] (.tuple #[.string (⟨#[]⟩ : ByteArray), .int .i64 r2]) (by kernel_rfl) (fun w' hw => ⟨rfl, hw.pick [] rfl⟩)
  · replace hM := cond_f hM c4
    refine WP.skip ?_
    refine WP.seq ?_
    refine WP.quiet (by kernel_rfl) (by kernel_rfl) ?_
    refine QL.run 2 [0] [1, 2, 3, 13] [b1] [(1, .pointer (some ⟨b1, 0, none⟩)), (2, .string (⟨#[]⟩ : ByteArray)), (3, .int .i64 0), (13, .int .u64 a0.Dst)] (by kernel_rfl) ?_
    obtain ⟨r5, h6, hM⟩ := bind_some hM
    refine QL.callP [] [] (ether_put_calls k a0.Dst 6 _ h6) (fun _ h => h) (by kernel_rfl) (by kernel_rfl) rfl ?_
    refine QL.run 2 [0] [1, 2, 3, 14, 16] [b1] [(1, .pointer (some ⟨b1, 0, none⟩)), (2, .string (⟨#[]⟩ : ByteArray)), (3, .int .i64 0), (14, .string r5), (16, .int .u64 a0.Src)] (by kernel_rfl) ?_
    obtain ⟨r7, h8, hM⟩ := bind_some hM
    refine QL.callP [] [] (ether_put_calls k a0.Src 6 _ h8) (fun _ h => h) (by kernel_rfl) (by kernel_rfl) rfl ?_
    obtain ⟨t9, h10, hM⟩ := bind_some hM
    refine QL.val (fun _ => run_catS (a := r5) (b := r7) (by kernel_rfl) (by kernel_rfl) h10) (by kernel_rfl) (by kernel_rfl) rfl ?_
    refine QL.run 1 [] [1, 2, 3, 5] [] [(1, .pointer (some ⟨b1, 0, none⟩)), (2, .string (⟨#[]⟩ : ByteArray)), (3, .int .i64 0), (5, .string t9)] (by kernel_rfl) ?_
    refine QL.done ?_
    refine WP.seqJoin (σ := ByteArray) (fun st => ether_Build.k2 a0 k st = some r) (fun st => [(1, .pointer (some ⟨b1, 0, none⟩)), (2, .string (⟨#[]⟩ : ByteArray)), (3, .int .i64 0), (5, .string st)]) (fun st => Sat w Z [(b1, .cells #[.int .u64 a0.Dst, .int .u64 a0.Src, .bool a0.Tag.Has, .int .i64 a0.Tag.Pri, .bool a0.Tag.Dei, .int .i64 a0.Tag.Vid, .int .i64 a0.Type_, .string a0.Body] 26 (0, 0))] [] Glob) (fun st hM => ?_) (fun K2 => ?_)
    ·
      obtain ⟨x22, rfl⟩ : ∃ y, y = st := ⟨st, rfl⟩
      replace hM : ether_Build.k2 a0 k x22 = some r := hM
      unfold ether_Build.k2 at hM
      show WP _ _ _ _ _ [(1, .pointer (some ⟨b1, 0, none⟩)), (2, .string (⟨#[]⟩ : ByteArray)), (3, .int .i64 0), (5, .string x22)] (Sat w Z [(b1, .cells #[.int .u64 a0.Dst, .int .u64 a0.Src, .bool a0.Tag.Has, .int .i64 a0.Tag.Pri, .bool a0.Tag.Dei, .int .i64 a0.Tag.Vid, .int .i64 a0.Type_, .string a0.Body] 26 (0, 0))] [] Glob)
      refine WP.seq ?_
      refine WP.run [0] [1, 2, 3, 5, 6] (fun _ => [(1, .pointer (some ⟨b1, 0, none⟩)), (2, .string (⟨#[]⟩ : ByteArray)), (3, .int .i64 0), (5, .string x22), (6, .int .i64 a0.Type_)]) (fun _ => [(b1, .cells #[.int .u64 a0.Dst, .int .u64 a0.Src, .bool a0.Tag.Has, .int .i64 a0.Tag.Pri, .bool a0.Tag.Dei, .int .i64 a0.Tag.Vid, .int .i64 a0.Type_, .string a0.Body] 26 (0, 0))]) (fun _ => [b1]) (fun _ => by kernel_rfl) (fun _ => ?_)
      refine WP.seqJoin (σ := Int) (fun st => ether_Build.k1 k x22 a0 st = some r) (fun st => [(1, .pointer (some ⟨b1, 0, none⟩)), (2, .string (⟨#[]⟩ : ByteArray)), (3, .int .i64 0), (5, .string x22), (6, .int .i64 st)]) (fun st => Sat w Z [(b1, .cells #[.int .u64 a0.Dst, .int .u64 a0.Src, .bool a0.Tag.Has, .int .i64 a0.Tag.Pri, .bool a0.Tag.Dei, .int .i64 a0.Tag.Vid, .int .i64 a0.Type_, .string a0.Body] 26 (0, 0))] [] Glob) (fun st hM => ?_) (fun K1 => ?_)
      ·
        obtain ⟨x24, rfl⟩ : ∃ y, y = st := ⟨st, rfl⟩
        replace hM : ether_Build.k1 k x22 a0 x24 = some r := hM
        unfold ether_Build.k1 at hM
        show WP _ _ _ _ _ [(1, .pointer (some ⟨b1, 0, none⟩)), (2, .string (⟨#[]⟩ : ByteArray)), (3, .int .i64 0), (5, .string x22), (6, .int .i64 x24)] (Sat w Z [(b1, .cells #[.int .u64 a0.Dst, .int .u64 a0.Src, .bool a0.Tag.Has, .int .i64 a0.Tag.Pri, .bool a0.Tag.Dei, .int .i64 a0.Tag.Vid, .int .i64 a0.Type_, .string a0.Body] 26 (0, 0))] [] Glob)
        refine WP.seq ?_
        refine WP.quiet (by kernel_rfl) (by kernel_rfl) ?_
        refine QL.run 3 [] [1, 2, 3, 37, 39] [] [(1, .pointer (some ⟨b1, 0, none⟩)), (2, .string (⟨#[]⟩ : ByteArray)), (3, .int .i64 0), (37, .string x22), (39, .int .u64 (u64 x24))] (by kernel_rfl) ?_
        obtain ⟨r25, h26, hM⟩ := bind_some hM
        refine QL.callP [] [] (ether_put_calls k (u64 x24) 2 _ h26) (fun _ h => h) (by kernel_rfl) (by kernel_rfl) rfl ?_
        obtain ⟨t27, h28, hM⟩ := bind_some hM
        refine QL.val (fun _ => run_catS (a := x22) (b := r25) (by kernel_rfl) (by kernel_rfl) h28) (by kernel_rfl) (by kernel_rfl) rfl ?_
        refine QL.run 2 [0] [2, 3, 41, 43] [b1] [(2, .string (⟨#[]⟩ : ByteArray)), (3, .int .i64 0), (41, .string t27), (43, .string a0.Body)] (by kernel_rfl) ?_
        obtain ⟨t29, h30, hM⟩ := bind_some hM
        refine QL.val (fun _ => run_catS (a := t27) (b := a0.Body) (by kernel_rfl) (by kernel_rfl) h30) (by kernel_rfl) (by kernel_rfl) rfl ?_
        refine QL.run 2 [] [2, 3] [] [(2, .string t29), (3, .int .i64 0)] (by kernel_rfl) ?_
        refine QL.done ?_
        refine WP.keep [false] (by kernel_rfl : _ = []) ?_
        obtain rfl := Option.some.inj hM
        exact WP.ret [] [] (.tuple #[.string t29, .int .i64 0]) (by kernel_rfl) (fun w' hw => ⟨rfl, hw.pick [] rfl⟩)
      ·
        refine WP.seq ?_
        refine WP.run [] [1, 2, 3, 5, 6, 33] (fun _ => [(1, .pointer (some ⟨b1, 0, none⟩)), (2, .string (⟨#[]⟩ : ByteArray)), (3, .int .i64 0), (5, .string x22), (6, .int .i64 a0.Type_), (33, .bool (a0.Type_ == 0))]) (fun _ => [(b1, .cells #[.int .u64 a0.Dst, .int .u64 a0.Src, .bool a0.Tag.Has, .int .i64 a0.Tag.Pri, .bool a0.Tag.Dei, .int .i64 a0.Tag.Vid, .int .i64 a0.Type_, .string a0.Body] 26 (0, 0))]) (fun _ => []) (fun _ => by kernel_rfl) (fun _ => ?_)
        refine WP.cond (a0.Type_ == 0) rfl rfl (fun c23 => ?_) (fun c23 => ?_)
        · replace hM := cond_t hM c23
          refine WP.run [0] [1, 2, 3, 5, 6] (fun _ => [(1, .pointer (some ⟨b1, 0, none⟩)), (2, .string (⟨#[]⟩ : ByteArray)), (3, .int .i64 0), (5, .string x22), (6, .int .i64 (a0.Body.size : Int))]) (fun _ => [(b1, .cells #[.int .u64 a0.Dst, .int .u64 a0.Src, .bool a0.Tag.Has, .int .i64 a0.Tag.Pri, .bool a0.Tag.Dei, .int .i64 a0.Tag.Vid, .int .i64 a0.Type_, .string a0.Body] 26 (0, 0))]) (fun _ => [b1]) (fun _ => by kernel_rfl) (fun _ => ?_)
          exact WP.sub [1, 2, 3, 5, 6] (by kernel_rfl) (WP.pick [0] (by kernel_rfl) (by kernel_rfl) (K1 (a0.Body.size : Int) hM))
        · replace hM := cond_f hM c23
          refine WP.skip ?_
          exact WP.sub [1, 2, 3, 5, 6] (by kernel_rfl) (WP.pick [0] (by kernel_rfl) (by kernel_rfl) (K1 a0.Type_ hM))
    ·
      refine WP.seq ?_
      refine WP.run [0] [1, 2, 3, 5, 21] (fun _ => [(1, .pointer (some ⟨b1, 0, none⟩)), (2, .string (⟨#[]⟩ : ByteArray)), (3, .int .i64 0), (5, .string t9), (21, .bool a0.Tag.Has)]) (fun _ => [(b1, .cells #[.int .u64 a0.Dst, .int .u64 a0.Src, .bool a0.Tag.Has, .int .i64 a0.Tag.Pri, .bool a0.Tag.Dei, .int .i64 a0.Tag.Vid, .int .i64 a0.Type_, .string a0.Body] 26 (0, 0))]) (fun _ => [b1]) (fun _ => by kernel_rfl) (fun _ => ?_)
      refine WP.cond a0.Tag.Has rfl rfl (fun c11 => ?_) (fun c11 => ?_)
      · replace hM := cond_t hM c11
        refine WP.quiet (by kernel_rfl) (by kernel_rfl) ?_
        refine QL.run 1 [] [1, 2, 3, 5, 22] [] [(1, .pointer (some ⟨b1, 0, none⟩)), (2, .string (⟨#[]⟩ : ByteArray)), (3, .int .i64 0), (5, .string t9), (22, .string t9)] (by kernel_rfl) ?_
        obtain ⟨r12, h13, hM⟩ := bind_some hM
        refine QL.callP [] [] (ether_put_calls k 33024 2 _ h13) (fun _ h => h) (by kernel_rfl) (by kernel_rfl) rfl ?_
        refine QL.run 2 [0, 0, 0, 0] [1, 2, 3, 5, 22, 23, 25] [b1, b1, b1, b1] [(1, .pointer (some ⟨b1, 0, none⟩)), (2, .string (⟨#[]⟩ : ByteArray)), (3, .int .i64 0), (5, .string t9), (22, .string t9), (23, .string r12), (25, .agg #[.bool a0.Tag.Has, .int .i64 a0.Tag.Pri, .bool a0.Tag.Dei, .int .i64 a0.Tag.Vid])] (by kernel_rfl) ?_
        obtain ⟨r14, h15, hM⟩ := bind_some hM
        refine QL.callP [] [] (ether_info_calls a0.Tag _ h15) (fun _ h => h) (by kernel_rfl) (by kernel_rfl) rfl ?_
        obtain ⟨r16, h17, hM⟩ := bind_some hM
        refine QL.callP [] [] (ether_put_calls k r14 2 _ h17) (fun _ h => h) (by kernel_rfl) (by kernel_rfl) rfl ?_
        obtain ⟨t18, h19, hM⟩ := bind_some hM
        refine QL.val (fun _ => run_catS (a := r12) (b := r16) (by kernel_rfl) (by kernel_rfl) h19) (by kernel_rfl) (by kernel_rfl) rfl ?_
        obtain ⟨t20, h21, hM⟩ := bind_some hM
        refine QL.val (fun _ => run_catS (a := t9) (b := t18) (by kernel_rfl) (by kernel_rfl) h21) (by kernel_rfl) (by kernel_rfl) rfl ?_
        refine QL.run 1 [] [1, 2, 3, 5] [] [(1, .pointer (some ⟨b1, 0, none⟩)), (2, .string (⟨#[]⟩ : ByteArray)), (3, .int .i64 0), (5, .string t20)] (by kernel_rfl) ?_
        refine QL.done ?_
        exact WP.sub [1, 2, 3, 5] (by kernel_rfl) (WP.pick [0] (by kernel_rfl) (by kernel_rfl) (K2 t20 hM))
      · replace hM := cond_f hM c11
        refine WP.skip ?_
        exact WP.sub [1, 2, 3, 5] (by kernel_rfl) (WP.pick [0] (by kernel_rfl) (by kernel_rfl) (K2 t9 hM))

end Go.Proofs.YtefbjefmclhhjaaDoor

namespace Go.Proofs.YtefbjefmclhhjaaDoor
open Go Eng
set_option linter.unusedVariables false
set_option linter.unusedSimpArgs false

/-! ### gangway/octets.part: function 61 -/
def octets_part.f (a0 : ByteArray) (a1 : Int) (a2 : Int) : Option (ByteArray × Un0) :=
  bif ((decide (a1 < 0)) || (decide (a2 < 0))) then
    some ((⟨#[]⟩ : ByteArray), some (a1, 1))
  else
    bif ((decide (a1 > (a0.size : Int))) || (decide (a2 > (i64 ((a0.size : Int) - a1))))) then
      some ((⟨#[]⟩ : ByteArray), some (a1, 10))
    else
      (sliceS a0 a1 (i64 (a1 + a2))).bind fun t3 =>
      some (t3, none)

set_option maxRecDepth 100000 in
theorem octets_part_calls (a0 : ByteArray) (a1 : Int) (a2 : Int) (r : ByteArray × Un0) (h : octets_part.f a0 a1 a2 = some r) : Pure Tryd.prog Glob 61 #[.string a0, .int .i64 a1, .int .i64 a2] (.tuple #[.string r.1, Un0.v r.2]) := by
  intro w Z hS
  refine calls_of (args := [.string a0, .int .i64 a1, .int .i64 a2]) (L := [(0, .string a0), (1, .int .i64 a1), (2, .int .i64 a2)]) (N := 42) (S := Sat w Z [] [] Glob) Tryd.func61 rfl rfl (Nat.le_of_ble_eq_true rfl) rfl hS ?_
  have hM := h
  clear h hS
  unfold octets_part.f at hM
  refine WP.seq ?_
  refine WP.run [] [0, 1, 2, 6, 7] (fun _ => [(0, .string a0), (1, .int .i64 a1), (2, .int .i64 a2), (6, .string (⟨#[]⟩ : ByteArray)), (7, .nilIface)]) (fun _ => []) (fun _ => []) (fun _ => by kernel_rfl) (fun _ => ?_)
  refine WP.seq ?_
  refine WP.block ?_
  refine WP.seq ?_
  refine WP.region ?_
  refine WL.run 3 [] [0, 1, 2, 6, 7, 11] (fun _ => [(0, .string a0), (1, .int .i64 a1), (2, .int .i64 a2), (6, .string (⟨#[]⟩ : ByteArray)), (7, .nilIface), (11, .bool (decide (a1 < 0)))]) (fun _ => []) (fun _ => []) (fun _ => by kernel_rfl) (fun _ => ?_)
  refine WL.sub [0, 1, 2, 6, 7, 11] (L' := [(0, .string a0), (1, .int .i64 a1), (2, .int .i64 a2), (6, .string (⟨#[]⟩ : ByteArray)), (7, .nilIface), (11, .bool (decide (a1 < 0)))]) (by kernel_rfl) ?_
  refine WL.both (fun b' => [(0, .string a0), (1, .int .i64 a1), (2, .int .i64 a2), (6, .string (⟨#[]⟩ : ByteArray)), (7, .nilIface), (11, .bool b')]) (decide (a1 < 0)) 3 [] [] [0, 1, 2, 6, 7, 14] (fun b' => [(0, .string a0), (1, .int .i64 a1), (2, .int .i64 a2), (6, .string (⟨#[]⟩ : ByteArray)), (7, .nilIface), (14, .bool (b' || (decide (a2 < 0))))]) [] [] (fun _ => by kernel_rfl) (fun _ => by kernel_rfl) ?_
  refine WL.run 1 [] [0, 1, 2, 6, 7, 8] (fun _ => [(0, .string a0), (1, .int .i64 a1), (2, .int .i64 a2), (6, .string (⟨#[]⟩ : ByteArray)), (7, .nilIface), (8, .bool ((decide (a1 < 0)) || (decide (a2 < 0))))]) (fun _ => []) (fun _ => []) (fun _ => by kernel_rfl) (fun _ => ?_)
  refine WP.done ?_
  refine WP.cond ((decide (a1 < 0)) || (decide (a2 < 0))) rfl rfl (fun c1 => ?_) (fun c1 => ?_)
  · replace hM := cond_t hM c1
    refine WP.seq ?_
    refine WP.run [] [0, 1, 2, 6, 7] (fun _ => [(0, .string a0), (1, .int .i64 a1), (2, .int .i64 a2), (6, .string (⟨#[]⟩ : ByteArray)), (7, .iface 125 (.agg #[.int .i64 a1, .iface 27 (.int .i64 1)]))]) (fun _ => []) (fun _ => []) (fun _ => by kernel_rfl) (fun _ => ?_)
    obtain rfl := Option.some.inj hM
    exact WP.ret [] [] (.tuple #[.string (⟨#[]⟩ : ByteArray), .iface 125 (.agg #[.int .i64 a1, .iface 27 (.int .i64 1)])]) (by kernel_rfl) (fun w' hw => ⟨rfl, hw.pick [] rfl⟩)
  · replace hM := cond_f hM c1
    refine WP.seq ?_
    refine WP.region ?_
    refine WL.run 5 [] [0, 1, 2, 6, 7, 24] (fun _ => [(0, .string a0), (1, .int .i64 a1), (2, .int .i64 a2), (6, .string (⟨#[]⟩ : ByteArray)), (7, .nilIface), (24, .bool (decide (a1 > (a0.size : Int))))]) (fun _ => []) (fun _ => []) (fun _ => by kernel_rfl) (fun _ => ?_)
    refine WL.sub [0, 1, 2, 6, 7, 24] (L' := [(0, .string a0), (1, .int .i64 a1), (2, .int .i64 a2), (6, .string (⟨#[]⟩ : ByteArray)), (7, .nilIface), (24, .bool (decide (a1 > (a0.size : Int))))]) (by kernel_rfl) ?_
    refine WL.both (fun b' => [(0, .string a0), (1, .int .i64 a1), (2, .int .i64 a2), (6, .string (⟨#[]⟩ : ByteArray)), (7, .nilIface), (24, .bool b')]) (decide (a1 > (a0.size : Int))) 7 [] [] [0, 1, 2, 6, 7, 31] (fun b' => [(0, .string a0), (1, .int .i64 a1), (2, .int .i64 a2), (6, .string (⟨#[]⟩ : ByteArray)), (7, .nilIface), (31, .bool (b' || (decide (a2 > (i64 ((a0.size : Int) - a1))))))]) [] [] (fun _ => by kernel_rfl) (fun _ => by kernel_rfl) ?_
    refine WL.run 1 [] [0, 1, 2, 6, 7, 19] (fun _ => [(0, .string a0), (1, .int .i64 a1), (2, .int .i64 a2), (6, .string (⟨#[]⟩ : ByteArray)), (7, .nilIface), (19, .bool ((decide (a1 > (a0.size : Int))) || (decide (a2 > (i64 ((a0.size : Int) - a1))))))]) (fun _ => []) (fun _ => []) (fun _ => by kernel_rfl) (fun _ => ?_)
    refine WP.done ?_
    refine WP.cond ((decide (a1 > (a0.size : Int))) || (decide (a2 > (i64 ((a0.size : Int) - a1))))) rfl rfl (fun c2 => ?_) (fun c2 => ?_)
    · replace hM := cond_t hM c2
      refine WP.seq ?_
      refine WP.run [] [0, 1, 2, 6, 7] (fun _ => [(0, .string a0), (1, .int .i64 a1), (2, .int .i64 a2), (6, .string (⟨#[]⟩ : ByteArray)), (7, .iface 125 (.agg #[.int .i64 a1, .iface 27 (.int .i64 10)]))]) (fun _ => []) (fun _ => []) (fun _ => by kernel_rfl) (fun _ => ?_)
      obtain rfl := Option.some.inj hM
      exact WP.ret [] [] (.tuple #[.string (⟨#[]⟩ : ByteArray), .iface 125 (.agg #[.int .i64 a1, .iface 27 (.int .i64 10)])]) (by kernel_rfl) (fun w' hw => ⟨rfl, hw.pick [] rfl⟩)
    · replace hM := cond_f hM c2
      refine WP.skip ?_
      refine WP.leave ?_
      refine WP.seq ?_
      refine WP.region ?_
      refine WL.run 5 [] [6, 7, 36, 37, 40] (fun _ => [(6, .string (⟨#[]⟩ : ByteArray)), (7, .nilIface), (36, .string a0), (37, .int .i64 a1), (40, .int .i64 (i64 (a1 + a2)))]) (fun _ => []) (fun _ => []) (fun _ => by kernel_rfl) (fun _ => ?_)
      obtain ⟨t3, h4, hM⟩ := bind_some hM
      refine WL.val (fun _ => run_sliceS (s := a0) (kl := .i64) (kh := .i64) (l := a1) (h := i64 (a1 + a2)) (by kernel_rfl) (by kernel_rfl) (by kernel_rfl) (by kernel_rfl) h4) (by kernel_rfl) (by kernel_rfl) rfl ?_
      refine WL.run 2 [] [6, 7] (fun _ => [(6, .string t3), (7, .nilIface)]) (fun _ => []) (fun _ => []) (fun _ => by kernel_rfl) (fun _ => ?_)
      refine WP.done ?_
      obtain rfl := Option.some.inj hM
      exact WP.ret [] [] (.tuple #[.string t3, .nilIface]) (by kernel_rfl) (fun w' hw => ⟨rfl, hw.pick [] rfl⟩)

end Go.Proofs.YtefbjefmclhhjaaDoor

namespace Go.Proofs.YtefbjefmclhhjaaDoor
open Go Eng
set_option linter.unusedVariables false
set_option linter.unusedSimpArgs false

/-! ### (gangway/octets.at).Unwrap: function 100 -/
def octets_at_Unwrap.f (a0 : Int) (a0_1 : Int) : Option (Int) :=
  some a0_1

set_option maxRecDepth 100000 in
theorem octets_at_Unwrap_calls (a0 : Int) (a0_1 : Int) (r : Int) (h : octets_at_Unwrap.f a0 a0_1 = some r) : Pure Tryd.prog Glob 100 #[.agg #[.int .i64 a0, .iface 27 (.int .i64 a0_1)]] (.iface 27 (.int .i64 r)) := by
  intro w Z hS
  refine calls_of (args := [.agg #[.int .i64 a0, .iface 27 (.int .i64 a0_1)]]) (L := [(0, .agg #[.int .i64 a0, .iface 27 (.int .i64 a0_1)])]) (N := 5) (S := Sat w Z [] [] Glob) Tryd.func100 rfl rfl (Nat.le_of_ble_eq_true rfl) rfl hS ?_
  have hM := h
  clear h hS
  unfold octets_at_Unwrap.f at hM
  refine WP.seq ?_
  refine WP.run [] [1, 2] (fun b1 => [(1, .pointer (some ⟨b1, 0, none⟩)), (2, .nilIface)]) (fun b1 => [(b1, .cells #[.int .i64 a0, .iface 27 (.int .i64 a0_1)] 125 (0, 0))]) (fun b1 => []) (fun b1 => by kernel_rfl) (fun b1 => ?_)
  refine WP.seq ?_
  refine WP.run [0] [2] (fun _ => [(2, .iface 27 (.int .i64 a0_1))]) (fun _ => [(b1, .cells #[.int .i64 a0, .iface 27 (.int .i64 a0_1)] 125 (0, 0))]) (fun _ => [b1]) (fun _ => by kernel_rfl) (fun _ => ?_)
  refine WP.keep [false] (by kernel_rfl : _ = []) ?_
  obtain rfl := Option.some.inj hM
  exact WP.ret [] [] (.iface 27 (.int .i64 a0_1)) (by kernel_rfl) (fun w' hw => ⟨rfl, hw.pick [] rfl⟩)

end Go.Proofs.YtefbjefmclhhjaaDoor

namespace Go.Proofs.YtefbjefmclhhjaaDoor
open Go Eng
set_option linter.unusedVariables false
set_option linter.unusedSimpArgs false

/-! ### errors.as: function 57 -/
def errors_as.f (a0 : Int) (a0_1 : Int) (a1 : Int) : Option (Bool × Int) :=
  (octets_at_Unwrap.f a0 a0_1).bind fun r3 =>
  some (true, r3)

set_option maxRecDepth 100000 in
theorem errors_as_calls (b_0 : Nat) (b_1 : Nat) (a0 : Int) (a0_1 : Int) (a1 : Int) (r : Bool × Int) (h : errors_as.f a0 a0_1 a1 = some r) : Does Tryd.prog 57 #[.iface 125 (.agg #[.int .i64 a0, .iface 27 (.int .i64 a0_1)]), .iface 80 (.pointer (some ⟨b_0, 0, none⟩)), .agg #[.pointer (some ⟨1, 80, none⟩), .pointer (some ⟨b_1, 0, none⟩), .int .u64 150], .iface 93 (.agg #[.pointer (some ⟨1, 27, none⟩)])] [(b_0, .cells #[.int .i64 a1] 27 (0, 0)), (b_1, .cells #[.pointer (some ⟨b_0, 0, none⟩)] 80 (0, 0))] Glob (fun _ : Unit => .bool r.1) (fun _ => [(b_0, .cells #[.int .i64 r.2] 27 (0, 0)), (b_1, .cells #[.pointer (some ⟨b_0, 0, none⟩)] 80 (0, 0))]) (fun _ => []) (fun _ => Glob) := by
  intro w Z hS
  refine calls_of (args := [.iface 125 (.agg #[.int .i64 a0, .iface 27 (.int .i64 a0_1)]), .iface 80 (.pointer (some ⟨b_0, 0, none⟩)), .agg #[.pointer (some ⟨1, 80, none⟩), .pointer (some ⟨b_1, 0, none⟩), .int .u64 150], .iface 93 (.agg #[.pointer (some ⟨1, 27, none⟩)])]) (L := [(0, .iface 125 (.agg #[.int .i64 a0, .iface 27 (.int .i64 a0_1)])), (1, .iface 80 (.pointer (some ⟨b_0, 0, none⟩))), (2, .agg #[.pointer (some ⟨1, 80, none⟩), .pointer (some ⟨b_1, 0, none⟩), .int .u64 150]), (3, .iface 93 (.agg #[.pointer (some ⟨1, 27, none⟩)]))]) (N := 62) (S := Sat w Z [(b_0, .cells #[.int .i64 a1] 27 (0, 0)), (b_1, .cells #[.pointer (some ⟨b_0, 0, none⟩)] 80 (0, 0))] [] Glob) Tryd.func57 rfl rfl (Nat.le_of_ble_eq_true rfl) rfl hS ?_
  have hM := h
  clear h hS
  unfold errors_as.f at hM
  refine WP.seq ?_
  refine WP.run [] [0, 1, 3, 6, 8] (fun b1 => [(0, .iface 125 (.agg #[.int .i64 a0, .iface 27 (.int .i64 a0_1)])), (1, .iface 80 (.pointer (some ⟨b_0, 0, none⟩))), (3, .iface 93 (.agg #[.pointer (some ⟨1, 27, none⟩)])), (6, .pointer (some ⟨b1, 0, none⟩)), (8, .bool false)]) (fun b1 => [(b_0, .cells #[.int .i64 a1] 27 (0, 0)), (b_1, .cells #[.pointer (some ⟨b_0, 0, none⟩)] 80 (0, 0)), (b1, .cells #[.pointer (some ⟨1, 80, none⟩), .pointer (some ⟨b_1, 0, none⟩), .int .u64 150] 106 (0, 0))]) (fun b1 => []) (fun b1 => by kernel_rfl) (fun b1 => ?_)
  refine WP.block ?_
  refine WP.unroll 40 ?_
  refine WP.block ?_
  refine WP.seq ?_
  refine WP.seq ?_
  refine WP.run [] [0, 1, 3, 6, 8, 16, 17, 18, 19] (fun _ => [(0, .iface 125 (.agg #[.int .i64 a0, .iface 27 (.int .i64 a0_1)])), (1, .iface 80 (.pointer (some ⟨b_0, 0, none⟩))), (3, .iface 93 (.agg #[.pointer (some ⟨1, 27, none⟩)])), (6, .pointer (some ⟨b1, 0, none⟩)), (8, .bool false), (16, .iface 125 (.agg #[.int .i64 a0, .iface 27 (.int .i64 a0_1)])), (17, .iface 93 (.agg #[.pointer (some ⟨1, 125, none⟩)])), (18, .iface 93 (.agg #[.pointer (some ⟨1, 27, none⟩)])), (19, .bool false)]) (fun _ => [(b_0, .cells #[.int .i64 a1] 27 (0, 0)), (b_1, .cells #[.pointer (some ⟨b_0, 0, none⟩)] 80 (0, 0)), (b1, .cells #[.pointer (some ⟨1, 80, none⟩), .pointer (some ⟨b_1, 0, none⟩), .int .u64 150] 106 (0, 0))]) (fun _ => []) (fun _ => by kernel_rfl) (fun _ => ?_)
  refine WP.no rfl rfl ?_
  refine WP.skip ?_
  refine WP.seq ?_
  refine WP.seq ?_
  refine WP.region ?_
  refine WL.run 1 [] [0, 1, 3, 6, 8, 16, 17, 18, 19, 26] (fun _ => [(0, .iface 125 (.agg #[.int .i64 a0, .iface 27 (.int .i64 a0_1)])), (1, .iface 80 (.pointer (some ⟨b_0, 0, none⟩))), (3, .iface 93 (.agg #[.pointer (some ⟨1, 27, none⟩)])), (6, .pointer (some ⟨b1, 0, none⟩)), (8, .bool false), (16, .iface 125 (.agg #[.int .i64 a0, .iface 27 (.int .i64 a0_1)])), (17, .iface 93 (.agg #[.pointer (some ⟨1, 125, none⟩)])), (18, .iface 93 (.agg #[.pointer (some ⟨1, 27, none⟩)])), (19, .bool false), (26, .iface 125 (.agg #[.int .i64 a0, .iface 27 (.int .i64 a0_1)]))]) (fun _ => [(b_0, .cells #[.int .i64 a1] 27 (0, 0)), (b_1, .cells #[.pointer (some ⟨b_0, 0, none⟩)] 80 (0, 0)), (b1, .cells #[.pointer (some ⟨1, 80, none⟩), .pointer (some ⟨b_1, 0, none⟩), .int .u64 150] 106 (0, 0))]) (fun _ => []) (fun _ => by kernel_rfl) (fun _ => ?_)
  refine WL.val (fun _ => run_assertLacks (t := 125) (v := .agg #[.int .i64 a0, .iface 27 (.int .i64 a0_1)]) (z := .nilIface) (by kernel_rfl) (by kernel_rfl) (by kernel_rfl)) (by kernel_rfl) (by kernel_rfl) rfl ?_
  refine WL.run 5 [] [0, 1, 3, 6, 8, 9, 10, 16, 17, 18, 19, 25, 26, 27, 28, 29] (fun _ => [(0, .iface 125 (.agg #[.int .i64 a0, .iface 27 (.int .i64 a0_1)])), (1, .iface 80 (.pointer (some ⟨b_0, 0, none⟩))), (3, .iface 93 (.agg #[.pointer (some ⟨1, 27, none⟩)])), (6, .pointer (some ⟨b1, 0, none⟩)), (8, .bool false), (9, .nilIface), (10, .bool false), (16, .iface 125 (.agg #[.int .i64 a0, .iface 27 (.int .i64 a0_1)])), (17, .iface 93 (.agg #[.pointer (some ⟨1, 125, none⟩)])), (18, .iface 93 (.agg #[.pointer (some ⟨1, 27, none⟩)])), (19, .bool false), (25, .tuple #[.nilIface, .bool false]), (26, .iface 125 (.agg #[.int .i64 a0, .iface 27 (.int .i64 a0_1)])), (27, .tuple #[.nilIface, .bool false]), (28, .nilIface), (29, .bool false)]) (fun _ => [(b_0, .cells #[.int .i64 a1] 27 (0, 0)), (b_1, .cells #[.pointer (some ⟨b_0, 0, none⟩)] 80 (0, 0)), (b1, .cells #[.pointer (some ⟨1, 80, none⟩), .pointer (some ⟨b_1, 0, none⟩), .int .u64 150] 106 (0, 0))]) (fun _ => []) (fun _ => by kernel_rfl) (fun _ => ?_)
  refine WP.done ?_
  refine WP.seq ?_
  refine WP.run [] [0, 1, 3, 6, 8, 9, 10, 16, 17, 18, 19, 25, 26, 27, 28, 29, 30, 31, 32, 33, 34, 35] (fun _ => [(0, .iface 125 (.agg #[.int .i64 a0, .iface 27 (.int .i64 a0_1)])), (1, .iface 80 (.pointer (some ⟨b_0, 0, none⟩))), (3, .iface 93 (.agg #[.pointer (some ⟨1, 27, none⟩)])), (6, .pointer (some ⟨b1, 0, none⟩)), (8, .bool false), (9, .nilIface), (10, .bool false), (16, .iface 125 (.agg #[.int .i64 a0, .iface 27 (.int .i64 a0_1)])), (17, .iface 93 (.agg #[.pointer (some ⟨1, 125, none⟩)])), (18, .iface 93 (.agg #[.pointer (some ⟨1, 27, none⟩)])), (19, .bool false), (25, .tuple #[.nilIface, .bool false]), (26, .iface 125 (.agg #[.int .i64 a0, .iface 27 (.int .i64 a0_1)])), (27, .tuple #[.nilIface, .bool false]), (28, .nilIface), (29, .bool false), (30, .bool false), (31, .bool false), (32, .tuple #[]), (33, .tuple #[]), (34, .tuple #[]), (35, .bool false)]) (fun _ => [(b_0, .cells #[.int .i64 a1] 27 (0, 0)), (b_1, .cells #[.pointer (some ⟨b_0, 0, none⟩)] 80 (0, 0)), (b1, .cells #[.pointer (some ⟨1, 80, none⟩), .pointer (some ⟨b_1, 0, none⟩), .int .u64 150] 106 (0, 0))]) (fun _ => []) (fun _ => by kernel_rfl) (fun _ => ?_)
  refine WP.no rfl rfl ?_
  refine WP.skip ?_
  refine WP.seq ?_
  refine WP.run [] [0, 1, 3, 6, 8, 9, 10, 16, 17, 18, 19, 25, 26, 27, 28, 29, 30, 31, 32, 33, 34, 35, 36] (fun _ => [(0, .iface 125 (.agg #[.int .i64 a0, .iface 27 (.int .i64 a0_1)])), (1, .iface 80 (.pointer (some ⟨b_0, 0, none⟩))), (3, .iface 93 (.agg #[.pointer (some ⟨1, 27, none⟩)])), (6, .pointer (some ⟨b1, 0, none⟩)), (8, .bool false), (9, .nilIface), (10, .bool false), (16, .iface 125 (.agg #[.int .i64 a0, .iface 27 (.int .i64 a0_1)])), (17, .iface 93 (.agg #[.pointer (some ⟨1, 125, none⟩)])), (18, .iface 93 (.agg #[.pointer (some ⟨1, 27, none⟩)])), (19, .bool false), (25, .tuple #[.nilIface, .bool false]), (26, .iface 125 (.agg #[.int .i64 a0, .iface 27 (.int .i64 a0_1)])), (27, .tuple #[.nilIface, .bool false]), (28, .nilIface), (29, .bool false), (30, .bool false), (31, .bool false), (32, .tuple #[]), (33, .tuple #[]), (34, .tuple #[]), (35, .bool false), (36, .iface 125 (.agg #[.int .i64 a0, .iface 27 (.int .i64 a0_1)]))]) (fun _ => [(b_0, .cells #[.int .i64 a1] 27 (0, 0)), (b_1, .cells #[.pointer (some ⟨b_0, 0, none⟩)] 80 (0, 0)), (b1, .cells #[.pointer (some ⟨1, 80, none⟩), .pointer (some ⟨b_1, 0, none⟩), .int .u64 150] 106 (0, 0))]) (fun _ => []) (fun _ => by kernel_rfl) (fun _ => ?_)
  refine WP.block ?_
  refine WP.seq ?_
  refine WP.region ?_
  refine WL.val (fun _ => run_assertHas (t := 125) (v := .agg #[.int .i64 a0, .iface 27 (.int .i64 a0_1)]) (by kernel_rfl) (by kernel_rfl)) (by kernel_rfl) (by kernel_rfl) rfl ?_
  refine WL.run 2 [] [0, 1, 3, 6, 8, 9, 10, 16, 17, 18, 19, 25, 26, 27, 28, 29, 30, 31, 32, 33, 34, 35, 36, 37, 38, 39] (fun _ => [(0, .iface 125 (.agg #[.int .i64 a0, .iface 27 (.int .i64 a0_1)])), (1, .iface 80 (.pointer (some ⟨b_0, 0, none⟩))), (3, .iface 93 (.agg #[.pointer (some ⟨1, 27, none⟩)])), (6, .pointer (some ⟨b1, 0, none⟩)), (8, .bool false), (9, .nilIface), (10, .bool false), (16, .iface 125 (.agg #[.int .i64 a0, .iface 27 (.int .i64 a0_1)])), (17, .iface 93 (.agg #[.pointer (some ⟨1, 125, none⟩)])), (18, .iface 93 (.agg #[.pointer (some ⟨1, 27, none⟩)])), (19, .bool false), (25, .tuple #[.nilIface, .bool false]), (26, .iface 125 (.agg #[.int .i64 a0, .iface 27 (.int .i64 a0_1)])), (27, .tuple #[.nilIface, .bool false]), (28, .nilIface), (29, .bool false), (30, .bool false), (31, .bool false), (32, .tuple #[]), (33, .tuple #[]), (34, .tuple #[]), (35, .bool false), (36, .iface 125 (.agg #[.int .i64 a0, .iface 27 (.int .i64 a0_1)])), (37, .tuple #[.iface 125 (.agg #[.int .i64 a0, .iface 27 (.int .i64 a0_1)]), .bool true]), (38, .bool true), (39, .iface 125 (.agg #[.int .i64 a0, .iface 27 (.int .i64 a0_1)]))]) (fun _ => [(b_0, .cells #[.int .i64 a1] 27 (0, 0)), (b_1, .cells #[.pointer (some ⟨b_0, 0, none⟩)] 80 (0, 0)), (b1, .cells #[.pointer (some ⟨1, 80, none⟩), .pointer (some ⟨b_1, 0, none⟩), .int .u64 150] 106 (0, 0))]) (fun _ => []) (fun _ => by kernel_rfl) (fun _ => ?_)
  refine WP.done ?_
  refine WP.yes rfl rfl ?_
  refine WP.seq ?_
  refine WP.run [] [0, 1, 3, 6, 8, 9, 10, 11, 16, 17, 18, 19, 25, 26, 27, 28, 29, 30, 31, 32, 33, 34, 35, 36, 37, 38, 39] (fun _ => [(0, .iface 125 (.agg #[.int .i64 a0, .iface 27 (.int .i64 a0_1)])), (1, .iface 80 (.pointer (some ⟨b_0, 0, none⟩))), (3, .iface 93 (.agg #[.pointer (some ⟨1, 27, none⟩)])), (6, .pointer (some ⟨b1, 0, none⟩)), (8, .bool false), (9, .nilIface), (10, .bool false), (11, .iface 125 (.agg #[.int .i64 a0, .iface 27 (.int .i64 a0_1)])), (16, .iface 125 (.agg #[.int .i64 a0, .iface 27 (.int .i64 a0_1)])), (17, .iface 93 (.agg #[.pointer (some ⟨1, 125, none⟩)])), (18, .iface 93 (.agg #[.pointer (some ⟨1, 27, none⟩)])), (19, .bool false), (25, .tuple #[.nilIface, .bool false]), (26, .iface 125 (.agg #[.int .i64 a0, .iface 27 (.int .i64 a0_1)])), (27, .tuple #[.nilIface, .bool false]), (28, .nilIface), (29, .bool false), (30, .bool false), (31, .bool false), (32, .tuple #[]), (33, .tuple #[]), (34, .tuple #[]), (35, .bool false), (36, .iface 125 (.agg #[.int .i64 a0, .iface 27 (.int .i64 a0_1)])), (37, .tuple #[.iface 125 (.agg #[.int .i64 a0, .iface 27 (.int .i64 a0_1)]), .bool true]), (38, .bool true), (39, .iface 125 (.agg #[.int .i64 a0, .iface 27 (.int .i64 a0_1)]))]) (fun _ => [(b_0, .cells #[.int .i64 a1] 27 (0, 0)), (b_1, .cells #[.pointer (some ⟨b_0, 0, none⟩)] 80 (0, 0)), (b1, .cells #[.pointer (some ⟨1, 80, none⟩), .pointer (some ⟨b_1, 0, none⟩), .int .u64 150] 106 (0, 0))]) (fun _ => []) (fun _ => by kernel_rfl) (fun _ => ?_)
  refine WP.seq ?_
  refine WP.region ?_
  refine WL.run 1 [] [0, 1, 3, 6, 8, 9, 10, 11, 16, 17, 18, 19, 25, 26, 27, 28, 29, 30, 31, 32, 33, 34, 35, 36, 37, 38, 39, 40] (fun _ => [(0, .iface 125 (.agg #[.int .i64 a0, .iface 27 (.int .i64 a0_1)])), (1, .iface 80 (.pointer (some ⟨b_0, 0, none⟩))), (3, .iface 93 (.agg #[.pointer (some ⟨1, 27, none⟩)])), (6, .pointer (some ⟨b1, 0, none⟩)), (8, .bool false), (9, .nilIface), (10, .bool false), (11, .iface 125 (.agg #[.int .i64 a0, .iface 27 (.int .i64 a0_1)])), (16, .iface 125 (.agg #[.int .i64 a0, .iface 27 (.int .i64 a0_1)])), (17, .iface 93 (.agg #[.pointer (some ⟨1, 125, none⟩)])), (18, .iface 93 (.agg #[.pointer (some ⟨1, 27, none⟩)])), (19, .bool false), (25, .tuple #[.nilIface, .bool false]), (26, .iface 125 (.agg #[.int .i64 a0, .iface 27 (.int .i64 a0_1)])), (27, .tuple #[.nilIface, .bool false]), (28, .nilIface), (29, .bool false), (30, .bool false), (31, .bool false), (32, .tuple #[]), (33, .tuple #[]), (34, .tuple #[]), (35, .bool false), (36, .iface 125 (.agg #[.int .i64 a0, .iface 27 (.int .i64 a0_1)])), (37, .tuple #[.iface 125 (.agg #[.int .i64 a0, .iface 27 (.int .i64 a0_1)]), .bool true]), (38, .bool true), (39, .iface 125 (.agg #[.int .i64 a0, .iface 27 (.int .i64 a0_1)])), (40, .iface 125 (.agg #[.int .i64 a0, .iface 27 (.int .i64 a0_1)]))]) (fun _ => [(b_0, .cells #[.int .i64 a1] 27 (0, 0)), (b_1, .cells #[.pointer (some ⟨b_0, 0, none⟩)] 80 (0, 0)), (b1, .cells #[.pointer (some ⟨1, 80, none⟩), .pointer (some ⟨b_1, 0, none⟩), .int .u64 150] 106 (0, 0))]) (fun _ => []) (fun _ => by kernel_rfl) (fun _ => ?_)
  obtain ⟨r3, h4, hM⟩ := bind_some hM
  refine WL.callP [] [] (octets_at_Unwrap_calls a0 a0_1 _ h4) (fun _ h => h) (by kernel_rfl) (by kernel_rfl) rfl ?_
  refine WL.run 1 [] [0, 1, 3, 6, 8, 9, 10, 11, 16, 17, 18, 19, 25, 26, 27, 28, 29, 30, 31, 32, 33, 34, 35, 36, 37, 38, 39, 40, 41] (fun _ => [(0, .iface 27 (.int .i64 r3)), (1, .iface 80 (.pointer (some ⟨b_0, 0, none⟩))), (3, .iface 93 (.agg #[.pointer (some ⟨1, 27, none⟩)])), (6, .pointer (some ⟨b1, 0, none⟩)), (8, .bool false), (9, .nilIface), (10, .bool false), (11, .iface 125 (.agg #[.int .i64 a0, .iface 27 (.int .i64 a0_1)])), (16, .iface 125 (.agg #[.int .i64 a0, .iface 27 (.int .i64 a0_1)])), (17, .iface 93 (.agg #[.pointer (some ⟨1, 125, none⟩)])), (18, .iface 93 (.agg #[.pointer (some ⟨1, 27, none⟩)])), (19, .bool false), (25, .tuple #[.nilIface, .bool false]), (26, .iface 125 (.agg #[.int .i64 a0, .iface 27 (.int .i64 a0_1)])), (27, .tuple #[.nilIface, .bool false]), (28, .nilIface), (29, .bool false), (30, .bool false), (31, .bool false), (32, .tuple #[]), (33, .tuple #[]), (34, .tuple #[]), (35, .bool false), (36, .iface 125 (.agg #[.int .i64 a0, .iface 27 (.int .i64 a0_1)])), (37, .tuple #[.iface 125 (.agg #[.int .i64 a0, .iface 27 (.int .i64 a0_1)]), .bool true]), (38, .bool true), (39, .iface 125 (.agg #[.int .i64 a0, .iface 27 (.int .i64 a0_1)])), (40, .iface 125 (.agg #[.int .i64 a0, .iface 27 (.int .i64 a0_1)])), (41, .iface 27 (.int .i64 r3))]) (fun _ => [(b_0, .cells #[.int .i64 a1] 27 (0, 0)), (b_1, .cells #[.pointer (some ⟨b_0, 0, none⟩)] 80 (0, 0)), (b1, .cells #[.pointer (some ⟨1, 80, none⟩), .pointer (some ⟨b_1, 0, none⟩), .int .u64 150] 106 (0, 0))]) (fun _ => []) (fun _ => by kernel_rfl) (fun _ => ?_)
  refine WP.done ?_
  refine WP.seq ?_
  refine WP.run [] [0, 1, 3, 6, 8, 9, 10, 11, 16, 17, 18, 19, 25, 26, 27, 28, 29, 30, 31, 32, 33, 34, 35, 36, 37, 38, 39, 40, 41, 42, 43] (fun _ => [(0, .iface 27 (.int .i64 r3)), (1, .iface 80 (.pointer (some ⟨b_0, 0, none⟩))), (3, .iface 93 (.agg #[.pointer (some ⟨1, 27, none⟩)])), (6, .pointer (some ⟨b1, 0, none⟩)), (8, .bool false), (9, .nilIface), (10, .bool false), (11, .iface 125 (.agg #[.int .i64 a0, .iface 27 (.int .i64 a0_1)])), (16, .iface 125 (.agg #[.int .i64 a0, .iface 27 (.int .i64 a0_1)])), (17, .iface 93 (.agg #[.pointer (some ⟨1, 125, none⟩)])), (18, .iface 93 (.agg #[.pointer (some ⟨1, 27, none⟩)])), (19, .bool false), (25, .tuple #[.nilIface, .bool false]), (26, .iface 125 (.agg #[.int .i64 a0, .iface 27 (.int .i64 a0_1)])), (27, .tuple #[.nilIface, .bool false]), (28, .nilIface), (29, .bool false), (30, .bool false), (31, .bool false), (32, .tuple #[]), (33, .tuple #[]), (34, .tuple #[]), (35, .bool false), (36, .iface 125 (.agg #[.int .i64 a0, .iface 27 (.int .i64 a0_1)])), (37, .tuple #[.iface 125 (.agg #[.int .i64 a0, .iface 27 (.int .i64 a0_1)]), .bool true]), (38, .bool true), (39, .iface 125 (.agg #[.int .i64 a0, .iface 27 (.int .i64 a0_1)])), (40, .iface 125 (.agg #[.int .i64 a0, .iface 27 (.int .i64 a0_1)])), (41, .iface 27 (.int .i64 r3)), (42, .iface 27 (.int .i64 r3)), (43, .bool false)]) (fun _ => [(b_0, .cells #[.int .i64 a1] 27 (0, 0)), (b_1, .cells #[.pointer (some ⟨b_0, 0, none⟩)] 80 (0, 0)), (b1, .cells #[.pointer (some ⟨1, 80, none⟩), .pointer (some ⟨b_1, 0, none⟩), .int .u64 150] 106 (0, 0))]) (fun _ => []) (fun _ => by kernel_rfl) (fun _ => ?_)
  refine WP.no rfl rfl ?_
  refine WP.skip ?_
  refine WP.leave ?_
  refine WP.leave ?_
  refine WP.round ?_
  refine WP.block ?_
  refine WP.seq ?_
  refine WP.seq ?_
  refine WP.run [] [0, 1, 3, 6, 8, 9, 10, 11, 16, 17, 18, 19, 25, 26, 27, 28, 29, 30, 31, 32, 33, 34, 35, 36, 37, 38, 39, 40, 41, 42, 43] (fun _ => [(0, .iface 27 (.int .i64 r3)), (1, .iface 80 (.pointer (some ⟨b_0, 0, none⟩))), (3, .iface 93 (.agg #[.pointer (some ⟨1, 27, none⟩)])), (6, .pointer (some ⟨b1, 0, none⟩)), (8, .bool false), (9, .nilIface), (10, .bool false), (11, .iface 125 (.agg #[.int .i64 a0, .iface 27 (.int .i64 a0_1)])), (16, .iface 27 (.int .i64 r3)), (17, .iface 93 (.agg #[.pointer (some ⟨1, 27, none⟩)])), (18, .iface 93 (.agg #[.pointer (some ⟨1, 27, none⟩)])), (19, .bool true), (25, .tuple #[.nilIface, .bool false]), (26, .iface 125 (.agg #[.int .i64 a0, .iface 27 (.int .i64 a0_1)])), (27, .tuple #[.nilIface, .bool false]), (28, .nilIface), (29, .bool false), (30, .bool false), (31, .bool false), (32, .tuple #[]), (33, .tuple #[]), (34, .tuple #[]), (35, .bool false), (36, .iface 125 (.agg #[.int .i64 a0, .iface 27 (.int .i64 a0_1)])), (37, .tuple #[.iface 125 (.agg #[.int .i64 a0, .iface 27 (.int .i64 a0_1)]), .bool true]), (38, .bool true), (39, .iface 125 (.agg #[.int .i64 a0, .iface 27 (.int .i64 a0_1)])), (40, .iface 125 (.agg #[.int .i64 a0, .iface 27 (.int .i64 a0_1)])), (41, .iface 27 (.int .i64 r3)), (42, .iface 27 (.int .i64 r3)), (43, .bool false)]) (fun _ => [(b_0, .cells #[.int .i64 a1] 27 (0, 0)), (b_1, .cells #[.pointer (some ⟨b_0, 0, none⟩)] 80 (0, 0)), (b1, .cells #[.pointer (some ⟨1, 80, none⟩), .pointer (some ⟨b_1, 0, none⟩), .int .u64 150] 106 (0, 0))]) (fun _ => []) (fun _ => by kernel_rfl) (fun _ => ?_)
  refine WP.yes rfl rfl ?_
  refine WP.seq ?_
  refine WP.run [2, 2, 2, 1, 3, 0] [0, 1, 3, 6, 8, 9, 10, 11, 16, 17, 18, 19, 20, 21, 22, 23, 25, 26, 27, 28, 29, 30, 31, 32, 33, 34, 35, 36, 37, 38, 39, 40, 41, 42, 43] (fun b5 => [(0, .iface 27 (.int .i64 r3)), (1, .iface 80 (.pointer (some ⟨b_0, 0, none⟩))), (3, .iface 93 (.agg #[.pointer (some ⟨1, 27, none⟩)])), (6, .pointer (some ⟨b1, 0, none⟩)), (8, .bool false), (9, .nilIface), (10, .bool false), (11, .iface 125 (.agg #[.int .i64 a0, .iface 27 (.int .i64 a0_1)])), (16, .iface 27 (.int .i64 r3)), (17, .iface 93 (.agg #[.pointer (some ⟨1, 27, none⟩)])), (18, .iface 93 (.agg #[.pointer (some ⟨1, 27, none⟩)])), (19, .bool true), (20, .agg #[.pointer (some ⟨1, 80, none⟩), .pointer (some ⟨b_1, 0, none⟩), .int .u64 150]), (21, .agg #[.pointer (some ⟨1, 27, none⟩), .pointer (some ⟨b_0, 0, none⟩), .int .u64 386]), (22, .iface 27 (.int .i64 r3)), (23, .agg #[.pointer (some ⟨1, 27, none⟩), .pointer (some ⟨b5, 0, none⟩), .int .u64 130]), (25, .tuple #[.nilIface, .bool false]), (26, .iface 125 (.agg #[.int .i64 a0, .iface 27 (.int .i64 a0_1)])), (27, .tuple #[.nilIface, .bool false]), (28, .nilIface), (29, .bool false), (30, .bool false), (31, .bool false), (32, .tuple #[]), (33, .tuple #[]), (34, .tuple #[]), (35, .bool false), (36, .iface 125 (.agg #[.int .i64 a0, .iface 27 (.int .i64 a0_1)])), (37, .tuple #[.iface 125 (.agg #[.int .i64 a0, .iface 27 (.int .i64 a0_1)]), .bool true]), (38, .bool true), (39, .iface 125 (.agg #[.int .i64 a0, .iface 27 (.int .i64 a0_1)])), (40, .iface 125 (.agg #[.int .i64 a0, .iface 27 (.int .i64 a0_1)])), (41, .iface 27 (.int .i64 r3)), (42, .iface 27 (.int .i64 r3)), (43, .bool false)]) (fun b5 => [(b_0, .cells #[.int .i64 r3] 27 (0, 0)), (b_1, .cells #[.pointer (some ⟨b_0, 0, none⟩)] 80 (0, 0)), (b1, .cells #[.pointer (some ⟨1, 80, none⟩), .pointer (some ⟨b_1, 0, none⟩), .int .u64 150] 106 (0, 0)), (b5, .cells #[.int .i64 r3] 27 (0, 0))]) (fun b5 => [b_0, b5, b_1, b1, b1, b1]) (fun b5 => by kernel_rfl) (fun b5 => ?_)
  refine WP.seq ?_
  refine WP.run [] [0, 1, 3, 6, 8, 9, 10, 11, 16, 17, 18, 19, 20, 21, 22, 23, 25, 26, 27, 28, 29, 30, 31, 32, 33, 34, 35, 36, 37, 38, 39, 40, 41, 42, 43] (fun _ => [(0, .iface 27 (.int .i64 r3)), (1, .iface 80 (.pointer (some ⟨b_0, 0, none⟩))), (3, .iface 93 (.agg #[.pointer (some ⟨1, 27, none⟩)])), (6, .pointer (some ⟨b1, 0, none⟩)), (8, .bool true), (9, .nilIface), (10, .bool false), (11, .iface 125 (.agg #[.int .i64 a0, .iface 27 (.int .i64 a0_1)])), (16, .iface 27 (.int .i64 r3)), (17, .iface 93 (.agg #[.pointer (some ⟨1, 27, none⟩)])), (18, .iface 93 (.agg #[.pointer (some ⟨1, 27, none⟩)])), (19, .bool true), (20, .agg #[.pointer (some ⟨1, 80, none⟩), .pointer (some ⟨b_1, 0, none⟩), .int .u64 150]), (21, .agg #[.pointer (some ⟨1, 27, none⟩), .pointer (some ⟨b_0, 0, none⟩), .int .u64 386]), (22, .iface 27 (.int .i64 r3)), (23, .agg #[.pointer (some ⟨1, 27, none⟩), .pointer (some ⟨b5, 0, none⟩), .int .u64 130]), (25, .tuple #[.nilIface, .bool false]), (26, .iface 125 (.agg #[.int .i64 a0, .iface 27 (.int .i64 a0_1)])), (27, .tuple #[.nilIface, .bool false]), (28, .nilIface), (29, .bool false), (30, .bool false), (31, .bool false), (32, .tuple #[]), (33, .tuple #[]), (34, .tuple #[]), (35, .bool false), (36, .iface 125 (.agg #[.int .i64 a0, .iface 27 (.int .i64 a0_1)])), (37, .tuple #[.iface 125 (.agg #[.int .i64 a0, .iface 27 (.int .i64 a0_1)]), .bool true]), (38, .bool true), (39, .iface 125 (.agg #[.int .i64 a0, .iface 27 (.int .i64 a0_1)])), (40, .iface 125 (.agg #[.int .i64 a0, .iface 27 (.int .i64 a0_1)])), (41, .iface 27 (.int .i64 r3)), (42, .iface 27 (.int .i64 r3)), (43, .bool false)]) (fun _ => [(b_0, .cells #[.int .i64 r3] 27 (0, 0)), (b_1, .cells #[.pointer (some ⟨b_0, 0, none⟩)] 80 (0, 0)), (b1, .cells #[.pointer (some ⟨1, 80, none⟩), .pointer (some ⟨b_1, 0, none⟩), .int .u64 150] 106 (0, 0)), (b5, .cells #[.int .i64 r3] 27 (0, 0))]) (fun _ => []) (fun _ => by kernel_rfl) (fun _ => ?_)
  obtain rfl := Option.some.inj hM
  exact WP.ret [] [] (.bool true) (by kernel_rfl) (fun w' hw => ⟨(), rfl, hw.pick [0, 1] (by kernel_rfl)⟩)

end Go.Proofs.YtefbjefmclhhjaaDoor

namespace Go.Proofs.YtefbjefmclhhjaaDoor
open Go Eng
set_option linter.unusedVariables false
set_option linter.unusedSimpArgs false

/-! ### errors.As: function 45 -/
def errors_As.f (a0 : Int) (a0_1 : Int) (a1 : Int) : Option (Bool × Int) :=
  (errors_as.f a0 a0_1 a1).bind fun (r2, r3) =>
  some (r2, r3)

set_option maxRecDepth 100000 in
theorem errors_As_calls (b_0 : Nat) (a0 : Int) (a0_1 : Int) (a1 : Int) (r : Bool × Int) (h : errors_As.f a0 a0_1 a1 = some r) : Does Tryd.prog 45 #[.iface 125 (.agg #[.int .i64 a0, .iface 27 (.int .i64 a0_1)]), .iface 80 (.pointer (some ⟨b_0, 0, none⟩))] [(b_0, .cells #[.int .i64 a1] 27 (0, 0))] Glob (fun _ : Unit => .bool r.1) (fun _ => [(b_0, .cells #[.int .i64 r.2] 27 (0, 0))]) (fun _ => []) (fun _ => Glob) := by
  intro w Z hS
  refine calls_of (args := [.iface 125 (.agg #[.int .i64 a0, .iface 27 (.int .i64 a0_1)]), .iface 80 (.pointer (some ⟨b_0, 0, none⟩))]) (L := [(0, .iface 125 (.agg #[.int .i64 a0, .iface 27 (.int .i64 a0_1)])), (1, .iface 80 (.pointer (some ⟨b_0, 0, none⟩)))]) (N := 42) (S := Sat w Z [(b_0, .cells #[.int .i64 a1] 27 (0, 0))] [] Glob) Tryd.func45 rfl rfl (Nat.le_of_ble_eq_true rfl) rfl hS ?_
  have hM := h
  clear h hS
  unfold errors_As.f at hM
  refine WP.seq ?_
  refine WP.run [] [0, 1, 4] (fun _ => [(0, .iface 125 (.agg #[.int .i64 a0, .iface 27 (.int .i64 a0_1)])), (1, .iface 80 (.pointer (some ⟨b_0, 0, none⟩))), (4, .bool false)]) (fun _ => [(b_0, .cells #[.int .i64 a1] 27 (0, 0))]) (fun _ => []) (fun _ => by kernel_rfl) (fun _ => ?_)
  refine WP.seq ?_
  refine WP.seq ?_
  refine WP.run [] [0, 1, 4, 9] (fun _ => [(0, .iface 125 (.agg #[.int .i64 a0, .iface 27 (.int .i64 a0_1)])), (1, .iface 80 (.pointer (some ⟨b_0, 0, none⟩))), (4, .bool false), (9, .bool false)]) (fun _ => [(b_0, .cells #[.int .i64 a1] 27 (0, 0))]) (fun _ => []) (fun _ => by kernel_rfl) (fun _ => ?_)
  refine WP.no rfl rfl ?_
  refine WP.skip ?_
  refine WP.seq ?_
  refine WP.seq ?_
  refine WP.run [] [0, 1, 4, 11] (fun _ => [(0, .iface 125 (.agg #[.int .i64 a0, .iface 27 (.int .i64 a0_1)])), (1, .iface 80 (.pointer (some ⟨b_0, 0, none⟩))), (4, .bool false), (11, .bool false)]) (fun _ => [(b_0, .cells #[.int .i64 a1] 27 (0, 0))]) (fun _ => []) (fun _ => by kernel_rfl) (fun _ => ?_)
  refine WP.no rfl rfl ?_
  refine WP.skip ?_
  refine WP.seq ?_
  refine WP.run [2, 2, 2] [0, 1, 4, 5] (fun b1 => [(0, .iface 125 (.agg #[.int .i64 a0, .iface 27 (.int .i64 a0_1)])), (1, .iface 80 (.pointer (some ⟨b_0, 0, none⟩))), (4, .bool false), (5, .pointer (some ⟨(b1 + 1), 0, none⟩))]) (fun b1 => [(b_0, .cells #[.int .i64 a1] 27 (0, 0)), (b1, .cells #[.pointer (some ⟨b_0, 0, none⟩)] 80 (0, 0)), ((b1 + 1), .cells #[.pointer (some ⟨1, 80, none⟩), .pointer (some ⟨b1, 0, none⟩), .int .u64 150] 106 (0, 0))]) (fun b1 => [(b1 + 1), (b1 + 1), (b1 + 1)]) (fun b1 => by kernel_rfl) (fun b1 => ?_)
  refine WP.seq ?_
  refine WP.run [2, 2, 2] [0, 1, 4, 5, 6] (fun _ => [(0, .iface 125 (.agg #[.int .i64 a0, .iface 27 (.int .i64 a0_1)])), (1, .iface 80 (.pointer (some ⟨b_0, 0, none⟩))), (4, .bool false), (5, .pointer (some ⟨(b1 + 1), 0, none⟩)), (6, .iface 93 (.agg #[.pointer (some ⟨1, 80, none⟩)]))]) (fun _ => [(b_0, .cells #[.int .i64 a1] 27 (0, 0)), (b1, .cells #[.pointer (some ⟨b_0, 0, none⟩)] 80 (0, 0)), ((b1 + 1), .cells #[.pointer (some ⟨1, 80, none⟩), .pointer (some ⟨b1, 0, none⟩), .int .u64 150] 106 (0, 0))]) (fun _ => [(b1 + 1), (b1 + 1), (b1 + 1)]) (fun _ => by kernel_rfl) (fun _ => ?_)
  refine WP.seq ?_
  refine WP.seq ?_
  refine WP.run [2, 2, 2, 1] [0, 1, 4, 5, 6, 23] (fun _ => [(0, .iface 125 (.agg #[.int .i64 a0, .iface 27 (.int .i64 a0_1)])), (1, .iface 80 (.pointer (some ⟨b_0, 0, none⟩))), (4, .bool false), (5, .pointer (some ⟨(b1 + 1), 0, none⟩)), (6, .iface 93 (.agg #[.pointer (some ⟨1, 80, none⟩)])), (23, .bool false)]) (fun _ => [(b_0, .cells #[.int .i64 a1] 27 (0, 0)), (b1, .cells #[.pointer (some ⟨b_0, 0, none⟩)] 80 (0, 0)), ((b1 + 1), .cells #[.pointer (some ⟨1, 80, none⟩), .pointer (some ⟨b1, 0, none⟩), .int .u64 150] 106 (0, 0))]) (fun _ => [b1, (b1 + 1), (b1 + 1), (b1 + 1)]) (fun _ => by kernel_rfl) (fun _ => ?_)
  refine WP.no rfl rfl ?_
  refine WP.skip ?_
  refine WP.seq ?_
  refine WP.run [] [0, 1, 4, 5, 7] (fun _ => [(0, .iface 125 (.agg #[.int .i64 a0, .iface 27 (.int .i64 a0_1)])), (1, .iface 80 (.pointer (some ⟨b_0, 0, none⟩))), (4, .bool false), (5, .pointer (some ⟨(b1 + 1), 0, none⟩)), (7, .iface 93 (.agg #[.pointer (some ⟨1, 27, none⟩)]))]) (fun _ => [(b_0, .cells #[.int .i64 a1] 27 (0, 0)), (b1, .cells #[.pointer (some ⟨b_0, 0, none⟩)] 80 (0, 0)), ((b1 + 1), .cells #[.pointer (some ⟨1, 80, none⟩), .pointer (some ⟨b1, 0, none⟩), .int .u64 150] 106 (0, 0))]) (fun _ => []) (fun _ => by kernel_rfl) (fun _ => ?_)
  refine WP.seq ?_
  refine WP.seq ?_
  refine WP.region ?_
  refine WL.run 5 [] [0, 1, 4, 5, 7, 30, 31] (fun _ => [(0, .iface 125 (.agg #[.int .i64 a0, .iface 27 (.int .i64 a0_1)])), (1, .iface 80 (.pointer (some ⟨b_0, 0, none⟩))), (4, .bool false), (5, .pointer (some ⟨(b1 + 1), 0, none⟩)), (7, .iface 93 (.agg #[.pointer (some ⟨1, 27, none⟩)])), (30, .bool true), (31, .iface 93 (.agg #[.pointer (some ⟨1, 27, none⟩)]))]) (fun _ => [(b_0, .cells #[.int .i64 a1] 27 (0, 0)), (b1, .cells #[.pointer (some ⟨b_0, 0, none⟩)] 80 (0, 0)), ((b1 + 1), .cells #[.pointer (some ⟨1, 80, none⟩), .pointer (some ⟨b1, 0, none⟩), .int .u64 150] 106 (0, 0))]) (fun _ => []) (fun _ => by kernel_rfl) (fun _ => ?_)
  refine WL.loadGlob (v := .iface 93 (.agg #[.pointer (some ⟨1, 52, none⟩)])) (by simp [Glob]) (fun _ => by kernel_rfl) (by kernel_rfl) rfl ?_
  refine WL.run 3 [] [0, 1, 4, 5, 7, 35] (fun _ => [(0, .iface 125 (.agg #[.int .i64 a0, .iface 27 (.int .i64 a0_1)])), (1, .iface 80 (.pointer (some ⟨b_0, 0, none⟩))), (4, .bool false), (5, .pointer (some ⟨(b1 + 1), 0, none⟩)), (7, .iface 93 (.agg #[.pointer (some ⟨1, 27, none⟩)])), (35, .bool false)]) (fun _ => [(b_0, .cells #[.int .i64 a1] 27 (0, 0)), (b1, .cells #[.pointer (some ⟨b_0, 0, none⟩)] 80 (0, 0)), ((b1 + 1), .cells #[.pointer (some ⟨1, 80, none⟩), .pointer (some ⟨b1, 0, none⟩), .int .u64 150] 106 (0, 0))]) (fun _ => []) (fun _ => by kernel_rfl) (fun _ => ?_)
  refine WP.done ?_
  refine WP.no rfl rfl ?_
  refine WP.skip ?_
  refine WP.seq ?_
  refine WP.region ?_
  refine WL.run 4 [2, 2, 2] [4, 37, 38, 39, 40] (fun _ => [(4, .bool false), (37, .iface 125 (.agg #[.int .i64 a0, .iface 27 (.int .i64 a0_1)])), (38, .iface 80 (.pointer (some ⟨b_0, 0, none⟩))), (39, .agg #[.pointer (some ⟨1, 80, none⟩), .pointer (some ⟨b1, 0, none⟩), .int .u64 150]), (40, .iface 93 (.agg #[.pointer (some ⟨1, 27, none⟩)]))]) (fun _ => [(b_0, .cells #[.int .i64 a1] 27 (0, 0)), (b1, .cells #[.pointer (some ⟨b_0, 0, none⟩)] 80 (0, 0)), ((b1 + 1), .cells #[.pointer (some ⟨1, 80, none⟩), .pointer (some ⟨b1, 0, none⟩), .int .u64 150] 106 (0, 0))]) (fun _ => [(b1 + 1), (b1 + 1), (b1 + 1)]) (fun _ => by kernel_rfl) (fun _ => ?_)
  obtain ⟨⟨r2, r3⟩, h4, hM⟩ := bind_some hM
  dsimp only at hM
  refine WL.callE (X := Unit) [] [] [true, true, false] (fun _ => _) (errors_as_calls b_0 b1 a0 a0_1 a1 _ h4) rfl rfl (fun _ h => h) (by kernel_rfl) (by kernel_rfl) (fun _ => rfl) (fun _ => ?_)
  refine WL.run 1 [] [4] (fun _ => [(4, .bool r2)]) (fun _ => [(b_0, .cells #[.int .i64 r3] 27 (0, 0)), (b1, .cells #[.pointer (some ⟨b_0, 0, none⟩)] 80 (0, 0)), ((b1 + 1), .cells #[.pointer (some ⟨1, 80, none⟩), .pointer (some ⟨b1, 0, none⟩), .int .u64 150] 106 (0, 0))]) (fun _ => []) (fun _ => by kernel_rfl) (fun _ => ?_)
  refine WP.done ?_
  refine WP.keep [true, false, false] (by kernel_rfl : _ = [(b_0, .cells #[.int .i64 r3] 27 (0, 0))]) ?_
  obtain rfl := Option.some.inj hM
  exact WP.ret [] [] (.bool r2) (by kernel_rfl) (fun w' hw => ⟨(), rfl, hw.pick [0] (by kernel_rfl)⟩)

end Go.Proofs.YtefbjefmclhhjaaDoor

namespace Go.Proofs.YtefbjefmclhhjaaDoor
open Go Eng
set_option linter.unusedVariables false
set_option linter.unusedSimpArgs false

/-! ### gangway/octets.number: function 62 -/
def octets_number.f (a0 : Int) (a0_1 : Int) : Option (Int) :=
  (errors_As.f a0 a0_1 0).bind fun (r2, r3) =>
  bif r2 then
    some r3
  else
    some 0

set_option maxRecDepth 100000 in
theorem octets_number_calls (a0 : Int) (a0_1 : Int) (r : Int) (h : octets_number.f a0 a0_1 = some r) : Pure Tryd.prog Glob 62 #[.iface 125 (.agg #[.int .i64 a0, .iface 27 (.int .i64 a0_1)])] (.int .i64 r) := by
  intro w Z hS
  refine calls_of (args := [.iface 125 (.agg #[.int .i64 a0, .iface 27 (.int .i64 a0_1)])]) (L := [(0, .iface 125 (.agg #[.int .i64 a0, .iface 27 (.int .i64 a0_1)]))]) (N := 12) (S := Sat w Z [] [] Glob) Tryd.func62 rfl rfl (Nat.le_of_ble_eq_true rfl) rfl hS ?_
  have hM := h
  clear h hS
  unfold octets_number.f at hM
  refine WP.seq ?_
  refine WP.run [] [0, 2] (fun _ => [(0, .iface 125 (.agg #[.int .i64 a0, .iface 27 (.int .i64 a0_1)])), (2, .int .i64 0)]) (fun _ => []) (fun _ => []) (fun _ => by kernel_rfl) (fun _ => ?_)
  refine WP.seq ?_
  refine WP.run [] [0, 2, 3] (fun b1 => [(0, .iface 125 (.agg #[.int .i64 a0, .iface 27 (.int .i64 a0_1)])), (2, .int .i64 0), (3, .pointer (some ⟨b1, 0, none⟩))]) (fun b1 => [(b1, .cells #[.int .i64 0] 27 (0, 0))]) (fun b1 => []) (fun b1 => by kernel_rfl) (fun b1 => ?_)
  refine WP.seq ?_
  refine WP.seq ?_
  refine WP.region ?_
  refine WL.run 5 [] [2, 3, 6, 7, 8] (fun _ => [(2, .int .i64 0), (3, .pointer (some ⟨b1, 0, none⟩)), (6, .bool true), (7, .iface 125 (.agg #[.int .i64 a0, .iface 27 (.int .i64 a0_1)])), (8, .iface 80 (.pointer (some ⟨b1, 0, none⟩)))]) (fun _ => [(b1, .cells #[.int .i64 0] 27 (0, 0))]) (fun _ => []) (fun _ => by kernel_rfl) (fun _ => ?_)
  obtain ⟨⟨r2, r3⟩, h4, hM⟩ := bind_some hM
  dsimp only at hM
  refine WL.callE (X := Unit) [] [] [true] (fun _ => _) (errors_As_calls b1 a0 a0_1 0 _ h4) rfl rfl (fun _ h => h) (by kernel_rfl) (by kernel_rfl) (fun _ => rfl) (fun _ => ?_)
  refine WL.run 1 [] [2, 3, 10] (fun _ => [(2, .int .i64 0), (3, .pointer (some ⟨b1, 0, none⟩)), (10, .bool r2)]) (fun _ => [(b1, .cells #[.int .i64 r3] 27 (0, 0))]) (fun _ => []) (fun _ => by kernel_rfl) (fun _ => ?_)
  refine WP.done ?_
  refine WP.cond r2 rfl rfl (fun c5 => ?_) (fun c5 => ?_)
  · replace hM := cond_t hM c5
    refine WP.seq ?_
    refine WP.run [0] [2] (fun _ => [(2, .int .i64 r3)]) (fun _ => [(b1, .cells #[.int .i64 r3] 27 (0, 0))]) (fun _ => [b1]) (fun _ => by kernel_rfl) (fun _ => ?_)
    refine WP.keep [false] (by kernel_rfl : _ = []) ?_
    obtain rfl := Option.some.inj hM
    exact WP.ret [] [] (.int .i64 r3) (by kernel_rfl) (fun w' hw => ⟨rfl, hw.pick [] rfl⟩)
  · replace hM := cond_f hM c5
    refine WP.skip ?_
    refine WP.seq ?_
    refine WP.run [] [2] (fun _ => [(2, .int .i64 0)]) (fun _ => [(b1, .cells #[.int .i64 r3] 27 (0, 0))]) (fun _ => []) (fun _ => by kernel_rfl) (fun _ => ?_)
    refine WP.keep [false] (by kernel_rfl : _ = []) ?_
    obtain rfl := Option.some.inj hM
    exact WP.ret [] [] (.int .i64 0) (by kernel_rfl) (fun w' hw => ⟨rfl, hw.pick [] rfl⟩)

end Go.Proofs.YtefbjefmclhhjaaDoor

namespace Go.Proofs.YtefbjefmclhhjaaDoor
open Go Eng
set_option linter.unusedVariables false
set_option linter.unusedSimpArgs false

/-! ### gangway/octets.Get: function 53 -/
def octets_Get.l1 (a2 : Int) (r2 : ByteArray) : Nat → Int → Int → Option (Int × Int)
  | 0, _, _ => none
  | n + 1, x9, x10 =>
    bif decide (x10 < a2) then
      (idxS r2 x10).bind fun t12 =>
      octets_Get.l1 a2 r2 n (bOr .u64 (u64 (x9 * 256)) (u64 t12)) (i64 (x10 + 1))
    else
      some (x9, 0)

def octets_Get.f (k : Nat) (a0 : ByteArray) (a1 : Int) (a2 : Int) : Option (Int × Int) :=
  bif ((decide (a2 < 1)) || (decide (a2 > 8))) then
    some (0, 1)
  else
    (octets_part.f a0 a1 a2).bind fun (r2, r3) =>
    match r3 with
    | none =>
      octets_Get.l1 a2 r2 k 0 0
    | some (q5, q6) =>
      (octets_number.f q5 q6).bind fun r7 =>
      some (0, r7)

set_option maxRecDepth 100000 in
theorem octets_Get_calls (k : Nat) (a0 : ByteArray) (a1 : Int) (a2 : Int) (r : Int × Int) (h : octets_Get.f k a0 a1 a2 = some r) : Pure Tryd.prog Glob 53 #[.string a0, .int .i64 a1, .int .i64 a2] (.tuple #[.int .u64 r.1, .int .i64 r.2]) := by
  intro w Z hS
  refine calls_of (args := [.string a0, .int .i64 a1, .int .i64 a2]) (L := [(0, .string a0), (1, .int .i64 a1), (2, .int .i64 a2)]) (N := 42) (S := Sat w Z [] [] Glob) Tryd.func53 rfl rfl (Nat.le_of_ble_eq_true rfl) rfl hS ?_
  have hM := h
  clear h hS
  unfold octets_Get.f at hM
  refine WP.seq ?_
  refine WP.run [] [0, 1, 2, 6, 7] (fun _ => [(0, .string a0), (1, .int .i64 a1), (2, .int .i64 a2), (6, .int .u64 0), (7, .int .i64 0)]) (fun _ => []) (fun _ => []) (fun _ => by kernel_rfl) (fun _ => ?_)
  refine WP.seq ?_
  refine WP.seq ?_
  refine WP.region ?_
  refine WL.run 3 [] [0, 1, 2, 6, 7, 14] (fun _ => [(0, .string a0), (1, .int .i64 a1), (2, .int .i64 a2), (6, .int .u64 0), (7, .int .i64 0), (14, .bool (decide (a2 < 1)))]) (fun _ => []) (fun _ => []) (fun _ => by kernel_rfl) (fun _ => ?_)
  refine WL.sub [0, 1, 2, 6, 7, 14] (L' := [(0, .string a0), (1, .int .i64 a1), (2, .int .i64 a2), (6, .int .u64 0), (7, .int .i64 0), (14, .bool (decide (a2 < 1)))]) (by kernel_rfl) ?_
  refine WL.both (fun b' => [(0, .string a0), (1, .int .i64 a1), (2, .int .i64 a2), (6, .int .u64 0), (7, .int .i64 0), (14, .bool b')]) (decide (a2 < 1)) 3 [] [] [0, 1, 2, 6, 7, 17] (fun b' => [(0, .string a0), (1, .int .i64 a1), (2, .int .i64 a2), (6, .int .u64 0), (7, .int .i64 0), (17, .bool (b' || (decide (a2 > 8))))]) [] [] (fun _ => by kernel_rfl) (fun _ => by kernel_rfl) ?_
  refine WP.done ?_
  refine WP.cond ((decide (a2 < 1)) || (decide (a2 > 8))) rfl rfl (fun c1 => ?_) (fun c1 => ?_)
  · replace hM := cond_t hM c1
    refine WP.seq ?_
    refine WP.run [] [0, 1, 2, 6, 7] (fun _ => [(0, .string a0), (1, .int .i64 a1), (2, .int .i64 a2), (6, .int .u64 0), (7, .int .i64 1)]) (fun _ => []) (fun _ => []) (fun _ => by kernel_rfl) (fun _ => ?_)
    obtain rfl := Option.some.inj hM
    exact WP.ret [] [] (.tuple #[.int .u64 0, .int .i64 1]) (by kernel_rfl) (fun w' hw => ⟨rfl, hw.pick [] rfl⟩)
  · replace hM := cond_f hM c1
    refine WP.skip ?_
    refine WP.seq ?_
    refine WP.region ?_
    refine WL.run 3 [] [2, 6, 7, 19, 20, 21] (fun _ => [(2, .int .i64 a2), (6, .int .u64 0), (7, .int .i64 0), (19, .string a0), (20, .int .i64 a1), (21, .int .i64 a2)]) (fun _ => []) (fun _ => []) (fun _ => by kernel_rfl) (fun _ => ?_)
    obtain ⟨⟨r2, r3⟩, h4, hM⟩ := bind_some hM
    dsimp only at hM
    refine WL.callP [] [] (octets_part_calls a0 a1 a2 _ h4) (fun _ h => h) (by kernel_rfl) (by kernel_rfl) rfl ?_
    refine WL.run 5 [] [2, 6, 7, 8, 9] (fun _ => [(2, .int .i64 a2), (6, .int .u64 0), (7, .int .i64 0), (8, .string r2), (9, Un0.v r3)]) (fun _ => []) (fun _ => []) (fun _ => by kernel_rfl) (fun _ => ?_)
    refine WP.done ?_
    refine WP.seq ?_
    refine WP.seq ?_
    refine WP.region ?_
    refine WL.run 1 [] [2, 6, 7, 8, 9, 25] (fun _ => [(2, .int .i64 a2), (6, .int .u64 0), (7, .int .i64 0), (8, .string r2), (9, Un0.v r3), (25, Un0.v r3)]) (fun _ => []) (fun _ => []) (fun _ => by kernel_rfl) (fun _ => ?_)
    rcases r3 with _ | ⟨q5, q6⟩
    · dsimp only at hM
      refine WL.run 1 [] [2, 6, 7, 8, 9, 26] (fun _ => [(2, .int .i64 a2), (6, .int .u64 0), (7, .int .i64 0), (8, .string r2), (9, .nilIface), (26, .bool false)]) (fun _ => []) (fun _ => []) (fun _ => by kernel_rfl) (fun _ => ?_)
      refine WP.done ?_
      refine WP.no rfl rfl ?_
      refine WP.skip ?_
      refine WP.seq ?_
      refine WP.run [] [2, 6, 7, 8, 10] (fun _ => [(2, .int .i64 a2), (6, .int .u64 0), (7, .int .i64 0), (8, .string r2), (10, .int .u64 0)]) (fun _ => []) (fun _ => []) (fun _ => by kernel_rfl) (fun _ => ?_)
      refine WP.seq ?_
      refine WP.seq ?_
      refine WP.run [] [6, 7, 8, 10, 29, 30] (fun _ => [(6, .int .u64 0), (7, .int .i64 0), (8, .string r2), (10, .int .u64 0), (29, .int .i64 a2), (30, .int .i64 0)]) (fun _ => []) (fun _ => []) (fun _ => by kernel_rfl) (fun _ => ?_)
      refine WP.block ?_
      refine WP.sub [6, 7, 8, 10, 29, 30] (L' := [(6, .int .u64 0), (7, .int .i64 0), (8, .string r2), (10, .int .u64 0), (29, .int .i64 a2), (30, .int .i64 0)]) (by kernel_rfl) ?_
      refine WP.loop (σ := Int × Int) (fun n st => octets_Get.l1 a2 r2 n st.1 st.2) r (fun st => [(6, .int .u64 0), (7, .int .i64 0), (8, .string r2), (10, .int .u64 st.1), (29, .int .i64 a2), (30, .int .i64 st.2)]) (fun st => Sat w Z [] [] Glob) (st := (0, 0)) (fun n st hM => ?_) hM
      rcases n with _ | n
      · exact nomatch (show (none : Option _) = some r from hM)
      obtain ⟨x9, x10⟩ := st
      replace hM : octets_Get.l1 a2 r2 (n + 1) x9 x10 = some r := hM
      rw [octets_Get.l1] at hM
      show WP _ _ _ _ _ [(6, .int .u64 0), (7, .int .i64 0), (8, .string r2), (10, .int .u64 x9), (29, .int .i64 a2), (30, .int .i64 x10)] (Sat w Z [] [] Glob)
      refine WP.seq ?_
      refine WP.run [] [6, 7, 8, 10, 29, 30, 31] (fun _ => [(6, .int .u64 0), (7, .int .i64 0), (8, .string r2), (10, .int .u64 x9), (29, .int .i64 a2), (30, .int .i64 x10), (31, .bool (decide (x10 < a2)))]) (fun _ => []) (fun _ => []) (fun _ => by kernel_rfl) (fun _ => ?_)
      refine WP.seq ?_
      refine WP.cond (decide (x10 < a2)) rfl rfl (fun c11 => ?_) (fun c11 => ?_)
      · replace hM := cond_t hM c11
        refine WP.skip ?_
        refine WP.seq ?_
        refine WP.block ?_
        refine WP.seq ?_
        refine WP.run [] [6, 7, 8, 10, 11, 29, 30, 31, 32] (fun _ => [(6, .int .u64 0), (7, .int .i64 0), (8, .string r2), (10, .int .u64 x9), (11, .int .i64 x10), (29, .int .i64 a2), (30, .int .i64 x10), (31, .bool (decide (x10 < a2))), (32, .int .i64 x10)]) (fun _ => []) (fun _ => []) (fun _ => by kernel_rfl) (fun _ => ?_)
        refine WP.region ?_
        refine WL.run 4 [] [6, 7, 8, 10, 11, 29, 30, 31, 32, 33, 34, 35, 36] (fun _ => [(6, .int .u64 0), (7, .int .i64 0), (8, .string r2), (10, .int .u64 x9), (11, .int .i64 x10), (29, .int .i64 a2), (30, .int .i64 x10), (31, .bool (decide (x10 < a2))), (32, .int .i64 x10), (33, .int .u64 x9), (34, .int .u64 (u64 (x9 * 256))), (35, .string r2), (36, .int .i64 x10)]) (fun _ => []) (fun _ => []) (fun _ => by kernel_rfl) (fun _ => ?_)
        obtain ⟨t12, h13, hM⟩ := bind_some hM
        refine WL.val (fun _ => run_idxS (s := r2) (k := .i64) (i := x10) (by kernel_rfl) (by kernel_rfl) (by kernel_rfl) h13) (by kernel_rfl) (by kernel_rfl) rfl ?_
        refine WL.run 3 [] [6, 7, 8, 10, 11, 29, 30, 31, 32, 33, 34, 35, 36, 37, 38, 39] (fun _ => [(6, .int .u64 0), (7, .int .i64 0), (8, .string r2), (10, .int .u64 (bOr .u64 (u64 (x9 * 256)) (u64 t12))), (11, .int .i64 x10), (29, .int .i64 a2), (30, .int .i64 x10), (31, .bool (decide (x10 < a2))), (32, .int .i64 x10), (33, .int .u64 x9), (34, .int .u64 (u64 (x9 * 256))), (35, .string r2), (36, .int .i64 x10), (37, .int .u8 t12), (38, .int .u64 (u64 t12)), (39, .int .u64 (bOr .u64 (u64 (x9 * 256)) (u64 t12)))]) (fun _ => []) (fun _ => []) (fun _ => by kernel_rfl) (fun _ => ?_)
        refine WP.done ?_
        refine WP.leave ?_
        refine WP.run [] [6, 7, 8, 10, 11, 29, 30, 31, 32, 33, 34, 35, 36, 37, 38, 39, 40] (fun _ => [(6, .int .u64 0), (7, .int .i64 0), (8, .string r2), (10, .int .u64 (bOr .u64 (u64 (x9 * 256)) (u64 t12))), (11, .int .i64 x10), (29, .int .i64 a2), (30, .int .i64 (i64 (x10 + 1))), (31, .bool (decide (x10 < a2))), (32, .int .i64 x10), (33, .int .u64 x9), (34, .int .u64 (u64 (x9 * 256))), (35, .string r2), (36, .int .i64 x10), (37, .int .u8 t12), (38, .int .u64 (u64 t12)), (39, .int .u64 (bOr .u64 (u64 (x9 * 256)) (u64 t12))), (40, .int .i64 (i64 (x10 + 1)))]) (fun _ => []) (fun _ => []) (fun _ => by kernel_rfl) (fun _ => ?_)
        exact WP.again' [6, 7, 8, 10, 29, 30] (bOr .u64 (u64 (x9 * 256)) (u64 t12), i64 (x10 + 1)) hM (by kernel_rfl) (fun _ h => h.pick [] (by kernel_rfl))
      · replace hM := cond_f hM c11
        refine WP.exit rfl ?_
        refine WP.seq ?_
        refine WP.run [] [6, 7] (fun _ => [(6, .int .u64 x9), (7, .int .i64 0)]) (fun _ => []) (fun _ => []) (fun _ => by kernel_rfl) (fun _ => ?_)
        obtain rfl := Option.some.inj hM
        exact WP.ret [] [] (.tuple #[.int .u64 x9, .int .i64 0]) (by kernel_rfl) (fun w' hw => ⟨rfl, hw.pick [] rfl⟩)
    · dsimp only at hM
      refine WL.run 1 [] [2, 6, 7, 8, 9, 26] (fun _ => [(2, .int .i64 a2), (6, .int .u64 0), (7, .int .i64 0), (8, .string r2), (9, .iface 125 (.agg #[.int .i64 q5, .iface 27 (.int .i64 q6)])), (26, .bool true)]) (fun _ => []) (fun _ => []) (fun _ => by kernel_rfl) (fun _ => ?_)
      refine WP.done ?_
      refine WP.yes rfl rfl ?_
      refine WP.seq ?_
      refine WP.region ?_
      refine WL.run 1 [] [2, 6, 7, 8, 27] (fun _ => [(2, .int .i64 a2), (6, .int .u64 0), (7, .int .i64 0), (8, .string r2), (27, .iface 125 (.agg #[.int .i64 q5, .iface 27 (.int .i64 q6)]))]) (fun _ => []) (fun _ => []) (fun _ => by kernel_rfl) (fun _ => ?_)
      obtain ⟨r7, h8, hM⟩ := bind_some hM
      refine WL.callP [] [] (octets_number_calls q5 q6 _ h8) (fun _ h => h) (by kernel_rfl) (by kernel_rfl) rfl ?_
      refine WL.run 2 [] [2, 6, 7, 8] (fun _ => [(2, .int .i64 a2), (6, .int .u64 0), (7, .int .i64 r7), (8, .string r2)]) (fun _ => []) (fun _ => []) (fun _ => by kernel_rfl) (fun _ => ?_)
      refine WP.done ?_
      obtain rfl := Option.some.inj hM
      exact WP.ret [] [] (.tuple #[.int .u64 0, .int .i64 r7]) (by kernel_rfl) (fun w' hw => ⟨rfl, hw.pick [] rfl⟩)

end Go.Proofs.YtefbjefmclhhjaaDoor

namespace Go.Proofs.YtefbjefmclhhjaaDoor
open Go Eng
set_option linter.unusedVariables false
set_option linter.unusedSimpArgs false

/-! ### (*gangway/ether.reader).get: function 40 -/
def ether_reader_get.f (k : Nat) (a0 : ether_reader) (a1 : Int) (a2 : ByteArray) : Option (Int × Un1 × ether_reader) :=
  (octets_Get.f k a0.s a0.at_ a1).bind fun (r1, r2) =>
  bif (r2 != 0) then
    some (0, some (a2, 40), a0)
  else
    some (r1, none, (ether_reader.mk a0.s (i64 (a0.at_ + a1))))

set_option maxRecDepth 100000 in
theorem ether_reader_get_calls (k : Nat) (b_0 : Nat) (a0 : ether_reader) (a1 : Int) (a2 : ByteArray) (r : Int × Un1 × ether_reader) (h : ether_reader_get.f k a0 a1 a2 = some r) : Does Tryd.prog 40 #[.pointer (some ⟨b_0, 0, none⟩), .int .i64 a1, .string a2] [(b_0, .cells #[.string a0.s, .int .i64 a0.at_] 50 (0, 0))] Glob (fun _ : Unit => .tuple #[.int .u64 r.1, Un1.v r.2.1]) (fun _ => [(b_0, .cells #[.string r.2.2.s, .int .i64 r.2.2.at_] 50 (0, 0))]) (fun _ => []) (fun _ => Glob) := by
  intro w Z hS
  refine calls_of (args := [.pointer (some ⟨b_0, 0, none⟩), .int .i64 a1, .string a2]) (L := [(0, .pointer (some ⟨b_0, 0, none⟩)), (1, .int .i64 a1), (2, .string a2)]) (N := 38) (S := Sat w Z [(b_0, .cells #[.string a0.s, .int .i64 a0.at_] 50 (0, 0))] [] Glob) Tryd.func40 rfl rfl (Nat.le_of_ble_eq_true rfl) rfl hS ?_
  have hM := h
  clear h hS
  unfold ether_reader_get.f at hM
  refine WP.seq ?_
  refine WP.run [] [0, 1, 2, 6, 7] (fun _ => [(0, .pointer (some ⟨b_0, 0, none⟩)), (1, .int .i64 a1), (2, .string a2), (6, .int .u64 0), (7, .nilIface)]) (fun _ => [(b_0, .cells #[.string a0.s, .int .i64 a0.at_] 50 (0, 0))]) (fun _ => []) (fun _ => by kernel_rfl) (fun _ => ?_)
  refine WP.seq ?_
  refine WP.quiet (by kernel_rfl) (by kernel_rfl) ?_
  refine QL.run 9 [0, 0] [0, 1, 2, 6, 7, 14, 18, 19] [b_0, b_0] [(0, .pointer (some ⟨b_0, 0, none⟩)), (1, .int .i64 a1), (2, .string a2), (6, .int .u64 0), (7, .nilIface), (14, .string a0.s), (18, .int .i64 a0.at_), (19, .int .i64 a1)] (by kernel_rfl) ?_
  obtain ⟨⟨r1, r2⟩, h3, hM⟩ := bind_some hM
  dsimp only at hM
  refine QL.callP [] [] (octets_Get_calls k a0.s a0.at_ a1 _ h3) (fun _ h => h) (by kernel_rfl) (by kernel_rfl) rfl ?_
  refine QL.run 5 [] [0, 1, 2, 6, 7, 8, 9] [] [(0, .pointer (some ⟨b_0, 0, none⟩)), (1, .int .i64 a1), (2, .string a2), (6, .int .u64 0), (7, .nilIface), (8, .int .u64 r1), (9, .int .i64 r2)] (by kernel_rfl) ?_
  refine QL.done ?_
  refine WP.seq ?_
  refine WP.seq ?_
  refine WP.run [] [0, 1, 2, 6, 7, 8, 24] (fun _ => [(0, .pointer (some ⟨b_0, 0, none⟩)), (1, .int .i64 a1), (2, .string a2), (6, .int .u64 0), (7, .nilIface), (8, .int .u64 r1), (24, .bool (r2 != 0))]) (fun _ => [(b_0, .cells #[.string a0.s, .int .i64 a0.at_] 50 (0, 0))]) (fun _ => []) (fun _ => by kernel_rfl) (fun _ => ?_)
  refine WP.cond (r2 != 0) rfl rfl (fun c4 => ?_) (fun c4 => ?_)
  · replace hM := cond_t hM c4
    refine WP.seq ?_
    refine WP.run [] [0, 1, 6, 7, 8] (fun _ => [(0, .pointer (some ⟨b_0, 0, none⟩)), (1, .int .i64 a1), (6, .int .u64 0), (7, .iface 91 (.agg #[.string a2, .iface 27 (.int .i64 40)])), (8, .int .u64 r1)]) (fun _ => [(b_0, .cells #[.string a0.s, .int .i64 a0.at_] 50 (0, 0))]) (fun _ => []) (fun _ => by kernel_rfl) (fun _ => ?_)
    obtain rfl := Option.some.inj hM
    exact WP.ret [] [] (.tuple #[.int .u64 0, .iface 91 (.agg #[.string a2, .iface 27 (.int .i64 40)])]) (by kernel_rfl) (fun w' hw => ⟨(), rfl, hw.pick [0] (by kernel_rfl)⟩)
  · replace hM := cond_f hM c4
    refine WP.skip ?_
    refine WP.seq ?_
    refine WP.run [0, 0] [6, 7, 8] (fun _ => [(6, .int .u64 0), (7, .nilIface), (8, .int .u64 r1)]) (fun _ => [(b_0, .cells #[.string a0.s, .int .i64 (i64 (a0.at_ + a1))] 50 (0, 0))]) (fun _ => [b_0, b_0]) (fun _ => by kernel_rfl) (fun _ => ?_)
    refine WP.seq ?_
    refine WP.run [] [6, 7] (fun _ => [(6, .int .u64 r1), (7, .nilIface)]) (fun _ => [(b_0, .cells #[.string a0.s, .int .i64 (i64 (a0.at_ + a1))] 50 (0, 0))]) (fun _ => []) (fun _ => by kernel_rfl) (fun _ => ?_)
    obtain rfl := Option.some.inj hM
    exact WP.ret [] [] (.tuple #[.int .u64 r1, .nilIface]) (by kernel_rfl) (fun w' hw => ⟨(), rfl, hw.pick [0] (by kernel_rfl)⟩)

end Go.Proofs.YtefbjefmclhhjaaDoor

namespace Go.Proofs.YtefbjefmclhhjaaDoor
open Go Eng
set_option linter.unusedVariables false
set_option linter.unusedSimpArgs false

/-! ### (*gangway/ether.reader).tagged: function 41 -/
def ether_reader_tagged.f (k : Nat) (a0 : ether_reader) (a1 : api_Frame) : Option (Int × Un1 × ether_reader × api_Frame) :=
  (ether_reader_get.f k a0 2 (⟨#[116, 97, 103]⟩ : ByteArray)).bind fun (r1, r2, r3) =>
  match r2 with
  | none =>
    (ether_reader_get.f k r3 2 (⟨#[116, 121, 112, 101]⟩ : ByteArray)).bind fun (r7, r8, r9) =>
    match r8 with
    | none =>
      some (i64 r7, none, r9, (api_Frame.mk a1.Dst a1.Src (api_Tag.mk true (Int.fdiv (i64 r1) 8192) ((bAnd .i64 (i64 r1) 4096) != 0) (Int.tmod (i64 r1) 4096)) a1.Type_ a1.Body))
    | some (q11, q12) =>
      some (i64 r7, some (q11, q12), r9, (api_Frame.mk a1.Dst a1.Src (api_Tag.mk true (Int.fdiv (i64 r1) 8192) ((bAnd .i64 (i64 r1) 4096) != 0) (Int.tmod (i64 r1) 4096)) a1.Type_ a1.Body))
  | some (q5, q6) =>
    some (0, some (q5, q6), r3, a1)

set_option maxRecDepth 100000 in
theorem ether_reader_tagged_calls (k : Nat) (b_0 : Nat) (b_1 : Nat) (a0 : ether_reader) (a1 : api_Frame) (r : Int × Un1 × ether_reader × api_Frame) (h : ether_reader_tagged.f k a0 a1 = some r) : Does Tryd.prog 41 #[.pointer (some ⟨b_0, 0, none⟩), .pointer (some ⟨b_1, 0, none⟩)] [(b_0, .cells #[.string a0.s, .int .i64 a0.at_] 50 (0, 0)), (b_1, .cells #[.int .u64 a1.Dst, .int .u64 a1.Src, .bool a1.Tag.Has, .int .i64 a1.Tag.Pri, .bool a1.Tag.Dei, .int .i64 a1.Tag.Vid, .int .i64 a1.Type_, .string a1.Body] 26 (0, 0))] Glob (fun _ : Unit => .tuple #[.int .i64 r.1, Un1.v r.2.1]) (fun _ => [(b_0, .cells #[.string r.2.2.1.s, .int .i64 r.2.2.1.at_] 50 (0, 0)), (b_1, .cells #[.int .u64 r.2.2.2.Dst, .int .u64 r.2.2.2.Src, .bool r.2.2.2.Tag.Has, .int .i64 r.2.2.2.Tag.Pri, .bool r.2.2.2.Tag.Dei, .int .i64 r.2.2.2.Tag.Vid, .int .i64 r.2.2.2.Type_, .string r.2.2.2.Body] 26 (0, 0))]) (fun _ => []) (fun _ => Glob) := by
  intro w Z hS
  refine calls_of (args := [.pointer (some ⟨b_0, 0, none⟩), .pointer (some ⟨b_1, 0, none⟩)]) (L := [(0, .pointer (some ⟨b_0, 0, none⟩)), (1, .pointer (some ⟨b_1, 0, none⟩))]) (N := 39) (S := Sat w Z [(b_0, .cells #[.string a0.s, .int .i64 a0.at_] 50 (0, 0)), (b_1, .cells #[.int .u64 a1.Dst, .int .u64 a1.Src, .bool a1.Tag.Has, .int .i64 a1.Tag.Pri, .bool a1.Tag.Dei, .int .i64 a1.Tag.Vid, .int .i64 a1.Type_, .string a1.Body] 26 (0, 0))] [] Glob) Tryd.func41 rfl rfl (Nat.le_of_ble_eq_true rfl) rfl hS ?_
  have hM := h
  clear h hS
  unfold ether_reader_tagged.f at hM
  refine WP.seq ?_
  refine WP.run [] [0, 1, 4, 5] (fun _ => [(0, .pointer (some ⟨b_0, 0, none⟩)), (1, .pointer (some ⟨b_1, 0, none⟩)), (4, .int .i64 0), (5, .nilIface)]) (fun _ => [(b_0, .cells #[.string a0.s, .int .i64 a0.at_] 50 (0, 0)), (b_1, .cells #[.int .u64 a1.Dst, .int .u64 a1.Src, .bool a1.Tag.Has, .int .i64 a1.Tag.Pri, .bool a1.Tag.Dei, .int .i64 a1.Tag.Vid, .int .i64 a1.Type_, .string a1.Body] 26 (0, 0))]) (fun _ => []) (fun _ => by kernel_rfl) (fun _ => ?_)
  refine WP.seq ?_
  refine WP.region ?_
  refine WL.run 1 [] [0, 1, 4, 5, 11] (fun _ => [(0, .pointer (some ⟨b_0, 0, none⟩)), (1, .pointer (some ⟨b_1, 0, none⟩)), (4, .int .i64 0), (5, .nilIface), (11, .pointer (some ⟨b_0, 0, none⟩))]) (fun _ => [(b_0, .cells #[.string a0.s, .int .i64 a0.at_] 50 (0, 0)), (b_1, .cells #[.int .u64 a1.Dst, .int .u64 a1.Src, .bool a1.Tag.Has, .int .i64 a1.Tag.Pri, .bool a1.Tag.Dei, .int .i64 a1.Tag.Vid, .int .i64 a1.Type_, .string a1.Body] 26 (0, 0))]) (fun _ => []) (fun _ => by kernel_rfl) (fun _ => ?_)
  obtain ⟨⟨r1, r2, r3⟩, h4, hM⟩ := bind_some hM
  dsimp only at hM
  refine WL.callE (X := Unit) [] [] [true, false] (fun _ => _) (ether_reader_get_calls k b_0 a0 2 (⟨#[116, 97, 103]⟩ : ByteArray) _ h4) rfl rfl (fun _ h => h) (by kernel_rfl) (by kernel_rfl) (fun _ => rfl) (fun _ => ?_)
  refine WL.run 5 [] [0, 1, 4, 5, 6, 7] (fun _ => [(0, .pointer (some ⟨b_0, 0, none⟩)), (1, .pointer (some ⟨b_1, 0, none⟩)), (4, .int .i64 0), (5, .nilIface), (6, .int .u64 r1), (7, Un1.v r2)]) (fun _ => [(b_0, .cells #[.string r3.s, .int .i64 r3.at_] 50 (0, 0)), (b_1, .cells #[.int .u64 a1.Dst, .int .u64 a1.Src, .bool a1.Tag.Has, .int .i64 a1.Tag.Pri, .bool a1.Tag.Dei, .int .i64 a1.Tag.Vid, .int .i64 a1.Type_, .string a1.Body] 26 (0, 0))]) (fun _ => []) (fun _ => by kernel_rfl) (fun _ => ?_)
  refine WP.done ?_
  refine WP.seq ?_
  refine WP.seq ?_
  refine WP.region ?_
  refine WL.run 1 [] [0, 1, 4, 5, 6, 7, 15] (fun _ => [(0, .pointer (some ⟨b_0, 0, none⟩)), (1, .pointer (some ⟨b_1, 0, none⟩)), (4, .int .i64 0), (5, .nilIface), (6, .int .u64 r1), (7, Un1.v r2), (15, Un1.v r2)]) (fun _ => [(b_0, .cells #[.string r3.s, .int .i64 r3.at_] 50 (0, 0)), (b_1, .cells #[.int .u64 a1.Dst, .int .u64 a1.Src, .bool a1.Tag.Has, .int .i64 a1.Tag.Pri, .bool a1.Tag.Dei, .int .i64 a1.Tag.Vid, .int .i64 a1.Type_, .string a1.Body] 26 (0, 0))]) (fun _ => []) (fun _ => by kernel_rfl) (fun _ => ?_)
  rcases r2 with _ | ⟨q5, q6⟩
  · dsimp only at hM
    refine WL.run 1 [] [0, 1, 4, 5, 6, 7, 16] (fun _ => [(0, .pointer (some ⟨b_0, 0, none⟩)), (1, .pointer (some ⟨b_1, 0, none⟩)), (4, .int .i64 0), (5, .nilIface), (6, .int .u64 r1), (7, .nilIface), (16, .bool false)]) (fun _ => [(b_0, .cells #[.string r3.s, .int .i64 r3.at_] 50 (0, 0)), (b_1, .cells #[.int .u64 a1.Dst, .int .u64 a1.Src, .bool a1.Tag.Has, .int .i64 a1.Tag.Pri, .bool a1.Tag.Dei, .int .i64 a1.Tag.Vid, .int .i64 a1.Type_, .string a1.Body] 26 (0, 0))]) (fun _ => []) (fun _ => by kernel_rfl) (fun _ => ?_)
    refine WP.done ?_
    refine WP.no rfl rfl ?_
    refine WP.skip ?_
    refine WP.seq ?_
    refine WP.run [] [0, 1, 4, 5, 7, 8] (fun _ => [(0, .pointer (some ⟨b_0, 0, none⟩)), (1, .pointer (some ⟨b_1, 0, none⟩)), (4, .int .i64 0), (5, .nilIface), (7, .nilIface), (8, .int .i64 (i64 r1))]) (fun _ => [(b_0, .cells #[.string r3.s, .int .i64 r3.at_] 50 (0, 0)), (b_1, .cells #[.int .u64 a1.Dst, .int .u64 a1.Src, .bool a1.Tag.Has, .int .i64 a1.Tag.Pri, .bool a1.Tag.Dei, .int .i64 a1.Tag.Vid, .int .i64 a1.Type_, .string a1.Body] 26 (0, 0))]) (fun _ => []) (fun _ => by kernel_rfl) (fun _ => ?_)
    refine WP.seq ?_
    refine WP.run [1, 1, 1, 1] [0, 4, 5, 7] (fun _ => [(0, .pointer (some ⟨b_0, 0, none⟩)), (4, .int .i64 0), (5, .nilIface), (7, .nilIface)]) (fun _ => [(b_0, .cells #[.string r3.s, .int .i64 r3.at_] 50 (0, 0)), (b_1, .cells #[.int .u64 a1.Dst, .int .u64 a1.Src, .bool true, .int .i64 (Int.fdiv (i64 r1) 8192), .bool ((bAnd .i64 (i64 r1) 4096) != 0), .int .i64 (Int.tmod (i64 r1) 4096), .int .i64 a1.Type_, .string a1.Body] 26 (0, 0))]) (fun _ => [b_1, b_1, b_1, b_1]) (fun _ => by kernel_rfl) (fun _ => ?_)
    refine WP.seq ?_
    refine WP.region ?_
    refine WL.run 1 [] [4, 5, 7, 32] (fun _ => [(4, .int .i64 0), (5, .nilIface), (7, .nilIface), (32, .pointer (some ⟨b_0, 0, none⟩))]) (fun _ => [(b_0, .cells #[.string r3.s, .int .i64 r3.at_] 50 (0, 0)), (b_1, .cells #[.int .u64 a1.Dst, .int .u64 a1.Src, .bool true, .int .i64 (Int.fdiv (i64 r1) 8192), .bool ((bAnd .i64 (i64 r1) 4096) != 0), .int .i64 (Int.tmod (i64 r1) 4096), .int .i64 a1.Type_, .string a1.Body] 26 (0, 0))]) (fun _ => []) (fun _ => by kernel_rfl) (fun _ => ?_)
    obtain ⟨⟨r7, r8, r9⟩, h10, hM⟩ := bind_some hM
    dsimp only at hM
    refine WL.callE (X := Unit) [] [] [true, false] (fun _ => _) (ether_reader_get_calls k b_0 r3 2 (⟨#[116, 121, 112, 101]⟩ : ByteArray) _ h10) rfl rfl (fun _ h => h) (by kernel_rfl) (by kernel_rfl) (fun _ => rfl) (fun _ => ?_)
    refine WL.run 5 [] [4, 5, 7, 9] (fun _ => [(4, .int .i64 0), (5, .nilIface), (7, Un1.v r8), (9, .int .u64 r7)]) (fun _ => [(b_0, .cells #[.string r9.s, .int .i64 r9.at_] 50 (0, 0)), (b_1, .cells #[.int .u64 a1.Dst, .int .u64 a1.Src, .bool true, .int .i64 (Int.fdiv (i64 r1) 8192), .bool ((bAnd .i64 (i64 r1) 4096) != 0), .int .i64 (Int.tmod (i64 r1) 4096), .int .i64 a1.Type_, .string a1.Body] 26 (0, 0))]) (fun _ => []) (fun _ => by kernel_rfl) (fun _ => ?_)
    refine WP.done ?_
    refine WP.seq ?_
    refine WP.run [] [4, 5] (fun _ => [(4, .int .i64 (i64 r7)), (5, Un1.v r8)]) (fun _ => [(b_0, .cells #[.string r9.s, .int .i64 r9.at_] 50 (0, 0)), (b_1, .cells #[.int .u64 a1.Dst, .int .u64 a1.Src, .bool true, .int .i64 (Int.fdiv (i64 r1) 8192), .bool ((bAnd .i64 (i64 r1) 4096) != 0), .int .i64 (Int.tmod (i64 r1) 4096), .int .i64 a1.Type_, .string a1.Body] 26 (0, 0))]) (fun _ => []) (fun _ => by kernel_rfl) (fun _ => ?_)
    rcases r8 with _ | ⟨q11, q12⟩
    · dsimp only at hM
      obtain rfl := Option.some.inj hM
      exact WP.ret [] [] (.tuple #[.int .i64 (i64 r7), .nilIface]) (by kernel_rfl) (fun w' hw => ⟨(), rfl, hw.pick [0, 1] (by kernel_rfl)⟩)
    · dsimp only at hM
      obtain rfl := Option.some.inj hM
      exact WP.ret [] [] (.tuple #[.int .i64 (i64 r7), .iface 91 (.agg #[.string q11, .iface 27 (.int .i64 q12)])]) (by kernel_rfl) (fun w' hw => ⟨(), rfl, hw.pick [0, 1] (by kernel_rfl)⟩)
  · dsimp only at hM
    refine WL.run 1 [] [0, 1, 4, 5, 6, 7, 16] (fun _ => [(0, .pointer (some ⟨b_0, 0, none⟩)), (1, .pointer (some ⟨b_1, 0, none⟩)), (4, .int .i64 0), (5, .nilIface), (6, .int .u64 r1), (7, .iface 91 (.agg #[.string q5, .iface 27 (.int .i64 q6)])), (16, .bool true)]) (fun _ => [(b_0, .cells #[.string r3.s, .int .i64 r3.at_] 50 (0, 0)), (b_1, .cells #[.int .u64 a1.Dst, .int .u64 a1.Src, .bool a1.Tag.Has, .int .i64 a1.Tag.Pri, .bool a1.Tag.Dei, .int .i64 a1.Tag.Vid, .int .i64 a1.Type_, .string a1.Body] 26 (0, 0))]) (fun _ => []) (fun _ => by kernel_rfl) (fun _ => ?_)
    refine WP.done ?_
    refine WP.yes rfl rfl ?_
    refine WP.seq ?_
    refine WP.run [] [0, 1, 4, 5, 6, 7] (fun _ => [(0, .pointer (some ⟨b_0, 0, none⟩)), (1, .pointer (some ⟨b_1, 0, none⟩)), (4, .int .i64 0), (5, .iface 91 (.agg #[.string q5, .iface 27 (.int .i64 q6)])), (6, .int .u64 r1), (7, .iface 91 (.agg #[.string q5, .iface 27 (.int .i64 q6)]))]) (fun _ => [(b_0, .cells #[.string r3.s, .int .i64 r3.at_] 50 (0, 0)), (b_1, .cells #[.int .u64 a1.Dst, .int .u64 a1.Src, .bool a1.Tag.Has, .int .i64 a1.Tag.Pri, .bool a1.Tag.Dei, .int .i64 a1.Tag.Vid, .int .i64 a1.Type_, .string a1.Body] 26 (0, 0))]) (fun _ => []) (fun _ => by kernel_rfl) (fun _ => ?_)
    obtain rfl := Option.some.inj hM
    exact WP.ret [] [] (.tuple #[.int .i64 0, .iface 91 (.agg #[.string q5, .iface 27 (.int .i64 q6)])]) (by kernel_rfl) (fun w' hw => ⟨(), rfl, hw.pick [0, 1] (by kernel_rfl)⟩)

end Go.Proofs.YtefbjefmclhhjaaDoor

namespace Go.Proofs.YtefbjefmclhhjaaDoor
open Go Eng
set_option linter.unusedVariables false
set_option linter.unusedSimpArgs false

/-! ### (*gangway/ether.reader).body: function 42 -/
def ether_reader_body.k1 (a1 : api_Frame) (a2 : Int) (t1 : ByteArray) (x4 : Bool) : Option (Un1 × api_Frame) :=
  bif x4 then
    some (some ((⟨#[116, 121, 112, 101]⟩ : ByteArray), 41), a1)
  else
    bif decide (a2 > 1500) then
      some (none, (api_Frame.mk a1.Dst a1.Src a1.Tag a2 t1))
    else
      bif decide (a2 > (t1.size : Int)) then
        some (some ((⟨#[98, 111, 100, 121]⟩ : ByteArray), 40), a1)
      else
        (sliceS t1 0 a2).bind fun t8 =>
        some (none, (api_Frame.mk a1.Dst a1.Src a1.Tag a1.Type_ t8))

def ether_reader_body.f (a0 : ether_reader) (a1 : api_Frame) (a2 : Int) : Option (Un1 × api_Frame) :=
  (sliceS a0.s a0.at_ (a0.s.size : Int)).bind fun t1 =>
  bif (a2 == 33024) then
    ether_reader_body.k1 a1 a2 t1 true
  else
    ether_reader_body.k1 a1 a2 t1 ((decide (a2 > 1500)) && (decide (a2 < 1536)))

set_option maxRecDepth 100000 in
theorem ether_reader_body_calls (b_0 : Nat) (b_1 : Nat) (a0 : ether_reader) (a1 : api_Frame) (a2 : Int) (r : Un1 × api_Frame) (h : ether_reader_body.f a0 a1 a2 = some r) : Does Tryd.prog 42 #[.pointer (some ⟨b_0, 0, none⟩), .pointer (some ⟨b_1, 0, none⟩), .int .i64 a2] [(b_0, .cells #[.string a0.s, .int .i64 a0.at_] 50 (0, 0)), (b_1, .cells #[.int .u64 a1.Dst, .int .u64 a1.Src, .bool a1.Tag.Has, .int .i64 a1.Tag.Pri, .bool a1.Tag.Dei, .int .i64 a1.Tag.Vid, .int .i64 a1.Type_, .string a1.Body] 26 (0, 0))] Glob (fun _ : Unit => Un1.v r.1) (fun _ => [(b_0, .cells #[.string a0.s, .int .i64 a0.at_] 50 (0, 0)), (b_1, .cells #[.int .u64 r.2.Dst, .int .u64 r.2.Src, .bool r.2.Tag.Has, .int .i64 r.2.Tag.Pri, .bool r.2.Tag.Dei, .int .i64 r.2.Tag.Vid, .int .i64 r.2.Type_, .string r.2.Body] 26 (0, 0))]) (fun _ => []) (fun _ => Glob) := by
  intro w Z hS
  refine calls_of (args := [.pointer (some ⟨b_0, 0, none⟩), .pointer (some ⟨b_1, 0, none⟩), .int .i64 a2]) (L := [(0, .pointer (some ⟨b_0, 0, none⟩)), (1, .pointer (some ⟨b_1, 0, none⟩)), (2, .int .i64 a2)]) (N := 55) (S := Sat w Z [(b_0, .cells #[.string a0.s, .int .i64 a0.at_] 50 (0, 0)), (b_1, .cells #[.int .u64 a1.Dst, .int .u64 a1.Src, .bool a1.Tag.Has, .int .i64 a1.Tag.Pri, .bool a1.Tag.Dei, .int .i64 a1.Tag.Vid, .int .i64 a1.Type_, .string a1.Body] 26 (0, 0))] [] Glob) Tryd.func42 rfl rfl (Nat.le_of_ble_eq_true rfl) rfl hS ?_
  have hM := h
  clear h hS
  unfold ether_reader_body.f at hM
  refine WP.seq ?_
  refine WP.run [] [0, 1, 2, 6] (fun _ => [(0, .pointer (some ⟨b_0, 0, none⟩)), (1, .pointer (some ⟨b_1, 0, none⟩)), (2, .int .i64 a2), (6, .nilIface)]) (fun _ => [(b_0, .cells #[.string a0.s, .int .i64 a0.at_] 50 (0, 0)), (b_1, .cells #[.int .u64 a1.Dst, .int .u64 a1.Src, .bool a1.Tag.Has, .int .i64 a1.Tag.Pri, .bool a1.Tag.Dei, .int .i64 a1.Tag.Vid, .int .i64 a1.Type_, .string a1.Body] 26 (0, 0))]) (fun _ => []) (fun _ => by kernel_rfl) (fun _ => ?_)
  refine WP.seq ?_
  refine WP.quiet (by kernel_rfl) (by kernel_rfl) ?_
  refine QL.run 8 [0, 0] [1, 2, 6, 11, 15] [b_0, b_0] [(1, .pointer (some ⟨b_1, 0, none⟩)), (2, .int .i64 a2), (6, .nilIface), (11, .string a0.s), (15, .int .i64 a0.at_)] (by kernel_rfl) ?_
  obtain ⟨t1, h2, hM⟩ := bind_some hM
  refine QL.val (fun _ => run_sliceS_lo (s := a0.s) (kl := .i64) (l := a0.at_) (by kernel_rfl) (by kernel_rfl) (by kernel_rfl) h2) (by kernel_rfl) (by kernel_rfl) rfl ?_
  refine QL.run 1 [] [1, 2, 6, 7] [] [(1, .pointer (some ⟨b_1, 0, none⟩)), (2, .int .i64 a2), (6, .nilIface), (7, .string t1)] (by kernel_rfl) ?_
  refine QL.done ?_
  refine WP.seq ?_
  refine WP.block ?_
  refine WP.seq ?_
  refine WP.region ?_
  refine WL.run 3 [] [1, 2, 6, 7, 20] (fun _ => [(1, .pointer (some ⟨b_1, 0, none⟩)), (2, .int .i64 a2), (6, .nilIface), (7, .string t1), (20, .bool (a2 == 33024))]) (fun _ => [(b_0, .cells #[.string a0.s, .int .i64 a0.at_] 50 (0, 0)), (b_1, .cells #[.int .u64 a1.Dst, .int .u64 a1.Src, .bool a1.Tag.Has, .int .i64 a1.Tag.Pri, .bool a1.Tag.Dei, .int .i64 a1.Tag.Vid, .int .i64 a1.Type_, .string a1.Body] 26 (0, 0))]) (fun _ => []) (fun _ => by kernel_rfl) (fun _ => ?_)
  refine WL.sub [1, 2, 6, 7, 20] (L' := [(1, .pointer (some ⟨b_1, 0, none⟩)), (2, .int .i64 a2), (6, .nilIface), (7, .string t1), (20, .bool (a2 == 33024))]) (by kernel_rfl) ?_
  refine WL.join (σ := Bool) 7 (fun st => ether_reader_body.k1 a1 a2 t1 st = some r) (fun st => [(1, .pointer (some ⟨b_1, 0, none⟩)), (2, .int .i64 a2), (6, .nilIface), (7, .string t1), (27, .bool st)]) (fun st => Sat w Z [(b_0, .cells #[.string a0.s, .int .i64 a0.at_] 50 (0, 0)), (b_1, .cells #[.int .u64 a1.Dst, .int .u64 a1.Src, .bool a1.Tag.Has, .int .i64 a1.Tag.Pri, .bool a1.Tag.Dei, .int .i64 a1.Tag.Vid, .int .i64 a1.Type_, .string a1.Body] 26 (0, 0))] [] Glob) (fun st hM => ?_) (fun K1 => ?_)
  ·
    obtain ⟨x4, rfl⟩ : ∃ y, y = st := ⟨st, rfl⟩
    replace hM : ether_reader_body.k1 a1 a2 t1 x4 = some r := hM
    unfold ether_reader_body.k1 at hM
    show WL _ _ _ _ _ [(1, .pointer (some ⟨b_1, 0, none⟩)), (2, .int .i64 a2), (6, .nilIface), (7, .string t1), (27, .bool x4)] (Sat w Z [(b_0, .cells #[.string a0.s, .int .i64 a0.at_] 50 (0, 0)), (b_1, .cells #[.int .u64 a1.Dst, .int .u64 a1.Src, .bool a1.Tag.Has, .int .i64 a1.Tag.Pri, .bool a1.Tag.Dei, .int .i64 a1.Tag.Vid, .int .i64 a1.Type_, .string a1.Body] 26 (0, 0))] [] Glob)
    refine WL.run 1 [] [1, 2, 6, 7, 17] (fun _ => [(1, .pointer (some ⟨b_1, 0, none⟩)), (2, .int .i64 a2), (6, .nilIface), (7, .string t1), (17, .bool x4)]) (fun _ => [(b_0, .cells #[.string a0.s, .int .i64 a0.at_] 50 (0, 0)), (b_1, .cells #[.int .u64 a1.Dst, .int .u64 a1.Src, .bool a1.Tag.Has, .int .i64 a1.Tag.Pri, .bool a1.Tag.Dei, .int .i64 a1.Tag.Vid, .int .i64 a1.Type_, .string a1.Body] 26 (0, 0))]) (fun _ => []) (fun _ => by kernel_rfl) (fun _ => ?_)
    refine WP.done ?_
    refine WP.cond x4 rfl rfl (fun c5 => ?_) (fun c5 => ?_)
    · replace hM := cond_t hM c5
      refine WP.seq ?_
      refine WP.run [] [1, 2, 6, 7] (fun _ => [(1, .pointer (some ⟨b_1, 0, none⟩)), (2, .int .i64 a2), (6, .iface 91 (.agg #[.string (⟨#[116, 121, 112, 101]⟩ : ByteArray), .iface 27 (.int .i64 41)])), (7, .string t1)]) (fun _ => [(b_0, .cells #[.string a0.s, .int .i64 a0.at_] 50 (0, 0)), (b_1, .cells #[.int .u64 a1.Dst, .int .u64 a1.Src, .bool a1.Tag.Has, .int .i64 a1.Tag.Pri, .bool a1.Tag.Dei, .int .i64 a1.Tag.Vid, .int .i64 a1.Type_, .string a1.Body] 26 (0, 0))]) (fun _ => []) (fun _ => by kernel_rfl) (fun _ => ?_)
      obtain rfl := Option.some.inj hM
      exact WP.ret [] [] (.iface 91 (.agg #[.string (⟨#[116, 121, 112, 101]⟩ : ByteArray), .iface 27 (.int .i64 41)])) (by kernel_rfl) (fun w' hw => ⟨(), rfl, hw.pick [0, 1] (by kernel_rfl)⟩)
    · replace hM := cond_f hM c5
      refine WP.seq ?_
      refine WP.run [] [1, 2, 6, 7, 31] (fun _ => [(1, .pointer (some ⟨b_1, 0, none⟩)), (2, .int .i64 a2), (6, .nilIface), (7, .string t1), (31, .bool (decide (a2 > 1500)))]) (fun _ => [(b_0, .cells #[.string a0.s, .int .i64 a0.at_] 50 (0, 0)), (b_1, .cells #[.int .u64 a1.Dst, .int .u64 a1.Src, .bool a1.Tag.Has, .int .i64 a1.Tag.Pri, .bool a1.Tag.Dei, .int .i64 a1.Tag.Vid, .int .i64 a1.Type_, .string a1.Body] 26 (0, 0))]) (fun _ => []) (fun _ => by kernel_rfl) (fun _ => ?_)
      refine WP.cond (decide (a2 > 1500)) rfl rfl (fun c6 => ?_) (fun c6 => ?_)
      · replace hM := cond_t hM c6
        refine WP.seq ?_
        refine WP.run [1, 1] [1, 2, 6, 7] (fun _ => [(1, .pointer (some ⟨b_1, 0, none⟩)), (2, .int .i64 a2), (6, .nilIface), (7, .string t1)]) (fun _ => [(b_0, .cells #[.string a0.s, .int .i64 a0.at_] 50 (0, 0)), (b_1, .cells #[.int .u64 a1.Dst, .int .u64 a1.Src, .bool a1.Tag.Has, .int .i64 a1.Tag.Pri, .bool a1.Tag.Dei, .int .i64 a1.Tag.Vid, .int .i64 a2, .string t1] 26 (0, 0))]) (fun _ => [b_1, b_1]) (fun _ => by kernel_rfl) (fun _ => ?_)
        refine WP.seq ?_
        refine WP.run [] [1, 2, 6, 7] (fun _ => [(1, .pointer (some ⟨b_1, 0, none⟩)), (2, .int .i64 a2), (6, .nilIface), (7, .string t1)]) (fun _ => [(b_0, .cells #[.string a0.s, .int .i64 a0.at_] 50 (0, 0)), (b_1, .cells #[.int .u64 a1.Dst, .int .u64 a1.Src, .bool a1.Tag.Has, .int .i64 a1.Tag.Pri, .bool a1.Tag.Dei, .int .i64 a1.Tag.Vid, .int .i64 a2, .string t1] 26 (0, 0))]) (fun _ => []) (fun _ => by kernel_rfl) (fun _ => ?_)
        obtain rfl := Option.some.inj hM
        exact WP.ret [] [] (.nilIface) (by kernel_rfl) (fun w' hw => ⟨(), rfl, hw.pick [0, 1] (by kernel_rfl)⟩)
      · replace hM := cond_f hM c6
        refine WP.skip ?_
        refine WP.leave ?_
        refine WP.seq ?_
        refine WP.seq ?_
        refine WP.run [] [1, 2, 6, 7, 45] (fun _ => [(1, .pointer (some ⟨b_1, 0, none⟩)), (2, .int .i64 a2), (6, .nilIface), (7, .string t1), (45, .bool (decide (a2 > (t1.size : Int))))]) (fun _ => [(b_0, .cells #[.string a0.s, .int .i64 a0.at_] 50 (0, 0)), (b_1, .cells #[.int .u64 a1.Dst, .int .u64 a1.Src, .bool a1.Tag.Has, .int .i64 a1.Tag.Pri, .bool a1.Tag.Dei, .int .i64 a1.Tag.Vid, .int .i64 a1.Type_, .string a1.Body] 26 (0, 0))]) (fun _ => []) (fun _ => by kernel_rfl) (fun _ => ?_)
        refine WP.cond (decide (a2 > (t1.size : Int))) rfl rfl (fun c7 => ?_) (fun c7 => ?_)
        · replace hM := cond_t hM c7
          refine WP.seq ?_
          refine WP.run [] [1, 2, 6, 7] (fun _ => [(1, .pointer (some ⟨b_1, 0, none⟩)), (2, .int .i64 a2), (6, .iface 91 (.agg #[.string (⟨#[98, 111, 100, 121]⟩ : ByteArray), .iface 27 (.int .i64 40)])), (7, .string t1)]) (fun _ => [(b_0, .cells #[.string a0.s, .int .i64 a0.at_] 50 (0, 0)), (b_1, .cells #[.int .u64 a1.Dst, .int .u64 a1.Src, .bool a1.Tag.Has, .int .i64 a1.Tag.Pri, .bool a1.Tag.Dei, .int .i64 a1.Tag.Vid, .int .i64 a1.Type_, .string a1.Body] 26 (0, 0))]) (fun _ => []) (fun _ => by kernel_rfl) (fun _ => ?_)
          obtain rfl := Option.some.inj hM
          exact WP.ret [] [] (.iface 91 (.agg #[.string (⟨#[98, 111, 100, 121]⟩ : ByteArray), .iface 27 (.int .i64 40)])) (by kernel_rfl) (fun w' hw => ⟨(), rfl, hw.pick [0, 1] (by kernel_rfl)⟩)
        · replace hM := cond_f hM c7
          refine WP.skip ?_
          refine WP.seq ?_
          refine WP.region ?_
          refine WL.run 3 [] [6, 49, 50, 51] (fun _ => [(6, .nilIface), (49, .pointer (some ⟨b_1, 0, none⟩)), (50, .string t1), (51, .int .i64 a2)]) (fun _ => [(b_0, .cells #[.string a0.s, .int .i64 a0.at_] 50 (0, 0)), (b_1, .cells #[.int .u64 a1.Dst, .int .u64 a1.Src, .bool a1.Tag.Has, .int .i64 a1.Tag.Pri, .bool a1.Tag.Dei, .int .i64 a1.Tag.Vid, .int .i64 a1.Type_, .string a1.Body] 26 (0, 0))]) (fun _ => []) (fun _ => by kernel_rfl) (fun _ => ?_)
          obtain ⟨t8, h9, hM⟩ := bind_some hM
          refine WL.val (fun _ => run_sliceS_hi (s := t1) (kh := .i64) (h := a2) (by kernel_rfl) (by kernel_rfl) (by kernel_rfl) h9) (by kernel_rfl) (by kernel_rfl) rfl ?_
          refine WL.run 3 [1] [6] (fun _ => [(6, .nilIface)]) (fun _ => [(b_0, .cells #[.string a0.s, .int .i64 a0.at_] 50 (0, 0)), (b_1, .cells #[.int .u64 a1.Dst, .int .u64 a1.Src, .bool a1.Tag.Has, .int .i64 a1.Tag.Pri, .bool a1.Tag.Dei, .int .i64 a1.Tag.Vid, .int .i64 a1.Type_, .string t8] 26 (0, 0))]) (fun _ => [b_1]) (fun _ => by kernel_rfl) (fun _ => ?_)
          refine WP.done ?_
          refine WP.seq ?_
          refine WP.run [] [6] (fun _ => [(6, .nilIface)]) (fun _ => [(b_0, .cells #[.string a0.s, .int .i64 a0.at_] 50 (0, 0)), (b_1, .cells #[.int .u64 a1.Dst, .int .u64 a1.Src, .bool a1.Tag.Has, .int .i64 a1.Tag.Pri, .bool a1.Tag.Dei, .int .i64 a1.Tag.Vid, .int .i64 a1.Type_, .string t8] 26 (0, 0))]) (fun _ => []) (fun _ => by kernel_rfl) (fun _ => ?_)
          obtain rfl := Option.some.inj hM
          exact WP.ret [] [] (.nilIface) (by kernel_rfl) (fun w' hw => ⟨(), rfl, hw.pick [0, 1] (by kernel_rfl)⟩)
  ·
    refine WL.split (fun b' => [(1, .pointer (some ⟨b_1, 0, none⟩)), (2, .int .i64 a2), (6, .nilIface), (7, .string t1), (20, .bool b')]) (a2 == 33024) (fun c3 => ?_) (fun c3 => ?_)
    · replace hM := cond_t hM c3
      refine WL.run 7 [] [1, 2, 6, 7, 27] (fun _ => [(1, .pointer (some ⟨b_1, 0, none⟩)), (2, .int .i64 a2), (6, .nilIface), (7, .string t1), (27, .bool true)]) (fun _ => [(b_0, .cells #[.string a0.s, .int .i64 a0.at_] 50 (0, 0)), (b_1, .cells #[.int .u64 a1.Dst, .int .u64 a1.Src, .bool a1.Tag.Has, .int .i64 a1.Tag.Pri, .bool a1.Tag.Dei, .int .i64 a1.Tag.Vid, .int .i64 a1.Type_, .string a1.Body] 26 (0, 0))]) (fun _ => []) (fun _ => by kernel_rfl) (fun _ => ?_)
      exact WL.sub [1, 2, 6, 7, 27] (by kernel_rfl) (WL.pick [0, 1] (by kernel_rfl) (by kernel_rfl) (K1 true hM))
    · replace hM := cond_f hM c3
      refine WL.run 3 [] [1, 2, 6, 7, 20, 23] (fun _ => [(1, .pointer (some ⟨b_1, 0, none⟩)), (2, .int .i64 a2), (6, .nilIface), (7, .string t1), (20, .bool false), (23, .bool (decide (a2 > 1500)))]) (fun _ => [(b_0, .cells #[.string a0.s, .int .i64 a0.at_] 50 (0, 0)), (b_1, .cells #[.int .u64 a1.Dst, .int .u64 a1.Src, .bool a1.Tag.Has, .int .i64 a1.Tag.Pri, .bool a1.Tag.Dei, .int .i64 a1.Tag.Vid, .int .i64 a1.Type_, .string a1.Body] 26 (0, 0))]) (fun _ => []) (fun _ => by kernel_rfl) (fun _ => ?_)
      refine WL.sub [1, 2, 6, 7, 20, 23] (L' := [(1, .pointer (some ⟨b_1, 0, none⟩)), (2, .int .i64 a2), (6, .nilIface), (7, .string t1), (20, .bool false), (23, .bool (decide (a2 > 1500)))]) (by kernel_rfl) ?_
      refine WL.both (fun b' => [(1, .pointer (some ⟨b_1, 0, none⟩)), (2, .int .i64 a2), (6, .nilIface), (7, .string t1), (20, .bool false), (23, .bool b')]) (decide (a2 > 1500)) 3 [] [] [1, 2, 6, 7, 20, 26] (fun b' => [(1, .pointer (some ⟨b_1, 0, none⟩)), (2, .int .i64 a2), (6, .nilIface), (7, .string t1), (20, .bool false), (26, .bool (b' && (decide (a2 < 1536))))]) [] [] (fun _ => by kernel_rfl) (fun _ => by kernel_rfl) ?_
      refine WL.run 1 [] [1, 2, 6, 7, 27] (fun _ => [(1, .pointer (some ⟨b_1, 0, none⟩)), (2, .int .i64 a2), (6, .nilIface), (7, .string t1), (27, .bool ((decide (a2 > 1500)) && (decide (a2 < 1536))))]) (fun _ => [(b_0, .cells #[.string a0.s, .int .i64 a0.at_] 50 (0, 0)), (b_1, .cells #[.int .u64 a1.Dst, .int .u64 a1.Src, .bool a1.Tag.Has, .int .i64 a1.Tag.Pri, .bool a1.Tag.Dei, .int .i64 a1.Tag.Vid, .int .i64 a1.Type_, .string a1.Body] 26 (0, 0))]) (fun _ => []) (fun _ => by kernel_rfl) (fun _ => ?_)
      exact WL.sub [1, 2, 6, 7, 27] (by kernel_rfl) (WL.pick [0, 1] (by kernel_rfl) (by kernel_rfl) (K1 ((decide (a2 > 1500)) && (decide (a2 < 1536))) hM))

end Go.Proofs.YtefbjefmclhhjaaDoor

namespace Go.Proofs.YtefbjefmclhhjaaDoor
open Go Eng
set_option linter.unusedVariables false
set_option linter.unusedSimpArgs false

/-! ### (*gangway/ether.reader).frame: function 23 -/
def ether_reader_frame.k1 (x29 : Un1) (x30 : Int) (x31 : ByteArray) (x32 : Int) (x33 : Int) (x34 : Int) (x35 : Bool) (x36 : Int) (x37 : Bool) (x38 : Int) (x39 : Int) (x40 : ByteArray) : Option (api_Frame × Un1 × ether_reader) :=
  match x29 with
  | none =>
    (ether_reader_body.f (ether_reader.mk x31 x32) (api_Frame.mk x33 x34 (api_Tag.mk x35 x36 x37 x38) x39 x40) x30).bind fun (r43, r44) =>
    match r43 with
    | none =>
      some (r44, none, (ether_reader.mk x31 x32))
    | some (q46, q47) =>
      some (r44, some (q46, q47), (ether_reader.mk x31 x32))
  | some (q41, q42) =>
    some ((api_Frame.mk x33 x34 (api_Tag.mk x35 x36 x37 x38) x39 x40), some (q41, q42), (ether_reader.mk x31 x32))

def ether_reader_frame.f (k : Nat) (a0 : ether_reader) : Option (api_Frame × Un1 × ether_reader) :=
  (ether_reader_get.f k a0 6 (⟨#[116, 111]⟩ : ByteArray)).bind fun (r3, r4, r5) =>
  match r4 with
  | none =>
    (ether_reader_get.f k r5 6 (⟨#[102, 114, 111, 109]⟩ : ByteArray)).bind fun (r9, r10, r11) =>
    match r10 with
    | none =>
      (ether_reader_get.f k r11 2 (⟨#[116, 121, 112, 101]⟩ : ByteArray)).bind fun (r15, r16, r17) =>
      match r16 with
      | none =>
        bif ((i64 r15) == 33024) then
          (ether_reader_tagged.f k r17 (api_Frame.mk r3 r9 (api_Tag.mk false 0 false 0) 0 (⟨#[]⟩ : ByteArray))).bind fun (r20, r21, r22, r23) =>
          match r21 with
          | none =>
            ether_reader_frame.k1 none r20 r22.s r22.at_ r23.Dst r23.Src r23.Tag.Has r23.Tag.Pri r23.Tag.Dei r23.Tag.Vid r23.Type_ r23.Body
          | some (q27, q28) =>
            ether_reader_frame.k1 (some (q27, q28)) r20 r22.s r22.at_ r23.Dst r23.Src r23.Tag.Has r23.Tag.Pri r23.Tag.Dei r23.Tag.Vid r23.Type_ r23.Body
        else
          ether_reader_frame.k1 none (i64 r15) r17.s r17.at_ r3 r9 false 0 false 0 0 (⟨#[]⟩ : ByteArray)
      | some (q25, q26) =>
        ether_reader_frame.k1 (some (q25, q26)) (i64 r15) r17.s r17.at_ r3 r9 false 0 false 0 0 (⟨#[]⟩ : ByteArray)
    | some (q13, q14) =>
      some ((api_Frame.mk r3 r9 (api_Tag.mk false 0 false 0) 0 (⟨#[]⟩ : ByteArray)), some (q13, q14), r11)
  | some (q7, q8) =>
    some ((api_Frame.mk r3 0 (api_Tag.mk false 0 false 0) 0 (⟨#[]⟩ : ByteArray)), some (q7, q8), r5)

set_option maxRecDepth 100000 in
theorem ether_reader_frame_calls (k : Nat) (b_0 : Nat) (a0 : ether_reader) (r : api_Frame × Un1 × ether_reader) (h : ether_reader_frame.f k a0 = some r) : Does Tryd.prog 23 #[.pointer (some ⟨b_0, 0, none⟩)] [(b_0, .cells #[.string a0.s, .int .i64 a0.at_] 50 (0, 0))] Glob (fun _ : Unit => .tuple #[.agg #[.int .u64 r.1.Dst, .int .u64 r.1.Src, .bool r.1.Tag.Has, .int .i64 r.1.Tag.Pri, .bool r.1.Tag.Dei, .int .i64 r.1.Tag.Vid, .int .i64 r.1.Type_, .string r.1.Body], Un1.v r.2.1]) (fun _ => [(b_0, .cells #[.string r.2.2.s, .int .i64 r.2.2.at_] 50 (0, 0))]) (fun _ => []) (fun _ => Glob) := by
  intro w Z hS
  refine calls_of (args := [.pointer (some ⟨b_0, 0, none⟩)]) (L := [(0, .pointer (some ⟨b_0, 0, none⟩))]) (N := 56) (S := Sat w Z [(b_0, .cells #[.string a0.s, .int .i64 a0.at_] 50 (0, 0))] [] Glob) Tryd.func23 rfl rfl (Nat.le_of_ble_eq_true rfl) rfl hS ?_
  have hM := h
  clear h hS
  unfold ether_reader_frame.f at hM
  refine WP.seq ?_
  refine WP.run [] [0, 2, 3] (fun b1 => [(0, .pointer (some ⟨b_0, 0, none⟩)), (2, .pointer (some ⟨b1, 0, none⟩)), (3, .nilIface)]) (fun b1 => [(b_0, .cells #[.string a0.s, .int .i64 a0.at_] 50 (0, 0)), (b1, .cells #[.int .u64 0, .int .u64 0, .bool false, .int .i64 0, .bool false, .int .i64 0, .int .i64 0, .string (⟨#[]⟩ : ByteArray)] 26 (0, 0))]) (fun b1 => []) (fun b1 => by kernel_rfl) (fun b1 => ?_)
  refine WP.seq ?_
  refine WP.run [] [0, 2, 3, 4] (fun b2 => [(0, .pointer (some ⟨b_0, 0, none⟩)), (2, .pointer (some ⟨b1, 0, none⟩)), (3, .nilIface), (4, .pointer (some ⟨b2, 0, none⟩))]) (fun b2 => [(b_0, .cells #[.string a0.s, .int .i64 a0.at_] 50 (0, 0)), (b1, .cells #[.int .u64 0, .int .u64 0, .bool false, .int .i64 0, .bool false, .int .i64 0, .int .i64 0, .string (⟨#[]⟩ : ByteArray)] 26 (0, 0)), (b2, .cells #[.int .u64 0, .int .u64 0, .bool false, .int .i64 0, .bool false, .int .i64 0, .int .i64 0, .string (⟨#[]⟩ : ByteArray)] 26 (0, 0))]) (fun b2 => []) (fun b2 => by kernel_rfl) (fun b2 => ?_)
  refine WP.seq ?_
  refine WP.run [] [0, 2, 3, 4, 5] (fun _ => [(0, .pointer (some ⟨b_0, 0, none⟩)), (2, .pointer (some ⟨b1, 0, none⟩)), (3, .nilIface), (4, .pointer (some ⟨b2, 0, none⟩)), (5, .nilIface)]) (fun _ => [(b_0, .cells #[.string a0.s, .int .i64 a0.at_] 50 (0, 0)), (b1, .cells #[.int .u64 0, .int .u64 0, .bool false, .int .i64 0, .bool false, .int .i64 0, .int .i64 0, .string (⟨#[]⟩ : ByteArray)] 26 (0, 0)), (b2, .cells #[.int .u64 0, .int .u64 0, .bool false, .int .i64 0, .bool false, .int .i64 0, .int .i64 0, .string (⟨#[]⟩ : ByteArray)] 26 (0, 0))]) (fun _ => []) (fun _ => by kernel_rfl) (fun _ => ?_)
  refine WP.seq ?_
  refine WP.seq ?_
  refine WP.region ?_
  refine WL.run 1 [] [0, 2, 3, 4, 5, 10] (fun _ => [(0, .pointer (some ⟨b_0, 0, none⟩)), (2, .pointer (some ⟨b1, 0, none⟩)), (3, .nilIface), (4, .pointer (some ⟨b2, 0, none⟩)), (5, .nilIface), (10, .pointer (some ⟨b_0, 0, none⟩))]) (fun _ => [(b_0, .cells #[.string a0.s, .int .i64 a0.at_] 50 (0, 0)), (b1, .cells #[.int .u64 0, .int .u64 0, .bool false, .int .i64 0, .bool false, .int .i64 0, .int .i64 0, .string (⟨#[]⟩ : ByteArray)] 26 (0, 0)), (b2, .cells #[.int .u64 0, .int .u64 0, .bool false, .int .i64 0, .bool false, .int .i64 0, .int .i64 0, .string (⟨#[]⟩ : ByteArray)] 26 (0, 0))]) (fun _ => []) (fun _ => by kernel_rfl) (fun _ => ?_)
  obtain ⟨⟨r3, r4, r5⟩, h6, hM⟩ := bind_some hM
  dsimp only at hM
  refine WL.callE (X := Unit) [] [] [true, false, false] (fun _ => _) (ether_reader_get_calls k b_0 a0 6 (⟨#[116, 111]⟩ : ByteArray) _ h6) rfl rfl (fun _ h => h) (by kernel_rfl) (by kernel_rfl) (fun _ => rfl) (fun _ => ?_)
  refine WL.run 6 [2] [0, 2, 3, 4, 5] (fun _ => [(0, .pointer (some ⟨b_0, 0, none⟩)), (2, .pointer (some ⟨b1, 0, none⟩)), (3, .nilIface), (4, .pointer (some ⟨b2, 0, none⟩)), (5, Un1.v r4)]) (fun _ => [(b_0, .cells #[.string r5.s, .int .i64 r5.at_] 50 (0, 0)), (b1, .cells #[.int .u64 0, .int .u64 0, .bool false, .int .i64 0, .bool false, .int .i64 0, .int .i64 0, .string (⟨#[]⟩ : ByteArray)] 26 (0, 0)), (b2, .cells #[.int .u64 r3, .int .u64 0, .bool false, .int .i64 0, .bool false, .int .i64 0, .int .i64 0, .string (⟨#[]⟩ : ByteArray)] 26 (0, 0))]) (fun _ => [b2]) (fun _ => by kernel_rfl) (fun _ => ?_)
  refine WP.done ?_
  refine WP.seq ?_
  refine WP.region ?_
  refine WL.run 1 [] [0, 2, 3, 4, 5, 15] (fun _ => [(0, .pointer (some ⟨b_0, 0, none⟩)), (2, .pointer (some ⟨b1, 0, none⟩)), (3, .nilIface), (4, .pointer (some ⟨b2, 0, none⟩)), (5, Un1.v r4), (15, Un1.v r4)]) (fun _ => [(b_0, .cells #[.string r5.s, .int .i64 r5.at_] 50 (0, 0)), (b1, .cells #[.int .u64 0, .int .u64 0, .bool false, .int .i64 0, .bool false, .int .i64 0, .int .i64 0, .string (⟨#[]⟩ : ByteArray)] 26 (0, 0)), (b2, .cells #[.int .u64 r3, .int .u64 0, .bool false, .int .i64 0, .bool false, .int .i64 0, .int .i64 0, .string (⟨#[]⟩ : ByteArray)] 26 (0, 0))]) (fun _ => []) (fun _ => by kernel_rfl) (fun _ => ?_)
  rcases r4 with _ | ⟨q7, q8⟩
  · dsimp only at hM
    refine WL.run 1 [] [0, 2, 3, 4, 5, 16] (fun _ => [(0, .pointer (some ⟨b_0, 0, none⟩)), (2, .pointer (some ⟨b1, 0, none⟩)), (3, .nilIface), (4, .pointer (some ⟨b2, 0, none⟩)), (5, .nilIface), (16, .bool false)]) (fun _ => [(b_0, .cells #[.string r5.s, .int .i64 r5.at_] 50 (0, 0)), (b1, .cells #[.int .u64 0, .int .u64 0, .bool false, .int .i64 0, .bool false, .int .i64 0, .int .i64 0, .string (⟨#[]⟩ : ByteArray)] 26 (0, 0)), (b2, .cells #[.int .u64 r3, .int .u64 0, .bool false, .int .i64 0, .bool false, .int .i64 0, .int .i64 0, .string (⟨#[]⟩ : ByteArray)] 26 (0, 0))]) (fun _ => []) (fun _ => by kernel_rfl) (fun _ => ?_)
    refine WP.done ?_
    refine WP.no rfl rfl ?_
    refine WP.skip ?_
    refine WP.seq ?_
    refine WP.seq ?_
    refine WP.region ?_
    refine WL.run 1 [] [0, 2, 3, 4, 5, 20] (fun _ => [(0, .pointer (some ⟨b_0, 0, none⟩)), (2, .pointer (some ⟨b1, 0, none⟩)), (3, .nilIface), (4, .pointer (some ⟨b2, 0, none⟩)), (5, .nilIface), (20, .pointer (some ⟨b_0, 0, none⟩))]) (fun _ => [(b_0, .cells #[.string r5.s, .int .i64 r5.at_] 50 (0, 0)), (b1, .cells #[.int .u64 0, .int .u64 0, .bool false, .int .i64 0, .bool false, .int .i64 0, .int .i64 0, .string (⟨#[]⟩ : ByteArray)] 26 (0, 0)), (b2, .cells #[.int .u64 r3, .int .u64 0, .bool false, .int .i64 0, .bool false, .int .i64 0, .int .i64 0, .string (⟨#[]⟩ : ByteArray)] 26 (0, 0))]) (fun _ => []) (fun _ => by kernel_rfl) (fun _ => ?_)
    obtain ⟨⟨r9, r10, r11⟩, h12, hM⟩ := bind_some hM
    dsimp only at hM
    refine WL.callE (X := Unit) [] [] [true, false, false] (fun _ => _) (ether_reader_get_calls k b_0 r5 6 (⟨#[102, 114, 111, 109]⟩ : ByteArray) _ h12) rfl rfl (fun _ h => h) (by kernel_rfl) (by kernel_rfl) (fun _ => rfl) (fun _ => ?_)
    refine WL.run 6 [2] [0, 2, 3, 4, 5] (fun _ => [(0, .pointer (some ⟨b_0, 0, none⟩)), (2, .pointer (some ⟨b1, 0, none⟩)), (3, .nilIface), (4, .pointer (some ⟨b2, 0, none⟩)), (5, Un1.v r10)]) (fun _ => [(b_0, .cells #[.string r11.s, .int .i64 r11.at_] 50 (0, 0)), (b1, .cells #[.int .u64 0, .int .u64 0, .bool false, .int .i64 0, .bool false, .int .i64 0, .int .i64 0, .string (⟨#[]⟩ : ByteArray)] 26 (0, 0)), (b2, .cells #[.int .u64 r3, .int .u64 r9, .bool false, .int .i64 0, .bool false, .int .i64 0, .int .i64 0, .string (⟨#[]⟩ : ByteArray)] 26 (0, 0))]) (fun _ => [b2]) (fun _ => by kernel_rfl) (fun _ => ?_)
    refine WP.done ?_
    refine WP.seq ?_
    refine WP.region ?_
    refine WL.run 1 [] [0, 2, 3, 4, 5, 25] (fun _ => [(0, .pointer (some ⟨b_0, 0, none⟩)), (2, .pointer (some ⟨b1, 0, none⟩)), (3, .nilIface), (4, .pointer (some ⟨b2, 0, none⟩)), (5, Un1.v r10), (25, Un1.v r10)]) (fun _ => [(b_0, .cells #[.string r11.s, .int .i64 r11.at_] 50 (0, 0)), (b1, .cells #[.int .u64 0, .int .u64 0, .bool false, .int .i64 0, .bool false, .int .i64 0, .int .i64 0, .string (⟨#[]⟩ : ByteArray)] 26 (0, 0)), (b2, .cells #[.int .u64 r3, .int .u64 r9, .bool false, .int .i64 0, .bool false, .int .i64 0, .int .i64 0, .string (⟨#[]⟩ : ByteArray)] 26 (0, 0))]) (fun _ => []) (fun _ => by kernel_rfl) (fun _ => ?_)
    rcases r10 with _ | ⟨q13, q14⟩
    · dsimp only at hM
      refine WL.run 1 [] [0, 2, 3, 4, 5, 26] (fun _ => [(0, .pointer (some ⟨b_0, 0, none⟩)), (2, .pointer (some ⟨b1, 0, none⟩)), (3, .nilIface), (4, .pointer (some ⟨b2, 0, none⟩)), (5, .nilIface), (26, .bool false)]) (fun _ => [(b_0, .cells #[.string r11.s, .int .i64 r11.at_] 50 (0, 0)), (b1, .cells #[.int .u64 0, .int .u64 0, .bool false, .int .i64 0, .bool false, .int .i64 0, .int .i64 0, .string (⟨#[]⟩ : ByteArray)] 26 (0, 0)), (b2, .cells #[.int .u64 r3, .int .u64 r9, .bool false, .int .i64 0, .bool false, .int .i64 0, .int .i64 0, .string (⟨#[]⟩ : ByteArray)] 26 (0, 0))]) (fun _ => []) (fun _ => by kernel_rfl) (fun _ => ?_)
      refine WP.done ?_
      refine WP.no rfl rfl ?_
      refine WP.skip ?_
      refine WP.seq ?_
      refine WP.region ?_
      refine WL.run 1 [] [0, 2, 3, 4, 5, 30] (fun _ => [(0, .pointer (some ⟨b_0, 0, none⟩)), (2, .pointer (some ⟨b1, 0, none⟩)), (3, .nilIface), (4, .pointer (some ⟨b2, 0, none⟩)), (5, .nilIface), (30, .pointer (some ⟨b_0, 0, none⟩))]) (fun _ => [(b_0, .cells #[.string r11.s, .int .i64 r11.at_] 50 (0, 0)), (b1, .cells #[.int .u64 0, .int .u64 0, .bool false, .int .i64 0, .bool false, .int .i64 0, .int .i64 0, .string (⟨#[]⟩ : ByteArray)] 26 (0, 0)), (b2, .cells #[.int .u64 r3, .int .u64 r9, .bool false, .int .i64 0, .bool false, .int .i64 0, .int .i64 0, .string (⟨#[]⟩ : ByteArray)] 26 (0, 0))]) (fun _ => []) (fun _ => by kernel_rfl) (fun _ => ?_)
      obtain ⟨⟨r15, r16, r17⟩, h18, hM⟩ := bind_some hM
      dsimp only at hM
      refine WL.callE (X := Unit) [] [] [true, false, false] (fun _ => _) (ether_reader_get_calls k b_0 r11 2 (⟨#[116, 121, 112, 101]⟩ : ByteArray) _ h18) rfl rfl (fun _ h => h) (by kernel_rfl) (by kernel_rfl) (fun _ => rfl) (fun _ => ?_)
      refine WL.run 5 [] [0, 2, 3, 4, 5, 6] (fun _ => [(0, .pointer (some ⟨b_0, 0, none⟩)), (2, .pointer (some ⟨b1, 0, none⟩)), (3, .nilIface), (4, .pointer (some ⟨b2, 0, none⟩)), (5, Un1.v r16), (6, .int .u64 r15)]) (fun _ => [(b_0, .cells #[.string r17.s, .int .i64 r17.at_] 50 (0, 0)), (b1, .cells #[.int .u64 0, .int .u64 0, .bool false, .int .i64 0, .bool false, .int .i64 0, .int .i64 0, .string (⟨#[]⟩ : ByteArray)] 26 (0, 0)), (b2, .cells #[.int .u64 r3, .int .u64 r9, .bool false, .int .i64 0, .bool false, .int .i64 0, .int .i64 0, .string (⟨#[]⟩ : ByteArray)] 26 (0, 0))]) (fun _ => []) (fun _ => by kernel_rfl) (fun _ => ?_)
      refine WP.done ?_
      refine WP.seq ?_
      refine WP.run [] [0, 2, 3, 4, 5, 7] (fun _ => [(0, .pointer (some ⟨b_0, 0, none⟩)), (2, .pointer (some ⟨b1, 0, none⟩)), (3, .nilIface), (4, .pointer (some ⟨b2, 0, none⟩)), (5, Un1.v r16), (7, .int .i64 (i64 r15))]) (fun _ => [(b_0, .cells #[.string r17.s, .int .i64 r17.at_] 50 (0, 0)), (b1, .cells #[.int .u64 0, .int .u64 0, .bool false, .int .i64 0, .bool false, .int .i64 0, .int .i64 0, .string (⟨#[]⟩ : ByteArray)] 26 (0, 0)), (b2, .cells #[.int .u64 r3, .int .u64 r9, .bool false, .int .i64 0, .bool false, .int .i64 0, .int .i64 0, .string (⟨#[]⟩ : ByteArray)] 26 (0, 0))]) (fun _ => []) (fun _ => by kernel_rfl) (fun _ => ?_)
      refine WP.seqJoin (σ := Un1 × Int × ByteArray × Int × Int × Int × Bool × Int × Bool × Int × Int × ByteArray) (fun st => ether_reader_frame.k1 st.1 st.2.1 st.2.2.1 st.2.2.2.1 st.2.2.2.2.1 st.2.2.2.2.2.1 st.2.2.2.2.2.2.1 st.2.2.2.2.2.2.2.1 st.2.2.2.2.2.2.2.2.1 st.2.2.2.2.2.2.2.2.2.1 st.2.2.2.2.2.2.2.2.2.2.1 st.2.2.2.2.2.2.2.2.2.2.2 = some r) (fun st => [(0, .pointer (some ⟨b_0, 0, none⟩)), (2, .pointer (some ⟨b1, 0, none⟩)), (3, .nilIface), (4, .pointer (some ⟨b2, 0, none⟩)), (5, Un1.v st.1), (7, .int .i64 st.2.1)]) (fun st => Sat w Z [(b_0, .cells #[.string st.2.2.1, .int .i64 st.2.2.2.1] 50 (0, 0)), (b2, .cells #[.int .u64 st.2.2.2.2.1, .int .u64 st.2.2.2.2.2.1, .bool st.2.2.2.2.2.2.1, .int .i64 st.2.2.2.2.2.2.2.1, .bool st.2.2.2.2.2.2.2.2.1, .int .i64 st.2.2.2.2.2.2.2.2.2.1, .int .i64 st.2.2.2.2.2.2.2.2.2.2.1, .string st.2.2.2.2.2.2.2.2.2.2.2] 26 (0, 0)), (b1, .cells #[.int .u64 0, .int .u64 0, .bool false, .int .i64 0, .bool false, .int .i64 0, .int .i64 0, .string (⟨#[]⟩ : ByteArray)] 26 (0, 0))] [] Glob) (fun st hM => ?_) (fun K1 => ?_)
      ·
        obtain ⟨x29, x30, x31, x32, x33, x34, x35, x36, x37, x38, x39, x40⟩ := st
        replace hM : ether_reader_frame.k1 x29 x30 x31 x32 x33 x34 x35 x36 x37 x38 x39 x40 = some r := hM
        unfold ether_reader_frame.k1 at hM
        show WP _ _ _ _ _ [(0, .pointer (some ⟨b_0, 0, none⟩)), (2, .pointer (some ⟨b1, 0, none⟩)), (3, .nilIface), (4, .pointer (some ⟨b2, 0, none⟩)), (5, Un1.v x29), (7, .int .i64 x30)] (Sat w Z [(b_0, .cells #[.string x31, .int .i64 x32] 50 (0, 0)), (b2, .cells #[.int .u64 x33, .int .u64 x34, .bool x35, .int .i64 x36, .bool x37, .int .i64 x38, .int .i64 x39, .string x40] 26 (0, 0)), (b1, .cells #[.int .u64 0, .int .u64 0, .bool false, .int .i64 0, .bool false, .int .i64 0, .int .i64 0, .string (⟨#[]⟩ : ByteArray)] 26 (0, 0))] [] Glob)
        refine WP.seq ?_
        refine WP.seq ?_
        refine WP.region ?_
        refine WL.run 1 [] [0, 2, 3, 4, 5, 7, 47] (fun _ => [(0, .pointer (some ⟨b_0, 0, none⟩)), (2, .pointer (some ⟨b1, 0, none⟩)), (3, .nilIface), (4, .pointer (some ⟨b2, 0, none⟩)), (5, Un1.v x29), (7, .int .i64 x30), (47, Un1.v x29)]) (fun _ => [(b_0, .cells #[.string x31, .int .i64 x32] 50 (0, 0)), (b2, .cells #[.int .u64 x33, .int .u64 x34, .bool x35, .int .i64 x36, .bool x37, .int .i64 x38, .int .i64 x39, .string x40] 26 (0, 0)), (b1, .cells #[.int .u64 0, .int .u64 0, .bool false, .int .i64 0, .bool false, .int .i64 0, .int .i64 0, .string (⟨#[]⟩ : ByteArray)] 26 (0, 0))]) (fun _ => []) (fun _ => by kernel_rfl) (fun _ => ?_)
        rcases x29 with _ | ⟨q41, q42⟩
        · dsimp only at hM
          refine WL.run 1 [] [0, 2, 3, 4, 5, 7, 48] (fun _ => [(0, .pointer (some ⟨b_0, 0, none⟩)), (2, .pointer (some ⟨b1, 0, none⟩)), (3, .nilIface), (4, .pointer (some ⟨b2, 0, none⟩)), (5, .nilIface), (7, .int .i64 x30), (48, .bool false)]) (fun _ => [(b_0, .cells #[.string x31, .int .i64 x32] 50 (0, 0)), (b2, .cells #[.int .u64 x33, .int .u64 x34, .bool x35, .int .i64 x36, .bool x37, .int .i64 x38, .int .i64 x39, .string x40] 26 (0, 0)), (b1, .cells #[.int .u64 0, .int .u64 0, .bool false, .int .i64 0, .bool false, .int .i64 0, .int .i64 0, .string (⟨#[]⟩ : ByteArray)] 26 (0, 0))]) (fun _ => []) (fun _ => by kernel_rfl) (fun _ => ?_)
          refine WP.done ?_
          refine WP.no rfl rfl ?_
          refine WP.skip ?_
          refine WP.seq ?_
          refine WP.region ?_
          refine WL.run 2 [] [2, 3, 4, 51, 52] (fun _ => [(2, .pointer (some ⟨b1, 0, none⟩)), (3, .nilIface), (4, .pointer (some ⟨b2, 0, none⟩)), (51, .pointer (some ⟨b_0, 0, none⟩)), (52, .int .i64 x30)]) (fun _ => [(b_0, .cells #[.string x31, .int .i64 x32] 50 (0, 0)), (b2, .cells #[.int .u64 x33, .int .u64 x34, .bool x35, .int .i64 x36, .bool x37, .int .i64 x38, .int .i64 x39, .string x40] 26 (0, 0)), (b1, .cells #[.int .u64 0, .int .u64 0, .bool false, .int .i64 0, .bool false, .int .i64 0, .int .i64 0, .string (⟨#[]⟩ : ByteArray)] 26 (0, 0))]) (fun _ => []) (fun _ => by kernel_rfl) (fun _ => ?_)
          obtain ⟨⟨r43, r44⟩, h45, hM⟩ := bind_some hM
          dsimp only at hM
          refine WL.callE (X := Unit) [] [] [true, true, false] (fun _ => _) (ether_reader_body_calls b_0 b2 (ether_reader.mk x31 x32) (api_Frame.mk x33 x34 (api_Tag.mk x35 x36 x37 x38) x39 x40) x30 _ h45) rfl rfl (fun _ h => h) (by kernel_rfl) (by kernel_rfl) (fun _ => rfl) (fun _ => ?_)
          refine WL.run 1 [] [2, 3, 4, 8] (fun _ => [(2, .pointer (some ⟨b1, 0, none⟩)), (3, .nilIface), (4, .pointer (some ⟨b2, 0, none⟩)), (8, Un1.v r43)]) (fun _ => [(b_0, .cells #[.string x31, .int .i64 x32] 50 (0, 0)), (b2, .cells #[.int .u64 r44.Dst, .int .u64 r44.Src, .bool r44.Tag.Has, .int .i64 r44.Tag.Pri, .bool r44.Tag.Dei, .int .i64 r44.Tag.Vid, .int .i64 r44.Type_, .string r44.Body] 26 (0, 0)), (b1, .cells #[.int .u64 0, .int .u64 0, .bool false, .int .i64 0, .bool false, .int .i64 0, .int .i64 0, .string (⟨#[]⟩ : ByteArray)] 26 (0, 0))]) (fun _ => []) (fun _ => by kernel_rfl) (fun _ => ?_)
          refine WP.done ?_
          refine WP.seq ?_
          refine WP.run [1, 1, 1, 1, 1, 1, 1, 1, 2, 2, 2, 2, 2, 2, 2, 2] [2, 3] (fun _ => [(2, .pointer (some ⟨b1, 0, none⟩)), (3, Un1.v r43)]) (fun _ => [(b_0, .cells #[.string x31, .int .i64 x32] 50 (0, 0)), (b2, .cells #[.int .u64 r44.Dst, .int .u64 r44.Src, .bool r44.Tag.Has, .int .i64 r44.Tag.Pri, .bool r44.Tag.Dei, .int .i64 r44.Tag.Vid, .int .i64 r44.Type_, .string r44.Body] 26 (0, 0)), (b1, .cells #[.int .u64 r44.Dst, .int .u64 r44.Src, .bool r44.Tag.Has, .int .i64 r44.Tag.Pri, .bool r44.Tag.Dei, .int .i64 r44.Tag.Vid, .int .i64 r44.Type_, .string r44.Body] 26 (0, 0))]) (fun _ => [b1, b1, b1, b1, b1, b1, b1, b1, b2, b2, b2, b2, b2, b2, b2, b2]) (fun _ => by kernel_rfl) (fun _ => ?_)
          refine WP.keep [true, false, true] (by kernel_rfl : _ = [(b_0, .cells #[.string x31, .int .i64 x32] 50 (0, 0)), (b1, .cells #[.int .u64 r44.Dst, .int .u64 r44.Src, .bool r44.Tag.Has, .int .i64 r44.Tag.Pri, .bool r44.Tag.Dei, .int .i64 r44.Tag.Vid, .int .i64 r44.Type_, .string r44.Body] 26 (0, 0))]) ?_
          rcases r43 with _ | ⟨q46, q47⟩
          · dsimp only at hM
            obtain rfl := Option.some.inj hM
            exact WP.ret [1, 1, 1, 1, 1, 1, 1, 1] [b1, b1, b1, b1, b1, b1, b1, b1] (.tuple #[.agg #[.int .u64 r44.Dst, .int .u64 r44.Src, .bool r44.Tag.Has, .int .i64 r44.Tag.Pri, .bool r44.Tag.Dei, .int .i64 r44.Tag.Vid, .int .i64 r44.Type_, .string r44.Body], .nilIface]) (by kernel_rfl) (fun w' hw => ⟨(), rfl, hw.pick [0] (by kernel_rfl)⟩)
          · dsimp only at hM
            obtain rfl := Option.some.inj hM
            exact WP.ret [1, 1, 1, 1, 1, 1, 1, 1] [b1, b1, b1, b1, b1, b1, b1, b1] (.tuple #[.agg #[.int .u64 r44.Dst, .int .u64 r44.Src, .bool r44.Tag.Has, .int .i64 r44.Tag.Pri, .bool r44.Tag.Dei, .int .i64 r44.Tag.Vid, .int .i64 r44.Type_, .string r44.Body], .iface 91 (.agg #[.string q46, .iface 27 (.int .i64 q47)])]) (by kernel_rfl) (fun w' hw => ⟨(), rfl, hw.pick [0] (by kernel_rfl)⟩)
        · dsimp only at hM
          refine WL.run 1 [] [0, 2, 3, 4, 5, 7, 48] (fun _ => [(0, .pointer (some ⟨b_0, 0, none⟩)), (2, .pointer (some ⟨b1, 0, none⟩)), (3, .nilIface), (4, .pointer (some ⟨b2, 0, none⟩)), (5, .iface 91 (.agg #[.string q41, .iface 27 (.int .i64 q42)])), (7, .int .i64 x30), (48, .bool true)]) (fun _ => [(b_0, .cells #[.string x31, .int .i64 x32] 50 (0, 0)), (b2, .cells #[.int .u64 x33, .int .u64 x34, .bool x35, .int .i64 x36, .bool x37, .int .i64 x38, .int .i64 x39, .string x40] 26 (0, 0)), (b1, .cells #[.int .u64 0, .int .u64 0, .bool false, .int .i64 0, .bool false, .int .i64 0, .int .i64 0, .string (⟨#[]⟩ : ByteArray)] 26 (0, 0))]) (fun _ => []) (fun _ => by kernel_rfl) (fun _ => ?_)
          refine WP.done ?_
          refine WP.yes rfl rfl ?_
          refine WP.seq ?_
          refine WP.run [1, 1, 1, 1, 1, 1, 1, 1, 2, 2, 2, 2, 2, 2, 2, 2] [0, 2, 3, 4, 7] (fun _ => [(0, .pointer (some ⟨b_0, 0, none⟩)), (2, .pointer (some ⟨b1, 0, none⟩)), (3, .iface 91 (.agg #[.string q41, .iface 27 (.int .i64 q42)])), (4, .pointer (some ⟨b2, 0, none⟩)), (7, .int .i64 x30)]) (fun _ => [(b_0, .cells #[.string x31, .int .i64 x32] 50 (0, 0)), (b2, .cells #[.int .u64 x33, .int .u64 x34, .bool x35, .int .i64 x36, .bool x37, .int .i64 x38, .int .i64 x39, .string x40] 26 (0, 0)), (b1, .cells #[.int .u64 x33, .int .u64 x34, .bool x35, .int .i64 x36, .bool x37, .int .i64 x38, .int .i64 x39, .string x40] 26 (0, 0))]) (fun _ => [b1, b1, b1, b1, b1, b1, b1, b1, b2, b2, b2, b2, b2, b2, b2, b2]) (fun _ => by kernel_rfl) (fun _ => ?_)
          obtain rfl := Option.some.inj hM
          exact WP.ret [2, 2, 2, 2, 2, 2, 2, 2] [b1, b1, b1, b1, b1, b1, b1, b1] (.tuple #[.agg #[.int .u64 x33, .int .u64 x34, .bool x35, .int .i64 x36, .bool x37, .int .i64 x38, .int .i64 x39, .string x40], .iface 91 (.agg #[.string q41, .iface 27 (.int .i64 q42)])]) (by kernel_rfl) (fun w' hw => ⟨(), rfl, hw.pick [0] (by kernel_rfl)⟩)
      ·
        refine WP.seq ?_
        refine WP.region ?_
        refine WL.run 1 [] [0, 2, 3, 4, 5, 7, 36] (fun _ => [(0, .pointer (some ⟨b_0, 0, none⟩)), (2, .pointer (some ⟨b1, 0, none⟩)), (3, .nilIface), (4, .pointer (some ⟨b2, 0, none⟩)), (5, Un1.v r16), (7, .int .i64 (i64 r15)), (36, Un1.v r16)]) (fun _ => [(b_0, .cells #[.string r17.s, .int .i64 r17.at_] 50 (0, 0)), (b1, .cells #[.int .u64 0, .int .u64 0, .bool false, .int .i64 0, .bool false, .int .i64 0, .int .i64 0, .string (⟨#[]⟩ : ByteArray)] 26 (0, 0)), (b2, .cells #[.int .u64 r3, .int .u64 r9, .bool false, .int .i64 0, .bool false, .int .i64 0, .int .i64 0, .string (⟨#[]⟩ : ByteArray)] 26 (0, 0))]) (fun _ => []) (fun _ => by kernel_rfl) (fun _ => ?_)
        rcases r16 with _ | ⟨q25, q26⟩
        · dsimp only at hM
          refine WL.run 5 [] [0, 2, 3, 4, 5, 7, 41] (fun _ => [(0, .pointer (some ⟨b_0, 0, none⟩)), (2, .pointer (some ⟨b1, 0, none⟩)), (3, .nilIface), (4, .pointer (some ⟨b2, 0, none⟩)), (5, .nilIface), (7, .int .i64 (i64 r15)), (41, .bool ((i64 r15) == 33024))]) (fun _ => [(b_0, .cells #[.string r17.s, .int .i64 r17.at_] 50 (0, 0)), (b1, .cells #[.int .u64 0, .int .u64 0, .bool false, .int .i64 0, .bool false, .int .i64 0, .int .i64 0, .string (⟨#[]⟩ : ByteArray)] 26 (0, 0)), (b2, .cells #[.int .u64 r3, .int .u64 r9, .bool false, .int .i64 0, .bool false, .int .i64 0, .int .i64 0, .string (⟨#[]⟩ : ByteArray)] 26 (0, 0))]) (fun _ => []) (fun _ => by kernel_rfl) (fun _ => ?_)
          refine WP.done ?_
          refine WP.cond ((i64 r15) == 33024) rfl rfl (fun c19 => ?_) (fun c19 => ?_)
          · replace hM := cond_t hM c19
            refine WP.region ?_
            refine WL.run 1 [] [0, 2, 3, 4, 5, 7, 43] (fun _ => [(0, .pointer (some ⟨b_0, 0, none⟩)), (2, .pointer (some ⟨b1, 0, none⟩)), (3, .nilIface), (4, .pointer (some ⟨b2, 0, none⟩)), (5, .nilIface), (7, .int .i64 (i64 r15)), (43, .pointer (some ⟨b_0, 0, none⟩))]) (fun _ => [(b_0, .cells #[.string r17.s, .int .i64 r17.at_] 50 (0, 0)), (b1, .cells #[.int .u64 0, .int .u64 0, .bool false, .int .i64 0, .bool false, .int .i64 0, .int .i64 0, .string (⟨#[]⟩ : ByteArray)] 26 (0, 0)), (b2, .cells #[.int .u64 r3, .int .u64 r9, .bool false, .int .i64 0, .bool false, .int .i64 0, .int .i64 0, .string (⟨#[]⟩ : ByteArray)] 26 (0, 0))]) (fun _ => []) (fun _ => by kernel_rfl) (fun _ => ?_)
            obtain ⟨⟨r20, r21, r22, r23⟩, h24, hM⟩ := bind_some hM
            dsimp only at hM
            refine WL.callE (X := Unit) [] [] [true, false, true] (fun _ => _) (ether_reader_tagged_calls k b_0 b2 r17 (api_Frame.mk r3 r9 (api_Tag.mk false 0 false 0) 0 (⟨#[]⟩ : ByteArray)) _ h24) rfl rfl (fun _ h => h) (by kernel_rfl) (by kernel_rfl) (fun _ => rfl) (fun _ => ?_)
            refine WL.run 5 [] [0, 2, 3, 4, 5, 7] (fun _ => [(0, .pointer (some ⟨b_0, 0, none⟩)), (2, .pointer (some ⟨b1, 0, none⟩)), (3, .nilIface), (4, .pointer (some ⟨b2, 0, none⟩)), (5, Un1.v r21), (7, .int .i64 r20)]) (fun _ => [(b_0, .cells #[.string r22.s, .int .i64 r22.at_] 50 (0, 0)), (b2, .cells #[.int .u64 r23.Dst, .int .u64 r23.Src, .bool r23.Tag.Has, .int .i64 r23.Tag.Pri, .bool r23.Tag.Dei, .int .i64 r23.Tag.Vid, .int .i64 r23.Type_, .string r23.Body] 26 (0, 0)), (b1, .cells #[.int .u64 0, .int .u64 0, .bool false, .int .i64 0, .bool false, .int .i64 0, .int .i64 0, .string (⟨#[]⟩ : ByteArray)] 26 (0, 0))]) (fun _ => []) (fun _ => by kernel_rfl) (fun _ => ?_)
            refine WP.done ?_
            rcases r21 with _ | ⟨q27, q28⟩
            · dsimp only at hM
              exact WP.sub [0, 2, 3, 4, 5, 7] (by kernel_rfl) (WP.pick [0, 1, 2] (by kernel_rfl) (by kernel_rfl) (K1 (none, r20, r22.s, r22.at_, r23.Dst, r23.Src, r23.Tag.Has, r23.Tag.Pri, r23.Tag.Dei, r23.Tag.Vid, r23.Type_, r23.Body) hM))
            · dsimp only at hM
              exact WP.sub [0, 2, 3, 4, 5, 7] (by kernel_rfl) (WP.pick [0, 1, 2] (by kernel_rfl) (by kernel_rfl) (K1 (some (q27, q28), r20, r22.s, r22.at_, r23.Dst, r23.Src, r23.Tag.Has, r23.Tag.Pri, r23.Tag.Dei, r23.Tag.Vid, r23.Type_, r23.Body) hM))
          · replace hM := cond_f hM c19
            refine WP.skip ?_
            exact WP.sub [0, 2, 3, 4, 5, 7] (by kernel_rfl) (WP.pick [0, 2, 1] (by kernel_rfl) (by kernel_rfl) (K1 (none, i64 r15, r17.s, r17.at_, r3, r9, false, 0, false, 0, 0, (⟨#[]⟩ : ByteArray)) hM))
        · dsimp only at hM
          refine WL.run 5 [] [0, 2, 3, 4, 5, 7, 41] (fun _ => [(0, .pointer (some ⟨b_0, 0, none⟩)), (2, .pointer (some ⟨b1, 0, none⟩)), (3, .nilIface), (4, .pointer (some ⟨b2, 0, none⟩)), (5, .iface 91 (.agg #[.string q25, .iface 27 (.int .i64 q26)])), (7, .int .i64 (i64 r15)), (41, .bool false)]) (fun _ => [(b_0, .cells #[.string r17.s, .int .i64 r17.at_] 50 (0, 0)), (b1, .cells #[.int .u64 0, .int .u64 0, .bool false, .int .i64 0, .bool false, .int .i64 0, .int .i64 0, .string (⟨#[]⟩ : ByteArray)] 26 (0, 0)), (b2, .cells #[.int .u64 r3, .int .u64 r9, .bool false, .int .i64 0, .bool false, .int .i64 0, .int .i64 0, .string (⟨#[]⟩ : ByteArray)] 26 (0, 0))]) (fun _ => []) (fun _ => by kernel_rfl) (fun _ => ?_)
          refine WP.done ?_
          refine WP.no rfl rfl ?_
          refine WP.skip ?_
          exact WP.sub [0, 2, 3, 4, 5, 7] (by kernel_rfl) (WP.pick [0, 2, 1] (by kernel_rfl) (by kernel_rfl) (K1 (some (q25, q26), i64 r15, r17.s, r17.at_, r3, r9, false, 0, false, 0, 0, (⟨#[]⟩ : ByteArray)) hM))
    · dsimp only at hM
      refine WL.run 1 [] [0, 2, 3, 4, 5, 26] (fun _ => [(0, .pointer (some ⟨b_0, 0, none⟩)), (2, .pointer (some ⟨b1, 0, none⟩)), (3, .nilIface), (4, .pointer (some ⟨b2, 0, none⟩)), (5, .iface 91 (.agg #[.string q13, .iface 27 (.int .i64 q14)])), (26, .bool true)]) (fun _ => [(b_0, .cells #[.string r11.s, .int .i64 r11.at_] 50 (0, 0)), (b1, .cells #[.int .u64 0, .int .u64 0, .bool false, .int .i64 0, .bool false, .int .i64 0, .int .i64 0, .string (⟨#[]⟩ : ByteArray)] 26 (0, 0)), (b2, .cells #[.int .u64 r3, .int .u64 r9, .bool false, .int .i64 0, .bool false, .int .i64 0, .int .i64 0, .string (⟨#[]⟩ : ByteArray)] 26 (0, 0))]) (fun _ => []) (fun _ => by kernel_rfl) (fun _ => ?_)
      refine WP.done ?_
      refine WP.yes rfl rfl ?_
      refine WP.seq ?_
      refine WP.run [2, 2, 2, 2, 2, 2, 2, 2, 1, 1, 1, 1, 1, 1, 1, 1] [0, 2, 3, 4, 5] (fun _ => [(0, .pointer (some ⟨b_0, 0, none⟩)), (2, .pointer (some ⟨b1, 0, none⟩)), (3, .iface 91 (.agg #[.string q13, .iface 27 (.int .i64 q14)])), (4, .pointer (some ⟨b2, 0, none⟩)), (5, .iface 91 (.agg #[.string q13, .iface 27 (.int .i64 q14)]))]) (fun _ => [(b_0, .cells #[.string r11.s, .int .i64 r11.at_] 50 (0, 0)), (b1, .cells #[.int .u64 r3, .int .u64 r9, .bool false, .int .i64 0, .bool false, .int .i64 0, .int .i64 0, .string (⟨#[]⟩ : ByteArray)] 26 (0, 0)), (b2, .cells #[.int .u64 r3, .int .u64 r9, .bool false, .int .i64 0, .bool false, .int .i64 0, .int .i64 0, .string (⟨#[]⟩ : ByteArray)] 26 (0, 0))]) (fun _ => [b1, b1, b1, b1, b1, b1, b1, b1, b2, b2, b2, b2, b2, b2, b2, b2]) (fun _ => by kernel_rfl) (fun _ => ?_)
      obtain rfl := Option.some.inj hM
      exact WP.ret [1, 1, 1, 1, 1, 1, 1, 1] [b1, b1, b1, b1, b1, b1, b1, b1] (.tuple #[.agg #[.int .u64 r3, .int .u64 r9, .bool false, .int .i64 0, .bool false, .int .i64 0, .int .i64 0, .string (⟨#[]⟩ : ByteArray)], .iface 91 (.agg #[.string q13, .iface 27 (.int .i64 q14)])]) (by kernel_rfl) (fun w' hw => ⟨(), rfl, hw.pick [0] (by kernel_rfl)⟩)
  · dsimp only at hM
    refine WL.run 1 [] [0, 2, 3, 4, 5, 16] (fun _ => [(0, .pointer (some ⟨b_0, 0, none⟩)), (2, .pointer (some ⟨b1, 0, none⟩)), (3, .nilIface), (4, .pointer (some ⟨b2, 0, none⟩)), (5, .iface 91 (.agg #[.string q7, .iface 27 (.int .i64 q8)])), (16, .bool true)]) (fun _ => [(b_0, .cells #[.string r5.s, .int .i64 r5.at_] 50 (0, 0)), (b1, .cells #[.int .u64 0, .int .u64 0, .bool false, .int .i64 0, .bool false, .int .i64 0, .int .i64 0, .string (⟨#[]⟩ : ByteArray)] 26 (0, 0)), (b2, .cells #[.int .u64 r3, .int .u64 0, .bool false, .int .i64 0, .bool false, .int .i64 0, .int .i64 0, .string (⟨#[]⟩ : ByteArray)] 26 (0, 0))]) (fun _ => []) (fun _ => by kernel_rfl) (fun _ => ?_)
    refine WP.done ?_
    refine WP.yes rfl rfl ?_
    refine WP.seq ?_
    refine WP.run [2, 2, 2, 2, 2, 2, 2, 2, 1, 1, 1, 1, 1, 1, 1, 1] [0, 2, 3, 4, 5] (fun _ => [(0, .pointer (some ⟨b_0, 0, none⟩)), (2, .pointer (some ⟨b1, 0, none⟩)), (3, .iface 91 (.agg #[.string q7, .iface 27 (.int .i64 q8)])), (4, .pointer (some ⟨b2, 0, none⟩)), (5, .iface 91 (.agg #[.string q7, .iface 27 (.int .i64 q8)]))]) (fun _ => [(b_0, .cells #[.string r5.s, .int .i64 r5.at_] 50 (0, 0)), (b1, .cells #[.int .u64 r3, .int .u64 0, .bool false, .int .i64 0, .bool false, .int .i64 0, .int .i64 0, .string (⟨#[]⟩ : ByteArray)] 26 (0, 0)), (b2, .cells #[.int .u64 r3, .int .u64 0, .bool false, .int .i64 0, .bool false, .int .i64 0, .int .i64 0, .string (⟨#[]⟩ : ByteArray)] 26 (0, 0))]) (fun _ => [b1, b1, b1, b1, b1, b1, b1, b1, b2, b2, b2, b2, b2, b2, b2, b2]) (fun _ => by kernel_rfl) (fun _ => ?_)
    obtain rfl := Option.some.inj hM
    exact WP.ret [1, 1, 1, 1, 1, 1, 1, 1] [b1, b1, b1, b1, b1, b1, b1, b1] (.tuple #[.agg #[.int .u64 r3, .int .u64 0, .bool false, .int .i64 0, .bool false, .int .i64 0, .int .i64 0, .string (⟨#[]⟩ : ByteArray)], .iface 91 (.agg #[.string q7, .iface 27 (.int .i64 q8)])]) (by kernel_rfl) (fun w' hw => ⟨(), rfl, hw.pick [0] (by kernel_rfl)⟩)

end Go.Proofs.YtefbjefmclhhjaaDoor

namespace Go.Proofs.YtefbjefmclhhjaaDoor
open Go Eng
set_option linter.unusedVariables false
set_option linter.unusedSimpArgs false

/-! ### errors.Is: function 24 -/
def errors_Is.f (a1 : Int) : Option (Bool) :=
  some false

set_option maxRecDepth 100000 in
theorem errors_Is_calls (a1 : Int) (r : Bool) (h : errors_Is.f a1 = some r) : Pure Tryd.prog Glob 24 #[.nilIface, .iface 27 (.int .i64 a1)] (.bool r) := by
  intro w Z hS
  refine calls_of (args := [.nilIface, .iface 27 (.int .i64 a1)]) (L := [(0, .nilIface), (1, .iface 27 (.int .i64 a1))]) (N := 22) (S := Sat w Z [] [] Glob) Tryd.func24 rfl rfl (Nat.le_of_ble_eq_true rfl) rfl hS ?_
  have hM := h
  clear h hS
  unfold errors_Is.f at hM
  refine WP.seq ?_
  refine WP.run [] [0, 1, 4] (fun _ => [(0, .nilIface), (1, .iface 27 (.int .i64 a1)), (4, .bool false)]) (fun _ => []) (fun _ => []) (fun _ => by kernel_rfl) (fun _ => ?_)
  refine WP.seq ?_
  refine WP.seq ?_
  refine WP.run [] [0, 1, 4, 11] (fun _ => [(0, .nilIface), (1, .iface 27 (.int .i64 a1)), (4, .bool false), (11, .bool true)]) (fun _ => []) (fun _ => []) (fun _ => by kernel_rfl) (fun _ => ?_)
  refine WP.yes rfl rfl ?_
  refine WP.seq ?_
  refine WP.run [] [0, 1, 4] (fun _ => [(0, .nilIface), (1, .iface 27 (.int .i64 a1)), (4, .bool false)]) (fun _ => []) (fun _ => []) (fun _ => by kernel_rfl) (fun _ => ?_)
  obtain rfl := Option.some.inj hM
  exact WP.ret [] [] (.bool false) (by kernel_rfl) (fun w' hw => ⟨rfl, hw.pick [] rfl⟩)

end Go.Proofs.YtefbjefmclhhjaaDoor

namespace Go.Proofs.YtefbjefmclhhjaaDoor
open Go Eng
set_option linter.unusedVariables false
set_option linter.unusedSimpArgs false

/-! ### (gangway/ether.odd).Unwrap: function 84 -/
def ether_odd_Unwrap.f (a0 : ByteArray) (a0_1 : Int) : Option (Int) :=
  some a0_1

set_option maxRecDepth 100000 in
theorem ether_odd_Unwrap_calls (a0 : ByteArray) (a0_1 : Int) (r : Int) (h : ether_odd_Unwrap.f a0 a0_1 = some r) : Pure Tryd.prog Glob 84 #[.agg #[.string a0, .iface 27 (.int .i64 a0_1)]] (.iface 27 (.int .i64 r)) := by
  intro w Z hS
  refine calls_of (args := [.agg #[.string a0, .iface 27 (.int .i64 a0_1)]]) (L := [(0, .agg #[.string a0, .iface 27 (.int .i64 a0_1)])]) (N := 5) (S := Sat w Z [] [] Glob) Tryd.func84 rfl rfl (Nat.le_of_ble_eq_true rfl) rfl hS ?_
  have hM := h
  clear h hS
  unfold ether_odd_Unwrap.f at hM
  refine WP.seq ?_
  refine WP.run [] [1, 2] (fun b1 => [(1, .pointer (some ⟨b1, 0, none⟩)), (2, .nilIface)]) (fun b1 => [(b1, .cells #[.string a0, .iface 27 (.int .i64 a0_1)] 91 (0, 0))]) (fun b1 => []) (fun b1 => by kernel_rfl) (fun b1 => ?_)
  refine WP.seq ?_
  refine WP.run [0] [2] (fun _ => [(2, .iface 27 (.int .i64 a0_1))]) (fun _ => [(b1, .cells #[.string a0, .iface 27 (.int .i64 a0_1)] 91 (0, 0))]) (fun _ => [b1]) (fun _ => by kernel_rfl) (fun _ => ?_)
  refine WP.keep [false] (by kernel_rfl : _ = []) ?_
  obtain rfl := Option.some.inj hM
  exact WP.ret [] [] (.iface 27 (.int .i64 a0_1)) (by kernel_rfl) (fun w' hw => ⟨rfl, hw.pick [] rfl⟩)

end Go.Proofs.YtefbjefmclhhjaaDoor

namespace Go.Proofs.YtefbjefmclhhjaaDoor
open Go Eng
set_option linter.unusedVariables false
set_option linter.unusedSimpArgs false

/-! ### errors.is: function 44 -/
def errors_is.f (a0 : ByteArray) (a0_1 : Int) (a1 : Int) (a2 : Bool) : Option (Bool) :=
  (ether_odd_Unwrap.f a0 a0_1).bind fun r2 =>
  bif (a2 && (r2 == a1)) then
    some true
  else
    some false

set_option maxRecDepth 100000 in
theorem errors_is_calls (a0 : ByteArray) (a0_1 : Int) (a1 : Int) (a2 : Bool) (r : Bool) (h : errors_is.f a0 a0_1 a1 a2 = some r) : Pure Tryd.prog Glob 44 #[.iface 91 (.agg #[.string a0, .iface 27 (.int .i64 a0_1)]), .iface 27 (.int .i64 a1), .bool a2] (.bool r) := by
  intro w Z hS
  refine calls_of (args := [.iface 91 (.agg #[.string a0, .iface 27 (.int .i64 a0_1)]), .iface 27 (.int .i64 a1), .bool a2]) (L := [(0, .iface 91 (.agg #[.string a0, .iface 27 (.int .i64 a0_1)])), (1, .iface 27 (.int .i64 a1)), (2, .bool a2)]) (N := 54) (S := Sat w Z [] [] Glob) Tryd.func44 rfl rfl (Nat.le_of_ble_eq_true rfl) rfl hS ?_
  have hM := h
  clear h hS
  unfold errors_is.f at hM
  refine WP.seq ?_
  refine WP.run [] [0, 1, 2, 6] (fun _ => [(0, .iface 91 (.agg #[.string a0, .iface 27 (.int .i64 a0_1)])), (1, .iface 27 (.int .i64 a1)), (2, .bool a2), (6, .bool false)]) (fun _ => []) (fun _ => []) (fun _ => by kernel_rfl) (fun _ => ?_)
  refine WP.block ?_
  refine WP.unroll 40 ?_
  refine WP.block ?_
  refine WP.seq ?_
  refine WP.seq ?_
  refine WP.region ?_
  refine WL.run 2 [] [0, 1, 2, 6, 14, 15] (fun _ => [(0, .iface 91 (.agg #[.string a0, .iface 27 (.int .i64 a0_1)])), (1, .iface 27 (.int .i64 a1)), (2, .bool a2), (6, .bool false), (14, .bool a2), (15, .bool a2)]) (fun _ => []) (fun _ => []) (fun _ => by kernel_rfl) (fun _ => ?_)
  refine WL.sub [0, 1, 2, 6, 14, 15] (L' := [(0, .iface 91 (.agg #[.string a0, .iface 27 (.int .i64 a0_1)])), (1, .iface 27 (.int .i64 a1)), (2, .bool a2), (6, .bool false), (14, .bool a2), (15, .bool a2)]) (by kernel_rfl) ?_
  refine WL.both (fun b' => [(0, .iface 91 (.agg #[.string a0, .iface 27 (.int .i64 a0_1)])), (1, .iface 27 (.int .i64 a1)), (2, .bool a2), (6, .bool false), (14, .bool a2), (15, .bool b')]) a2 4 [] [] [0, 1, 2, 6, 14, 15, 19] (fun b' => [(0, .iface 91 (.agg #[.string a0, .iface 27 (.int .i64 a0_1)])), (1, .iface 27 (.int .i64 a1)), (2, .bool a2), (6, .bool false), (14, .bool a2), (15, .bool b'), (19, .bool false)]) [] [] (fun _ => by kernel_rfl) (fun _ => by kernel_rfl) ?_
  refine WP.done ?_
  refine WP.no rfl rfl ?_
  refine WP.skip ?_
  refine WP.seq ?_
  refine WP.seq ?_
  refine WP.region ?_
  refine WL.run 1 [] [0, 1, 2, 6, 14, 15, 19, 21] (fun _ => [(0, .iface 91 (.agg #[.string a0, .iface 27 (.int .i64 a0_1)])), (1, .iface 27 (.int .i64 a1)), (2, .bool a2), (6, .bool false), (14, .bool a2), (15, .bool a2), (19, .bool false), (21, .iface 91 (.agg #[.string a0, .iface 27 (.int .i64 a0_1)]))]) (fun _ => []) (fun _ => []) (fun _ => by kernel_rfl) (fun _ => ?_)
  refine WL.val (fun _ => run_assertLacks (t := 91) (v := .agg #[.string a0, .iface 27 (.int .i64 a0_1)]) (z := .nilIface) (by kernel_rfl) (by kernel_rfl) (by kernel_rfl)) (by kernel_rfl) (by kernel_rfl) rfl ?_
  refine WL.run 5 [] [0, 1, 2, 6, 7, 8, 14, 15, 19, 20, 21, 22, 23, 24] (fun _ => [(0, .iface 91 (.agg #[.string a0, .iface 27 (.int .i64 a0_1)])), (1, .iface 27 (.int .i64 a1)), (2, .bool a2), (6, .bool false), (7, .nilIface), (8, .bool false), (14, .bool a2), (15, .bool a2), (19, .bool false), (20, .tuple #[.nilIface, .bool false]), (21, .iface 91 (.agg #[.string a0, .iface 27 (.int .i64 a0_1)])), (22, .tuple #[.nilIface, .bool false]), (23, .nilIface), (24, .bool false)]) (fun _ => []) (fun _ => []) (fun _ => by kernel_rfl) (fun _ => ?_)
  refine WP.done ?_
  refine WP.seq ?_
  refine WP.run [] [0, 1, 2, 6, 7, 8, 14, 15, 19, 20, 21, 22, 23, 24, 25, 26, 27, 28, 29, 30] (fun _ => [(0, .iface 91 (.agg #[.string a0, .iface 27 (.int .i64 a0_1)])), (1, .iface 27 (.int .i64 a1)), (2, .bool a2), (6, .bool false), (7, .nilIface), (8, .bool false), (14, .bool a2), (15, .bool a2), (19, .bool false), (20, .tuple #[.nilIface, .bool false]), (21, .iface 91 (.agg #[.string a0, .iface 27 (.int .i64 a0_1)])), (22, .tuple #[.nilIface, .bool false]), (23, .nilIface), (24, .bool false), (25, .bool false), (26, .bool false), (27, .tuple #[]), (28, .tuple #[]), (29, .tuple #[]), (30, .bool false)]) (fun _ => []) (fun _ => []) (fun _ => by kernel_rfl) (fun _ => ?_)
  refine WP.no rfl rfl ?_
  refine WP.skip ?_
  refine WP.seq ?_
  refine WP.run [] [0, 1, 2, 6, 7, 8, 14, 15, 19, 20, 21, 22, 23, 24, 25, 26, 27, 28, 29, 30, 31] (fun _ => [(0, .iface 91 (.agg #[.string a0, .iface 27 (.int .i64 a0_1)])), (1, .iface 27 (.int .i64 a1)), (2, .bool a2), (6, .bool false), (7, .nilIface), (8, .bool false), (14, .bool a2), (15, .bool a2), (19, .bool false), (20, .tuple #[.nilIface, .bool false]), (21, .iface 91 (.agg #[.string a0, .iface 27 (.int .i64 a0_1)])), (22, .tuple #[.nilIface, .bool false]), (23, .nilIface), (24, .bool false), (25, .bool false), (26, .bool false), (27, .tuple #[]), (28, .tuple #[]), (29, .tuple #[]), (30, .bool false), (31, .iface 91 (.agg #[.string a0, .iface 27 (.int .i64 a0_1)]))]) (fun _ => []) (fun _ => []) (fun _ => by kernel_rfl) (fun _ => ?_)
  refine WP.block ?_
  refine WP.seq ?_
  refine WP.region ?_
  refine WL.val (fun _ => run_assertHas (t := 91) (v := .agg #[.string a0, .iface 27 (.int .i64 a0_1)]) (by kernel_rfl) (by kernel_rfl)) (by kernel_rfl) (by kernel_rfl) rfl ?_
  refine WL.run 2 [] [0, 1, 2, 6, 7, 8, 14, 15, 19, 20, 21, 22, 23, 24, 25, 26, 27, 28, 29, 30, 31, 32, 33, 34] (fun _ => [(0, .iface 91 (.agg #[.string a0, .iface 27 (.int .i64 a0_1)])), (1, .iface 27 (.int .i64 a1)), (2, .bool a2), (6, .bool false), (7, .nilIface), (8, .bool false), (14, .bool a2), (15, .bool a2), (19, .bool false), (20, .tuple #[.nilIface, .bool false]), (21, .iface 91 (.agg #[.string a0, .iface 27 (.int .i64 a0_1)])), (22, .tuple #[.nilIface, .bool false]), (23, .nilIface), (24, .bool false), (25, .bool false), (26, .bool false), (27, .tuple #[]), (28, .tuple #[]), (29, .tuple #[]), (30, .bool false), (31, .iface 91 (.agg #[.string a0, .iface 27 (.int .i64 a0_1)])), (32, .tuple #[.iface 91 (.agg #[.string a0, .iface 27 (.int .i64 a0_1)]), .bool true]), (33, .bool true), (34, .iface 91 (.agg #[.string a0, .iface 27 (.int .i64 a0_1)]))]) (fun _ => []) (fun _ => []) (fun _ => by kernel_rfl) (fun _ => ?_)
  refine WP.done ?_
  refine WP.yes rfl rfl ?_
  refine WP.seq ?_
  refine WP.run [] [0, 1, 2, 6, 7, 8, 9, 14, 15, 19, 20, 21, 22, 23, 24, 25, 26, 27, 28, 29, 30, 31, 32, 33, 34] (fun _ => [(0, .iface 91 (.agg #[.string a0, .iface 27 (.int .i64 a0_1)])), (1, .iface 27 (.int .i64 a1)), (2, .bool a2), (6, .bool false), (7, .nilIface), (8, .bool false), (9, .iface 91 (.agg #[.string a0, .iface 27 (.int .i64 a0_1)])), (14, .bool a2), (15, .bool a2), (19, .bool false), (20, .tuple #[.nilIface, .bool false]), (21, .iface 91 (.agg #[.string a0, .iface 27 (.int .i64 a0_1)])), (22, .tuple #[.nilIface, .bool false]), (23, .nilIface), (24, .bool false), (25, .bool false), (26, .bool false), (27, .tuple #[]), (28, .tuple #[]), (29, .tuple #[]), (30, .bool false), (31, .iface 91 (.agg #[.string a0, .iface 27 (.int .i64 a0_1)])), (32, .tuple #[.iface 91 (.agg #[.string a0, .iface 27 (.int .i64 a0_1)]), .bool true]), (33, .bool true), (34, .iface 91 (.agg #[.string a0, .iface 27 (.int .i64 a0_1)]))]) (fun _ => []) (fun _ => []) (fun _ => by kernel_rfl) (fun _ => ?_)
  refine WP.seq ?_
  refine WP.region ?_
  refine WL.run 1 [] [0, 1, 2, 6, 7, 8, 9, 14, 15, 19, 20, 21, 22, 23, 24, 25, 26, 27, 28, 29, 30, 31, 32, 33, 34, 35] (fun _ => [(0, .iface 91 (.agg #[.string a0, .iface 27 (.int .i64 a0_1)])), (1, .iface 27 (.int .i64 a1)), (2, .bool a2), (6, .bool false), (7, .nilIface), (8, .bool false), (9, .iface 91 (.agg #[.string a0, .iface 27 (.int .i64 a0_1)])), (14, .bool a2), (15, .bool a2), (19, .bool false), (20, .tuple #[.nilIface, .bool false]), (21, .iface 91 (.agg #[.string a0, .iface 27 (.int .i64 a0_1)])), (22, .tuple #[.nilIface, .bool false]), (23, .nilIface), (24, .bool false), (25, .bool false), (26, .bool false), (27, .tuple #[]), (28, .tuple #[]), (29, .tuple #[]), (30, .bool false), (31, .iface 91 (.agg #[.string a0, .iface 27 (.int .i64 a0_1)])), (32, .tuple #[.iface 91 (.agg #[.string a0, .iface 27 (.int .i64 a0_1)]), .bool true]), (33, .bool true), (34, .iface 91 (.agg #[.string a0, .iface 27 (.int .i64 a0_1)])), (35, .iface 91 (.agg #[.string a0, .iface 27 (.int .i64 a0_1)]))]) (fun _ => []) (fun _ => []) (fun _ => by kernel_rfl) (fun _ => ?_)
  obtain ⟨r2, h3, hM⟩ := bind_some hM
  refine WL.callP [] [] (ether_odd_Unwrap_calls a0 a0_1 _ h3) (fun _ h => h) (by kernel_rfl) (by kernel_rfl) rfl ?_
  refine WL.run 1 [] [0, 1, 2, 6, 7, 8, 9, 14, 15, 19, 20, 21, 22, 23, 24, 25, 26, 27, 28, 29, 30, 31, 32, 33, 34, 35, 36] (fun _ => [(0, .iface 27 (.int .i64 r2)), (1, .iface 27 (.int .i64 a1)), (2, .bool a2), (6, .bool false), (7, .nilIface), (8, .bool false), (9, .iface 91 (.agg #[.string a0, .iface 27 (.int .i64 a0_1)])), (14, .bool a2), (15, .bool a2), (19, .bool false), (20, .tuple #[.nilIface, .bool false]), (21, .iface 91 (.agg #[.string a0, .iface 27 (.int .i64 a0_1)])), (22, .tuple #[.nilIface, .bool false]), (23, .nilIface), (24, .bool false), (25, .bool false), (26, .bool false), (27, .tuple #[]), (28, .tuple #[]), (29, .tuple #[]), (30, .bool false), (31, .iface 91 (.agg #[.string a0, .iface 27 (.int .i64 a0_1)])), (32, .tuple #[.iface 91 (.agg #[.string a0, .iface 27 (.int .i64 a0_1)]), .bool true]), (33, .bool true), (34, .iface 91 (.agg #[.string a0, .iface 27 (.int .i64 a0_1)])), (35, .iface 91 (.agg #[.string a0, .iface 27 (.int .i64 a0_1)])), (36, .iface 27 (.int .i64 r2))]) (fun _ => []) (fun _ => []) (fun _ => by kernel_rfl) (fun _ => ?_)
  refine WP.done ?_
  refine WP.seq ?_
  refine WP.run [] [0, 1, 2, 6, 7, 8, 9, 14, 15, 19, 20, 21, 22, 23, 24, 25, 26, 27, 28, 29, 30, 31, 32, 33, 34, 35, 36, 37, 38] (fun _ => [(0, .iface 27 (.int .i64 r2)), (1, .iface 27 (.int .i64 a1)), (2, .bool a2), (6, .bool false), (7, .nilIface), (8, .bool false), (9, .iface 91 (.agg #[.string a0, .iface 27 (.int .i64 a0_1)])), (14, .bool a2), (15, .bool a2), (19, .bool false), (20, .tuple #[.nilIface, .bool false]), (21, .iface 91 (.agg #[.string a0, .iface 27 (.int .i64 a0_1)])), (22, .tuple #[.nilIface, .bool false]), (23, .nilIface), (24, .bool false), (25, .bool false), (26, .bool false), (27, .tuple #[]), (28, .tuple #[]), (29, .tuple #[]), (30, .bool false), (31, .iface 91 (.agg #[.string a0, .iface 27 (.int .i64 a0_1)])), (32, .tuple #[.iface 91 (.agg #[.string a0, .iface 27 (.int .i64 a0_1)]), .bool true]), (33, .bool true), (34, .iface 91 (.agg #[.string a0, .iface 27 (.int .i64 a0_1)])), (35, .iface 91 (.agg #[.string a0, .iface 27 (.int .i64 a0_1)])), (36, .iface 27 (.int .i64 r2)), (37, .iface 27 (.int .i64 r2)), (38, .bool false)]) (fun _ => []) (fun _ => []) (fun _ => by kernel_rfl) (fun _ => ?_)
  refine WP.no rfl rfl ?_
  refine WP.skip ?_
  refine WP.leave ?_
  refine WP.leave ?_
  refine WP.round ?_
  refine WP.block ?_
  refine WP.seq ?_
  refine WP.seq ?_
  refine WP.region ?_
  refine WL.run 2 [] [0, 1, 2, 6, 7, 8, 9, 14, 15, 19, 20, 21, 22, 23, 24, 25, 26, 27, 28, 29, 30, 31, 32, 33, 34, 35, 36, 37, 38] (fun _ => [(0, .iface 27 (.int .i64 r2)), (1, .iface 27 (.int .i64 a1)), (2, .bool a2), (6, .bool false), (7, .nilIface), (8, .bool false), (9, .iface 91 (.agg #[.string a0, .iface 27 (.int .i64 a0_1)])), (14, .bool a2), (15, .bool a2), (19, .bool false), (20, .tuple #[.nilIface, .bool false]), (21, .iface 91 (.agg #[.string a0, .iface 27 (.int .i64 a0_1)])), (22, .tuple #[.nilIface, .bool false]), (23, .nilIface), (24, .bool false), (25, .bool false), (26, .bool false), (27, .tuple #[]), (28, .tuple #[]), (29, .tuple #[]), (30, .bool false), (31, .iface 91 (.agg #[.string a0, .iface 27 (.int .i64 a0_1)])), (32, .tuple #[.iface 91 (.agg #[.string a0, .iface 27 (.int .i64 a0_1)]), .bool true]), (33, .bool true), (34, .iface 91 (.agg #[.string a0, .iface 27 (.int .i64 a0_1)])), (35, .iface 91 (.agg #[.string a0, .iface 27 (.int .i64 a0_1)])), (36, .iface 27 (.int .i64 r2)), (37, .iface 27 (.int .i64 r2)), (38, .bool false)]) (fun _ => []) (fun _ => []) (fun _ => by kernel_rfl) (fun _ => ?_)
  refine WL.sub [0, 1, 2, 6, 7, 8, 9, 14, 15, 19, 20, 21, 22, 23, 24, 25, 26, 27, 28, 29, 30, 31, 32, 33, 34, 35, 36, 37, 38] (L' := [(0, .iface 27 (.int .i64 r2)), (1, .iface 27 (.int .i64 a1)), (2, .bool a2), (6, .bool false), (7, .nilIface), (8, .bool false), (9, .iface 91 (.agg #[.string a0, .iface 27 (.int .i64 a0_1)])), (14, .bool a2), (15, .bool a2), (19, .bool false), (20, .tuple #[.nilIface, .bool false]), (21, .iface 91 (.agg #[.string a0, .iface 27 (.int .i64 a0_1)])), (22, .tuple #[.nilIface, .bool false]), (23, .nilIface), (24, .bool false), (25, .bool false), (26, .bool false), (27, .tuple #[]), (28, .tuple #[]), (29, .tuple #[]), (30, .bool false), (31, .iface 91 (.agg #[.string a0, .iface 27 (.int .i64 a0_1)])), (32, .tuple #[.iface 91 (.agg #[.string a0, .iface 27 (.int .i64 a0_1)]), .bool true]), (33, .bool true), (34, .iface 91 (.agg #[.string a0, .iface 27 (.int .i64 a0_1)])), (35, .iface 91 (.agg #[.string a0, .iface 27 (.int .i64 a0_1)])), (36, .iface 27 (.int .i64 r2)), (37, .iface 27 (.int .i64 r2)), (38, .bool false)]) (by kernel_rfl) ?_
  refine WL.both (fun b' => [(0, .iface 27 (.int .i64 r2)), (1, .iface 27 (.int .i64 a1)), (2, .bool a2), (6, .bool false), (7, .nilIface), (8, .bool false), (9, .iface 91 (.agg #[.string a0, .iface 27 (.int .i64 a0_1)])), (14, .bool a2), (15, .bool b'), (19, .bool false), (20, .tuple #[.nilIface, .bool false]), (21, .iface 91 (.agg #[.string a0, .iface 27 (.int .i64 a0_1)])), (22, .tuple #[.nilIface, .bool false]), (23, .nilIface), (24, .bool false), (25, .bool false), (26, .bool false), (27, .tuple #[]), (28, .tuple #[]), (29, .tuple #[]), (30, .bool false), (31, .iface 91 (.agg #[.string a0, .iface 27 (.int .i64 a0_1)])), (32, .tuple #[.iface 91 (.agg #[.string a0, .iface 27 (.int .i64 a0_1)]), .bool true]), (33, .bool true), (34, .iface 91 (.agg #[.string a0, .iface 27 (.int .i64 a0_1)])), (35, .iface 91 (.agg #[.string a0, .iface 27 (.int .i64 a0_1)])), (36, .iface 27 (.int .i64 r2)), (37, .iface 27 (.int .i64 r2)), (38, .bool false)]) a2 4 [] [] [0, 1, 2, 6, 7, 8, 9, 14, 15, 19, 20, 21, 22, 23, 24, 25, 26, 27, 28, 29, 30, 31, 32, 33, 34, 35, 36, 37, 38] (fun b' => [(0, .iface 27 (.int .i64 r2)), (1, .iface 27 (.int .i64 a1)), (2, .bool a2), (6, .bool false), (7, .nilIface), (8, .bool false), (9, .iface 91 (.agg #[.string a0, .iface 27 (.int .i64 a0_1)])), (14, .bool a2), (15, .bool b'), (19, .bool (b' && (r2 == a1))), (20, .tuple #[.nilIface, .bool false]), (21, .iface 91 (.agg #[.string a0, .iface 27 (.int .i64 a0_1)])), (22, .tuple #[.nilIface, .bool false]), (23, .nilIface), (24, .bool false), (25, .bool false), (26, .bool false), (27, .tuple #[]), (28, .tuple #[]), (29, .tuple #[]), (30, .bool false), (31, .iface 91 (.agg #[.string a0, .iface 27 (.int .i64 a0_1)])), (32, .tuple #[.iface 91 (.agg #[.string a0, .iface 27 (.int .i64 a0_1)]), .bool true]), (33, .bool true), (34, .iface 91 (.agg #[.string a0, .iface 27 (.int .i64 a0_1)])), (35, .iface 91 (.agg #[.string a0, .iface 27 (.int .i64 a0_1)])), (36, .iface 27 (.int .i64 r2)), (37, .iface 27 (.int .i64 r2)), (38, .bool false)]) [] [] (fun _ => by kernel_rfl) (fun _ => by kernel_rfl) ?_
  refine WP.done ?_
  refine WP.cond (a2 && (r2 == a1)) rfl rfl (fun c4 => ?_) (fun c4 => ?_)
  · replace hM := cond_t hM c4
    refine WP.seq ?_
    refine WP.run [] [0, 1, 2, 6, 7, 8, 9, 14, 15, 19, 20, 21, 22, 23, 24, 25, 26, 27, 28, 29, 30, 31, 32, 33, 34, 35, 36, 37, 38] (fun _ => [(0, .iface 27 (.int .i64 r2)), (1, .iface 27 (.int .i64 a1)), (2, .bool a2), (6, .bool true), (7, .nilIface), (8, .bool false), (9, .iface 91 (.agg #[.string a0, .iface 27 (.int .i64 a0_1)])), (14, .bool a2), (15, .bool a2), (19, .bool (a2 && (r2 == a1))), (20, .tuple #[.nilIface, .bool false]), (21, .iface 91 (.agg #[.string a0, .iface 27 (.int .i64 a0_1)])), (22, .tuple #[.nilIface, .bool false]), (23, .nilIface), (24, .bool false), (25, .bool false), (26, .bool false), (27, .tuple #[]), (28, .tuple #[]), (29, .tuple #[]), (30, .bool false), (31, .iface 91 (.agg #[.string a0, .iface 27 (.int .i64 a0_1)])), (32, .tuple #[.iface 91 (.agg #[.string a0, .iface 27 (.int .i64 a0_1)]), .bool true]), (33, .bool true), (34, .iface 91 (.agg #[.string a0, .iface 27 (.int .i64 a0_1)])), (35, .iface 91 (.agg #[.string a0, .iface 27 (.int .i64 a0_1)])), (36, .iface 27 (.int .i64 r2)), (37, .iface 27 (.int .i64 r2)), (38, .bool false)]) (fun _ => []) (fun _ => []) (fun _ => by kernel_rfl) (fun _ => ?_)
    obtain rfl := Option.some.inj hM
    exact WP.ret [] [] (.bool true) (by kernel_rfl) (fun w' hw => ⟨rfl, hw.pick [] rfl⟩)
  · replace hM := cond_f hM c4
    refine WP.skip ?_
    refine WP.seq ?_
    refine WP.seq ?_
    refine WP.region ?_
    refine WL.run 1 [] [0, 1, 2, 6, 7, 8, 9, 14, 15, 19, 20, 21, 22, 23, 24, 25, 26, 27, 28, 29, 30, 31, 32, 33, 34, 35, 36, 37, 38] (fun _ => [(0, .iface 27 (.int .i64 r2)), (1, .iface 27 (.int .i64 a1)), (2, .bool a2), (6, .bool false), (7, .nilIface), (8, .bool false), (9, .iface 91 (.agg #[.string a0, .iface 27 (.int .i64 a0_1)])), (14, .bool a2), (15, .bool a2), (19, .bool (a2 && (r2 == a1))), (20, .tuple #[.nilIface, .bool false]), (21, .iface 27 (.int .i64 r2)), (22, .tuple #[.nilIface, .bool false]), (23, .nilIface), (24, .bool false), (25, .bool false), (26, .bool false), (27, .tuple #[]), (28, .tuple #[]), (29, .tuple #[]), (30, .bool false), (31, .iface 91 (.agg #[.string a0, .iface 27 (.int .i64 a0_1)])), (32, .tuple #[.iface 91 (.agg #[.string a0, .iface 27 (.int .i64 a0_1)]), .bool true]), (33, .bool true), (34, .iface 91 (.agg #[.string a0, .iface 27 (.int .i64 a0_1)])), (35, .iface 91 (.agg #[.string a0, .iface 27 (.int .i64 a0_1)])), (36, .iface 27 (.int .i64 r2)), (37, .iface 27 (.int .i64 r2)), (38, .bool false)]) (fun _ => []) (fun _ => []) (fun _ => by kernel_rfl) (fun _ => ?_)
    refine WL.val (fun _ => run_assertLacks (t := 27) (v := .int .i64 r2) (z := .nilIface) (by kernel_rfl) (by kernel_rfl) (by kernel_rfl)) (by kernel_rfl) (by kernel_rfl) rfl ?_
    refine WL.run 5 [] [0, 1, 2, 6, 7, 8, 9, 14, 15, 19, 20, 21, 22, 23, 24, 25, 26, 27, 28, 29, 30, 31, 32, 33, 34, 35, 36, 37, 38] (fun _ => [(0, .iface 27 (.int .i64 r2)), (1, .iface 27 (.int .i64 a1)), (2, .bool a2), (6, .bool false), (7, .nilIface), (8, .bool false), (9, .iface 91 (.agg #[.string a0, .iface 27 (.int .i64 a0_1)])), (14, .bool a2), (15, .bool a2), (19, .bool (a2 && (r2 == a1))), (20, .tuple #[.nilIface, .bool false]), (21, .iface 27 (.int .i64 r2)), (22, .tuple #[.nilIface, .bool false]), (23, .nilIface), (24, .bool false), (25, .bool false), (26, .bool false), (27, .tuple #[]), (28, .tuple #[]), (29, .tuple #[]), (30, .bool false), (31, .iface 91 (.agg #[.string a0, .iface 27 (.int .i64 a0_1)])), (32, .tuple #[.iface 91 (.agg #[.string a0, .iface 27 (.int .i64 a0_1)]), .bool true]), (33, .bool true), (34, .iface 91 (.agg #[.string a0, .iface 27 (.int .i64 a0_1)])), (35, .iface 91 (.agg #[.string a0, .iface 27 (.int .i64 a0_1)])), (36, .iface 27 (.int .i64 r2)), (37, .iface 27 (.int .i64 r2)), (38, .bool false)]) (fun _ => []) (fun _ => []) (fun _ => by kernel_rfl) (fun _ => ?_)
    refine WP.done ?_
    refine WP.seq ?_
    refine WP.run [] [0, 1, 2, 6, 7, 8, 9, 14, 15, 19, 20, 21, 22, 23, 24, 25, 26, 27, 28, 29, 30, 31, 32, 33, 34, 35, 36, 37, 38] (fun _ => [(0, .iface 27 (.int .i64 r2)), (1, .iface 27 (.int .i64 a1)), (2, .bool a2), (6, .bool false), (7, .nilIface), (8, .bool false), (9, .iface 91 (.agg #[.string a0, .iface 27 (.int .i64 a0_1)])), (14, .bool a2), (15, .bool a2), (19, .bool (a2 && (r2 == a1))), (20, .tuple #[.nilIface, .bool false]), (21, .iface 27 (.int .i64 r2)), (22, .tuple #[.nilIface, .bool false]), (23, .nilIface), (24, .bool false), (25, .bool false), (26, .bool false), (27, .tuple #[]), (28, .tuple #[]), (29, .tuple #[]), (30, .bool false), (31, .iface 91 (.agg #[.string a0, .iface 27 (.int .i64 a0_1)])), (32, .tuple #[.iface 91 (.agg #[.string a0, .iface 27 (.int .i64 a0_1)]), .bool true]), (33, .bool true), (34, .iface 91 (.agg #[.string a0, .iface 27 (.int .i64 a0_1)])), (35, .iface 91 (.agg #[.string a0, .iface 27 (.int .i64 a0_1)])), (36, .iface 27 (.int .i64 r2)), (37, .iface 27 (.int .i64 r2)), (38, .bool false)]) (fun _ => []) (fun _ => []) (fun _ => by kernel_rfl) (fun _ => ?_)
    refine WP.no rfl rfl ?_
    refine WP.skip ?_
    refine WP.seq ?_
    refine WP.run [] [0, 1, 2, 6, 7, 8, 9, 14, 15, 19, 20, 21, 22, 23, 24, 25, 26, 27, 28, 29, 30, 31, 32, 33, 34, 35, 36, 37, 38] (fun _ => [(0, .iface 27 (.int .i64 r2)), (1, .iface 27 (.int .i64 a1)), (2, .bool a2), (6, .bool false), (7, .nilIface), (8, .bool false), (9, .iface 91 (.agg #[.string a0, .iface 27 (.int .i64 a0_1)])), (14, .bool a2), (15, .bool a2), (19, .bool (a2 && (r2 == a1))), (20, .tuple #[.nilIface, .bool false]), (21, .iface 27 (.int .i64 r2)), (22, .tuple #[.nilIface, .bool false]), (23, .nilIface), (24, .bool false), (25, .bool false), (26, .bool false), (27, .tuple #[]), (28, .tuple #[]), (29, .tuple #[]), (30, .bool false), (31, .iface 27 (.int .i64 r2)), (32, .tuple #[.iface 91 (.agg #[.string a0, .iface 27 (.int .i64 a0_1)]), .bool true]), (33, .bool true), (34, .iface 91 (.agg #[.string a0, .iface 27 (.int .i64 a0_1)])), (35, .iface 91 (.agg #[.string a0, .iface 27 (.int .i64 a0_1)])), (36, .iface 27 (.int .i64 r2)), (37, .iface 27 (.int .i64 r2)), (38, .bool false)]) (fun _ => []) (fun _ => []) (fun _ => by kernel_rfl) (fun _ => ?_)
    refine WP.block ?_
    refine WP.seq ?_
    refine WP.region ?_
    refine WL.val (fun _ => run_assertLacks (t := 27) (v := .int .i64 r2) (z := .nilIface) (by kernel_rfl) (by kernel_rfl) (by kernel_rfl)) (by kernel_rfl) (by kernel_rfl) rfl ?_
    refine WL.run 2 [] [0, 1, 2, 6, 7, 8, 9, 14, 15, 19, 20, 21, 22, 23, 24, 25, 26, 27, 28, 29, 30, 31, 32, 33, 34, 35, 36, 37, 38] (fun _ => [(0, .iface 27 (.int .i64 r2)), (1, .iface 27 (.int .i64 a1)), (2, .bool a2), (6, .bool false), (7, .nilIface), (8, .bool false), (9, .iface 91 (.agg #[.string a0, .iface 27 (.int .i64 a0_1)])), (14, .bool a2), (15, .bool a2), (19, .bool (a2 && (r2 == a1))), (20, .tuple #[.nilIface, .bool false]), (21, .iface 27 (.int .i64 r2)), (22, .tuple #[.nilIface, .bool false]), (23, .nilIface), (24, .bool false), (25, .bool false), (26, .bool false), (27, .tuple #[]), (28, .tuple #[]), (29, .tuple #[]), (30, .bool false), (31, .iface 27 (.int .i64 r2)), (32, .tuple #[.nilIface, .bool false]), (33, .bool false), (34, .nilIface), (35, .iface 91 (.agg #[.string a0, .iface 27 (.int .i64 a0_1)])), (36, .iface 27 (.int .i64 r2)), (37, .iface 27 (.int .i64 r2)), (38, .bool false)]) (fun _ => []) (fun _ => []) (fun _ => by kernel_rfl) (fun _ => ?_)
    refine WP.done ?_
    refine WP.no rfl rfl ?_
    refine WP.seq ?_
    refine WP.region ?_
    refine WL.val (fun _ => run_assertLacks (t := 27) (v := .int .i64 r2) (z := .nilIface) (by kernel_rfl) (by kernel_rfl) (by kernel_rfl)) (by kernel_rfl) (by kernel_rfl) rfl ?_
    refine WL.run 2 [] [0, 1, 2, 6, 7, 8, 9, 14, 15, 19, 20, 21, 22, 23, 24, 25, 26, 27, 28, 29, 30, 31, 32, 33, 34, 35, 36, 37, 38, 39, 40, 41] (fun _ => [(0, .iface 27 (.int .i64 r2)), (1, .iface 27 (.int .i64 a1)), (2, .bool a2), (6, .bool false), (7, .nilIface), (8, .bool false), (9, .iface 91 (.agg #[.string a0, .iface 27 (.int .i64 a0_1)])), (14, .bool a2), (15, .bool a2), (19, .bool (a2 && (r2 == a1))), (20, .tuple #[.nilIface, .bool false]), (21, .iface 27 (.int .i64 r2)), (22, .tuple #[.nilIface, .bool false]), (23, .nilIface), (24, .bool false), (25, .bool false), (26, .bool false), (27, .tuple #[]), (28, .tuple #[]), (29, .tuple #[]), (30, .bool false), (31, .iface 27 (.int .i64 r2)), (32, .tuple #[.nilIface, .bool false]), (33, .bool false), (34, .nilIface), (35, .iface 91 (.agg #[.string a0, .iface 27 (.int .i64 a0_1)])), (36, .iface 27 (.int .i64 r2)), (37, .iface 27 (.int .i64 r2)), (38, .bool false), (39, .tuple #[.nilIface, .bool false]), (40, .bool false), (41, .nilIface)]) (fun _ => []) (fun _ => []) (fun _ => by kernel_rfl) (fun _ => ?_)
    refine WP.done ?_
    refine WP.no rfl rfl ?_
    refine WP.seq ?_
    refine WP.run [] [0, 1, 2, 6, 7, 8, 9, 14, 15, 19, 20, 21, 22, 23, 24, 25, 26, 27, 28, 29, 30, 31, 32, 33, 34, 35, 36, 37, 38, 39, 40, 41] (fun _ => [(0, .iface 27 (.int .i64 r2)), (1, .iface 27 (.int .i64 a1)), (2, .bool a2), (6, .bool false), (7, .nilIface), (8, .bool false), (9, .iface 91 (.agg #[.string a0, .iface 27 (.int .i64 a0_1)])), (14, .bool a2), (15, .bool a2), (19, .bool (a2 && (r2 == a1))), (20, .tuple #[.nilIface, .bool false]), (21, .iface 27 (.int .i64 r2)), (22, .tuple #[.nilIface, .bool false]), (23, .nilIface), (24, .bool false), (25, .bool false), (26, .bool false), (27, .tuple #[]), (28, .tuple #[]), (29, .tuple #[]), (30, .bool false), (31, .iface 27 (.int .i64 r2)), (32, .tuple #[.nilIface, .bool false]), (33, .bool false), (34, .nilIface), (35, .iface 91 (.agg #[.string a0, .iface 27 (.int .i64 a0_1)])), (36, .iface 27 (.int .i64 r2)), (37, .iface 27 (.int .i64 r2)), (38, .bool false), (39, .tuple #[.nilIface, .bool false]), (40, .bool false), (41, .nilIface)]) (fun _ => []) (fun _ => []) (fun _ => by kernel_rfl) (fun _ => ?_)
    refine WP.seq ?_
    refine WP.run [] [0, 1, 2, 6, 7, 8, 9, 14, 15, 19, 20, 21, 22, 23, 24, 25, 26, 27, 28, 29, 30, 31, 32, 33, 34, 35, 36, 37, 38, 39, 40, 41] (fun _ => [(0, .iface 27 (.int .i64 r2)), (1, .iface 27 (.int .i64 a1)), (2, .bool a2), (6, .bool false), (7, .nilIface), (8, .bool false), (9, .iface 91 (.agg #[.string a0, .iface 27 (.int .i64 a0_1)])), (14, .bool a2), (15, .bool a2), (19, .bool (a2 && (r2 == a1))), (20, .tuple #[.nilIface, .bool false]), (21, .iface 27 (.int .i64 r2)), (22, .tuple #[.nilIface, .bool false]), (23, .nilIface), (24, .bool false), (25, .bool false), (26, .bool false), (27, .tuple #[]), (28, .tuple #[]), (29, .tuple #[]), (30, .bool false), (31, .iface 27 (.int .i64 r2)), (32, .tuple #[.nilIface, .bool false]), (33, .bool false), (34, .nilIface), (35, .iface 91 (.agg #[.string a0, .iface 27 (.int .i64 a0_1)])), (36, .iface 27 (.int .i64 r2)), (37, .iface 27 (.int .i64 r2)), (38, .bool false), (39, .tuple #[.nilIface, .bool false]), (40, .bool false), (41, .nilIface)]) (fun _ => []) (fun _ => []) (fun _ => by kernel_rfl) (fun _ => ?_)
    obtain rfl := Option.some.inj hM
    exact WP.ret [] [] (.bool false) (by kernel_rfl) (fun w' hw => ⟨rfl, hw.pick [] rfl⟩)

end Go.Proofs.YtefbjefmclhhjaaDoor

namespace Go.Proofs.YtefbjefmclhhjaaDoor
open Go Eng
set_option linter.unusedVariables false
set_option linter.unusedSimpArgs false

/-! ### errors.Is: function 24 -/
def errors_Is_1.f (a0 : ByteArray) (a0_1 : Int) (a1 : Int) : Option (Bool) :=
  (errors_is.f a0 a0_1 a1 true).bind fun r1 =>
  some r1

set_option maxRecDepth 100000 in
theorem errors_Is_1_calls (a0 : ByteArray) (a0_1 : Int) (a1 : Int) (r : Bool) (h : errors_Is_1.f a0 a0_1 a1 = some r) : Pure Tryd.prog Glob 24 #[.iface 91 (.agg #[.string a0, .iface 27 (.int .i64 a0_1)]), .iface 27 (.int .i64 a1)] (.bool r) := by
  intro w Z hS
  refine calls_of (args := [.iface 91 (.agg #[.string a0, .iface 27 (.int .i64 a0_1)]), .iface 27 (.int .i64 a1)]) (L := [(0, .iface 91 (.agg #[.string a0, .iface 27 (.int .i64 a0_1)])), (1, .iface 27 (.int .i64 a1))]) (N := 22) (S := Sat w Z [] [] Glob) Tryd.func24 rfl rfl (Nat.le_of_ble_eq_true rfl) rfl hS ?_
  have hM := h
  clear h hS
  unfold errors_Is_1.f at hM
  refine WP.seq ?_
  refine WP.run [] [0, 1, 4] (fun _ => [(0, .iface 91 (.agg #[.string a0, .iface 27 (.int .i64 a0_1)])), (1, .iface 27 (.int .i64 a1)), (4, .bool false)]) (fun _ => []) (fun _ => []) (fun _ => by kernel_rfl) (fun _ => ?_)
  refine WP.seq ?_
  refine WP.seq ?_
  refine WP.run [] [0, 1, 4, 11] (fun _ => [(0, .iface 91 (.agg #[.string a0, .iface 27 (.int .i64 a0_1)])), (1, .iface 27 (.int .i64 a1)), (4, .bool false), (11, .bool false)]) (fun _ => []) (fun _ => []) (fun _ => by kernel_rfl) (fun _ => ?_)
  refine WP.no rfl rfl ?_
  refine WP.skip ?_
  refine WP.seq ?_
  refine WP.run [] [0, 1, 4, 5] (fun _ => [(0, .iface 91 (.agg #[.string a0, .iface 27 (.int .i64 a0_1)])), (1, .iface 27 (.int .i64 a1)), (4, .bool false), (5, .bool true)]) (fun _ => []) (fun _ => []) (fun _ => by kernel_rfl) (fun _ => ?_)
  refine WP.seq ?_
  refine WP.region ?_
  refine WL.run 3 [] [4, 18, 19, 20] (fun _ => [(4, .bool false), (18, .iface 91 (.agg #[.string a0, .iface 27 (.int .i64 a0_1)])), (19, .iface 27 (.int .i64 a1)), (20, .bool true)]) (fun _ => []) (fun _ => []) (fun _ => by kernel_rfl) (fun _ => ?_)
  obtain ⟨r1, h2, hM⟩ := bind_some hM
  refine WL.callP [] [] (errors_is_calls a0 a0_1 a1 true _ h2) (fun _ h => h) (by kernel_rfl) (by kernel_rfl) rfl ?_
  refine WL.run 1 [] [4] (fun _ => [(4, .bool r1)]) (fun _ => []) (fun _ => []) (fun _ => by kernel_rfl) (fun _ => ?_)
  refine WP.done ?_
  obtain rfl := Option.some.inj hM
  exact WP.ret [] [] (.bool r1) (by kernel_rfl) (fun w' hw => ⟨rfl, hw.pick [] rfl⟩)

end Go.Proofs.YtefbjefmclhhjaaDoor

namespace Go.Proofs.YtefbjefmclhhjaaDoor
open Go Eng
set_option linter.unusedVariables false
set_option linter.unusedSimpArgs false

/-! ### errors.as: function 57 -/
def errors_as_1.f (a0 : ByteArray) (a0_1 : Int) (a1 : Int) : Option (Bool × Int) :=
  (ether_odd_Unwrap.f a0 a0_1).bind fun r3 =>
  some (true, r3)

set_option maxRecDepth 100000 in
theorem errors_as_1_calls (b_0 : Nat) (b_1 : Nat) (a0 : ByteArray) (a0_1 : Int) (a1 : Int) (r : Bool × Int) (h : errors_as_1.f a0 a0_1 a1 = some r) : Does Tryd.prog 57 #[.iface 91 (.agg #[.string a0, .iface 27 (.int .i64 a0_1)]), .iface 80 (.pointer (some ⟨b_0, 0, none⟩)), .agg #[.pointer (some ⟨1, 80, none⟩), .pointer (some ⟨b_1, 0, none⟩), .int .u64 150], .iface 93 (.agg #[.pointer (some ⟨1, 27, none⟩)])] [(b_0, .cells #[.int .i64 a1] 27 (0, 0)), (b_1, .cells #[.pointer (some ⟨b_0, 0, none⟩)] 80 (0, 0))] Glob (fun _ : Unit => .bool r.1) (fun _ => [(b_0, .cells #[.int .i64 r.2] 27 (0, 0)), (b_1, .cells #[.pointer (some ⟨b_0, 0, none⟩)] 80 (0, 0))]) (fun _ => []) (fun _ => Glob) := by
  intro w Z hS
  refine calls_of (args := [.iface 91 (.agg #[.string a0, .iface 27 (.int .i64 a0_1)]), .iface 80 (.pointer (some ⟨b_0, 0, none⟩)), .agg #[.pointer (some ⟨1, 80, none⟩), .pointer (some ⟨b_1, 0, none⟩), .int .u64 150], .iface 93 (.agg #[.pointer (some ⟨1, 27, none⟩)])]) (L := [(0, .iface 91 (.agg #[.string a0, .iface 27 (.int .i64 a0_1)])), (1, .iface 80 (.pointer (some ⟨b_0, 0, none⟩))), (2, .agg #[.pointer (some ⟨1, 80, none⟩), .pointer (some ⟨b_1, 0, none⟩), .int .u64 150]), (3, .iface 93 (.agg #[.pointer (some ⟨1, 27, none⟩)]))]) (N := 62) (S := Sat w Z [(b_0, .cells #[.int .i64 a1] 27 (0, 0)), (b_1, .cells #[.pointer (some ⟨b_0, 0, none⟩)] 80 (0, 0))] [] Glob) Tryd.func57 rfl rfl (Nat.le_of_ble_eq_true rfl) rfl hS ?_
  have hM := h
  clear h hS
  unfold errors_as_1.f at hM
  refine WP.seq ?_
  refine WP.run [] [0, 1, 3, 6, 8] (fun b1 => [(0, .iface 91 (.agg #[.string a0, .iface 27 (.int .i64 a0_1)])), (1, .iface 80 (.pointer (some ⟨b_0, 0, none⟩))), (3, .iface 93 (.agg #[.pointer (some ⟨1, 27, none⟩)])), (6, .pointer (some ⟨b1, 0, none⟩)), (8, .bool false)]) (fun b1 => [(b_0, .cells #[.int .i64 a1] 27 (0, 0)), (b_1, .cells #[.pointer (some ⟨b_0, 0, none⟩)] 80 (0, 0)), (b1, .cells #[.pointer (some ⟨1, 80, none⟩), .pointer (some ⟨b_1, 0, none⟩), .int .u64 150] 106 (0, 0))]) (fun b1 => []) (fun b1 => by kernel_rfl) (fun b1 => ?_)
  refine WP.block ?_
  refine WP.unroll 40 ?_
  refine WP.block ?_
  refine WP.seq ?_
  refine WP.seq ?_
  refine WP.run [] [0, 1, 3, 6, 8, 16, 17, 18, 19] (fun _ => [(0, .iface 91 (.agg #[.string a0, .iface 27 (.int .i64 a0_1)])), (1, .iface 80 (.pointer (some ⟨b_0, 0, none⟩))), (3, .iface 93 (.agg #[.pointer (some ⟨1, 27, none⟩)])), (6, .pointer (some ⟨b1, 0, none⟩)), (8, .bool false), (16, .iface 91 (.agg #[.string a0, .iface 27 (.int .i64 a0_1)])), (17, .iface 93 (.agg #[.pointer (some ⟨1, 91, none⟩)])), (18, .iface 93 (.agg #[.pointer (some ⟨1, 27, none⟩)])), (19, .bool false)]) (fun _ => [(b_0, .cells #[.int .i64 a1] 27 (0, 0)), (b_1, .cells #[.pointer (some ⟨b_0, 0, none⟩)] 80 (0, 0)), (b1, .cells #[.pointer (some ⟨1, 80, none⟩), .pointer (some ⟨b_1, 0, none⟩), .int .u64 150] 106 (0, 0))]) (fun _ => []) (fun _ => by kernel_rfl) (fun _ => ?_)
  refine WP.no rfl rfl ?_
  refine WP.skip ?_
  refine WP.seq ?_
  refine WP.seq ?_
  refine WP.region ?_
  refine WL.run 1 [] [0, 1, 3, 6, 8, 16, 17, 18, 19, 26] (fun _ => [(0, .iface 91 (.agg #[.string a0, .iface 27 (.int .i64 a0_1)])), (1, .iface 80 (.pointer (some ⟨b_0, 0, none⟩))), (3, .iface 93 (.agg #[.pointer (some ⟨1, 27, none⟩)])), (6, .pointer (some ⟨b1, 0, none⟩)), (8, .bool false), (16, .iface 91 (.agg #[.string a0, .iface 27 (.int .i64 a0_1)])), (17, .iface 93 (.agg #[.pointer (some ⟨1, 91, none⟩)])), (18, .iface 93 (.agg #[.pointer (some ⟨1, 27, none⟩)])), (19, .bool false), (26, .iface 91 (.agg #[.string a0, .iface 27 (.int .i64 a0_1)]))]) (fun _ => [(b_0, .cells #[.int .i64 a1] 27 (0, 0)), (b_1, .cells #[.pointer (some ⟨b_0, 0, none⟩)] 80 (0, 0)), (b1, .cells #[.pointer (some ⟨1, 80, none⟩), .pointer (some ⟨b_1, 0, none⟩), .int .u64 150] 106 (0, 0))]) (fun _ => []) (fun _ => by kernel_rfl) (fun _ => ?_)
  refine WL.val (fun _ => run_assertLacks (t := 91) (v := .agg #[.string a0, .iface 27 (.int .i64 a0_1)]) (z := .nilIface) (by kernel_rfl) (by kernel_rfl) (by kernel_rfl)) (by kernel_rfl) (by kernel_rfl) rfl ?_
  refine WL.run 5 [] [0, 1, 3, 6, 8, 9, 10, 16, 17, 18, 19, 25, 26, 27, 28, 29] (fun _ => [(0, .iface 91 (.agg #[.string a0, .iface 27 (.int .i64 a0_1)])), (1, .iface 80 (.pointer (some ⟨b_0, 0, none⟩))), (3, .iface 93 (.agg #[.pointer (some ⟨1, 27, none⟩)])), (6, .pointer (some ⟨b1, 0, none⟩)), (8, .bool false), (9, .nilIface), (10, .bool false), (16, .iface 91 (.agg #[.string a0, .iface 27 (.int .i64 a0_1)])), (17, .iface 93 (.agg #[.pointer (some ⟨1, 91, none⟩)])), (18, .iface 93 (.agg #[.pointer (some ⟨1, 27, none⟩)])), (19, .bool false), (25, .tuple #[.nilIface, .bool false]), (26, .iface 91 (.agg #[.string a0, .iface 27 (.int .i64 a0_1)])), (27, .tuple #[.nilIface, .bool false]), (28, .nilIface), (29, .bool false)]) (fun _ => [(b_0, .cells #[.int .i64 a1] 27 (0, 0)), (b_1, .cells #[.pointer (some ⟨b_0, 0, none⟩)] 80 (0, 0)), (b1, .cells #[.pointer (some ⟨1, 80, none⟩), .pointer (some ⟨b_1, 0, none⟩), .int .u64 150] 106 (0, 0))]) (fun _ => []) (fun _ => by kernel_rfl) (fun _ => ?_)
  refine WP.done ?_
  refine WP.seq ?_
  refine WP.run [] [0, 1, 3, 6, 8, 9, 10, 16, 17, 18, 19, 25, 26, 27, 28, 29, 30, 31, 32, 33, 34, 35] (fun _ => [(0, .iface 91 (.agg #[.string a0, .iface 27 (.int .i64 a0_1)])), (1, .iface 80 (.pointer (some ⟨b_0, 0, none⟩))), (3, .iface 93 (.agg #[.pointer (some ⟨1, 27, none⟩)])), (6, .pointer (some ⟨b1, 0, none⟩)), (8, .bool false), (9, .nilIface), (10, .bool false), (16, .iface 91 (.agg #[.string a0, .iface 27 (.int .i64 a0_1)])), (17, .iface 93 (.agg #[.pointer (some ⟨1, 91, none⟩)])), (18, .iface 93 (.agg #[.pointer (some ⟨1, 27, none⟩)])), (19, .bool false), (25, .tuple #[.nilIface, .bool false]), (26, .iface 91 (.agg #[.string a0, .iface 27 (.int .i64 a0_1)])), (27, .tuple #[.nilIface, .bool false]), (28, .nilIface), (29, .bool false), (30, .bool false), (31, .bool false), (32, .tuple #[]), (33, .tuple #[]), (34, .tuple #[]), (35, .bool false)]) (fun _ => [(b_0, .cells #[.int .i64 a1] 27 (0, 0)), (b_1, .cells #[.pointer (some ⟨b_0, 0, none⟩)] 80 (0, 0)), (b1, .cells #[.pointer (some ⟨1, 80, none⟩), .pointer (some ⟨b_1, 0, none⟩), .int .u64 150] 106 (0, 0))]) (fun _ => []) (fun _ => by kernel_rfl) (fun _ => ?_)
  refine WP.no rfl rfl ?_
  refine WP.skip ?_
  refine WP.seq ?_
  refine WP.run [] [0, 1, 3, 6, 8, 9, 10, 16, 17, 18, 19, 25, 26, 27, 28, 29, 30, 31, 32, 33, 34, 35, 36] (fun _ => [(0, .iface 91 (.agg #[.string a0, .iface 27 (.int .i64 a0_1)])), (1, .iface 80 (.pointer (some ⟨b_0, 0, none⟩))), (3, .iface 93 (.agg #[.pointer (some ⟨1, 27, none⟩)])), (6, .pointer (some ⟨b1, 0, none⟩)), (8, .bool false), (9, .nilIface), (10, .bool false), (16, .iface 91 (.agg #[.string a0, .iface 27 (.int .i64 a0_1)])), (17, .iface 93 (.agg #[.pointer (some ⟨1, 91, none⟩)])), (18, .iface 93 (.agg #[.pointer (some ⟨1, 27, none⟩)])), (19, .bool false), (25, .tuple #[.nilIface, .bool false]), (26, .iface 91 (.agg #[.string a0, .iface 27 (.int .i64 a0_1)])), (27, .tuple #[.nilIface, .bool false]), (28, .nilIface), (29, .bool false), (30, .bool false), (31, .bool false), (32, .tuple #[]), (33, .tuple #[]), (34, .tuple #[]), (35, .bool false), (36, .iface 91 (.agg #[.string a0, .iface 27 (.int .i64 a0_1)]))]) (fun _ => [(b_0, .cells #[.int .i64 a1] 27 (0, 0)), (b_1, .cells #[.pointer (some ⟨b_0, 0, none⟩)] 80 (0, 0)), (b1, .cells #[.pointer (some ⟨1, 80, none⟩), .pointer (some ⟨b_1, 0, none⟩), .int .u64 150] 106 (0, 0))]) (fun _ => []) (fun _ => by kernel_rfl) (fun _ => ?_)
  refine WP.block ?_
  refine WP.seq ?_
  refine WP.region ?_
  refine WL.val (fun _ => run_assertHas (t := 91) (v := .agg #[.string a0, .iface 27 (.int .i64 a0_1)]) (by kernel_rfl) (by kernel_rfl)) (by kernel_rfl) (by kernel_rfl) rfl ?_
  refine WL.run 2 [] [0, 1, 3, 6, 8, 9, 10, 16, 17, 18, 19, 25, 26, 27, 28, 29, 30, 31, 32, 33, 34, 35, 36, 37, 38, 39] (fun _ => [(0, .iface 91 (.agg #[.string a0, .iface 27 (.int .i64 a0_1)])), (1, .iface 80 (.pointer (some ⟨b_0, 0, none⟩))), (3, .iface 93 (.agg #[.pointer (some ⟨1, 27, none⟩)])), (6, .pointer (some ⟨b1, 0, none⟩)), (8, .bool false), (9, .nilIface), (10, .bool false), (16, .iface 91 (.agg #[.string a0, .iface 27 (.int .i64 a0_1)])), (17, .iface 93 (.agg #[.pointer (some ⟨1, 91, none⟩)])), (18, .iface 93 (.agg #[.pointer (some ⟨1, 27, none⟩)])), (19, .bool false), (25, .tuple #[.nilIface, .bool false]), (26, .iface 91 (.agg #[.string a0, .iface 27 (.int .i64 a0_1)])), (27, .tuple #[.nilIface, .bool false]), (28, .nilIface), (29, .bool false), (30, .bool false), (31, .bool false), (32, .tuple #[]), (33, .tuple #[]), (34, .tuple #[]), (35, .bool false), (36, .iface 91 (.agg #[.string a0, .iface 27 (.int .i64 a0_1)])), (37, .tuple #[.iface 91 (.agg #[.string a0, .iface 27 (.int .i64 a0_1)]), .bool true]), (38, .bool true), (39, .iface 91 (.agg #[.string a0, .iface 27 (.int .i64 a0_1)]))]) (fun _ => [(b_0, .cells #[.int .i64 a1] 27 (0, 0)), (b_1, .cells #[.pointer (some ⟨b_0, 0, none⟩)] 80 (0, 0)), (b1, .cells #[.pointer (some ⟨1, 80, none⟩), .pointer (some ⟨b_1, 0, none⟩), .int .u64 150] 106 (0, 0))]) (fun _ => []) (fun _ => by kernel_rfl) (fun _ => ?_)
  refine WP.done ?_
  refine WP.yes rfl rfl ?_
  refine WP.seq ?_
  refine WP.run [] [0, 1, 3, 6, 8, 9, 10, 11, 16, 17, 18, 19, 25, 26, 27, 28, 29, 30, 31, 32, 33, 34, 35, 36, 37, 38, 39] (fun _ => [(0, .iface 91 (.agg #[.string a0, .iface 27 (.int .i64 a0_1)])), (1, .iface 80 (.pointer (some ⟨b_0, 0, none⟩))), (3, .iface 93 (.agg #[.pointer (some ⟨1, 27, none⟩)])), (6, .pointer (some ⟨b1, 0, none⟩)), (8, .bool false), (9, .nilIface), (10, .bool false), (11, .iface 91 (.agg #[.string a0, .iface 27 (.int .i64 a0_1)])), (16, .iface 91 (.agg #[.string a0, .iface 27 (.int .i64 a0_1)])), (17, .iface 93 (.agg #[.pointer (some ⟨1, 91, none⟩)])), (18, .iface 93 (.agg #[.pointer (some ⟨1, 27, none⟩)])), (19, .bool false), (25, .tuple #[.nilIface, .bool false]), (26, .iface 91 (.agg #[.string a0, .iface 27 (.int .i64 a0_1)])), (27, .tuple #[.nilIface, .bool false]), (28, .nilIface), (29, .bool false), (30, .bool false), (31, .bool false), (32, .tuple #[]), (33, .tuple #[]), (34, .tuple #[]), (35, .bool false), (36, .iface 91 (.agg #[.string a0, .iface 27 (.int .i64 a0_1)])), (37, .tuple #[.iface 91 (.agg #[.string a0, .iface 27 (.int .i64 a0_1)]), .bool true]), (38, .bool true), (39, .iface 91 (.agg #[.string a0, .iface 27 (.int .i64 a0_1)]))]) (fun _ => [(b_0, .cells #[.int .i64 a1] 27 (0, 0)), (b_1, .cells #[.pointer (some ⟨b_0, 0, none⟩)] 80 (0, 0)), (b1, .cells #[.pointer (some ⟨1, 80, none⟩), .pointer (some ⟨b_1, 0, none⟩), .int .u64 150] 106 (0, 0))]) (fun _ => []) (fun _ => by kernel_rfl) (fun _ => ?_)
  refine WP.seq ?_
  refine WP.region ?_
  refine WL.run 1 [] [0, 1, 3, 6, 8, 9, 10, 11, 16, 17, 18, 19, 25, 26, 27, 28, 29, 30, 31, 32, 33, 34, 35, 36, 37, 38, 39, 40] (fun _ => [(0, .iface 91 (.agg #[.string a0, .iface 27 (.int .i64 a0_1)])), (1, .iface 80 (.pointer (some ⟨b_0, 0, none⟩))), (3, .iface 93 (.agg #[.pointer (some ⟨1, 27, none⟩)])), (6, .pointer (some ⟨b1, 0, none⟩)), (8, .bool false), (9, .nilIface), (10, .bool false), (11, .iface 91 (.agg #[.string a0, .iface 27 (.int .i64 a0_1)])), (16, .iface 91 (.agg #[.string a0, .iface 27 (.int .i64 a0_1)])), (17, .iface 93 (.agg #[.pointer (some ⟨1, 91, none⟩)])), (18, .iface 93 (.agg #[.pointer (some ⟨1, 27, none⟩)])), (19, .bool false), (25, .tuple #[.nilIface, .bool false]), (26, .iface 91 (.agg #[.string a0, .iface 27 (.int .i64 a0_1)])), (27, .tuple #[.nilIface, .bool false]), (28, .nilIface), (29, .bool false), (30, .bool false), (31, .bool false), (32, .tuple #[]), (33, .tuple #[]), (34, .tuple #[]), (35, .bool false), (36, .iface 91 (.agg #[.string a0, .iface 27 (.int .i64 a0_1)])), (37, .tuple #[.iface 91 (.agg #[.string a0, .iface 27 (.int .i64 a0_1)]), .bool true]), (38, .bool true), (39, .iface 91 (.agg #[.string a0, .iface 27 (.int .i64 a0_1)])), (40, .iface 91 (.agg #[.string a0, .iface 27 (.int .i64 a0_1)]))]) (fun _ => [(b_0, .cells #[.int .i64 a1] 27 (0, 0)), (b_1, .cells #[.pointer (some ⟨b_0, 0, none⟩)] 80 (0, 0)), (b1, .cells #[.pointer (some ⟨1, 80, none⟩), .pointer (some ⟨b_1, 0, none⟩), .int .u64 150] 106 (0, 0))]) (fun _ => []) (fun _ => by kernel_rfl) (fun _ => ?_)
  obtain ⟨r3, h4, hM⟩ := bind_some hM
  refine WL.callP [] [] (ether_odd_Unwrap_calls a0 a0_1 _ h4) (fun _ h => h) (by kernel_rfl) (by kernel_rfl) rfl ?_
  refine WL.run 1 [] [0, 1, 3, 6, 8, 9, 10, 11, 16, 17, 18, 19, 25, 26, 27, 28, 29, 30, 31, 32, 33, 34, 35, 36, 37, 38, 39, 40, 41] (fun _ => [(0, .iface 27 (.int .i64 r3)), (1, .iface 80 (.pointer (some ⟨b_0, 0, none⟩))), (3, .iface 93 (.agg #[.pointer (some ⟨1, 27, none⟩)])), (6, .pointer (some ⟨b1, 0, none⟩)), (8, .bool false), (9, .nilIface), (10, .bool false), (11, .iface 91 (.agg #[.string a0, .iface 27 (.int .i64 a0_1)])), (16, .iface 91 (.agg #[.string a0, .iface 27 (.int .i64 a0_1)])), (17, .iface 93 (.agg #[.pointer (some ⟨1, 91, none⟩)])), (18, .iface 93 (.agg #[.pointer (some ⟨1, 27, none⟩)])), (19, .bool false), (25, .tuple #[.nilIface, .bool false]), (26, .iface 91 (.agg #[.string a0, .iface 27 (.int .i64 a0_1)])), (27, .tuple #[.nilIface, .bool false]), (28, .nilIface), (29, .bool false), (30, .bool false), (31, .bool false), (32, .tuple #[]), (33, .tuple #[]), (34, .tuple #[]), (35, .bool false), (36, .iface 91 (.agg #[.string a0, .iface 27 (.int .i64 a0_1)])), (37, .tuple #[.iface 91 (.agg #[.string a0, .iface 27 (.int .i64 a0_1)]), .bool true]), (38, .bool true), (39, .iface 91 (.agg #[.string a0, .iface 27 (.int .i64 a0_1)])), (40, .iface 91 (.agg #[.string a0, .iface 27 (.int .i64 a0_1)])), (41, .iface 27 (.int .i64 r3))]) (fun _ => [(b_0, .cells #[.int .i64 a1] 27 (0, 0)), (b_1, .cells #[.pointer (some ⟨b_0, 0, none⟩)] 80 (0, 0)), (b1, .cells #[.pointer (some ⟨1, 80, none⟩), .pointer (some ⟨b_1, 0, none⟩), .int .u64 150] 106 (0, 0))]) (fun _ => []) (fun _ => by kernel_rfl) (fun _ => ?_)
  refine WP.done ?_
  refine WP.seq ?_
  refine WP.run [] [0, 1, 3, 6, 8, 9, 10, 11, 16, 17, 18, 19, 25, 26, 27, 28, 29, 30, 31, 32, 33, 34, 35, 36, 37, 38, 39, 40, 41, 42, 43] (fun _ => [(0, .iface 27 (.int .i64 r3)), (1, .iface 80 (.pointer (some ⟨b_0, 0, none⟩))), (3, .iface 93 (.agg #[.pointer (some ⟨1, 27, none⟩)])), (6, .pointer (some ⟨b1, 0, none⟩)), (8, .bool false), (9, .nilIface), (10, .bool false), (11, .iface 91 (.agg #[.string a0, .iface 27 (.int .i64 a0_1)])), (16, .iface 91 (.agg #[.string a0, .iface 27 (.int .i64 a0_1)])), (17, .iface 93 (.agg #[.pointer (some ⟨1, 91, none⟩)])), (18, .iface 93 (.agg #[.pointer (some ⟨1, 27, none⟩)])), (19, .bool false), (25, .tuple #[.nilIface, .bool false]), (26, .iface 91 (.agg #[.string a0, .iface 27 (.int .i64 a0_1)])), (27, .tuple #[.nilIface, .bool false]), (28, .nilIface), (29, .bool false), (30, .bool false), (31, .bool false), (32, .tuple #[]), (33, .tuple #[]), (34, .tuple #[]), (35, .bool false), (36, .iface 91 (.agg #[.string a0, .iface 27 (.int .i64 a0_1)])), (37, .tuple #[.iface 91 (.agg #[.string a0, .iface 27 (.int .i64 a0_1)]), .bool true]), (38, .bool true), (39, .iface 91 (.agg #[.string a0, .iface 27 (.int .i64 a0_1)])), (40, .iface 91 (.agg #[.string a0, .iface 27 (.int .i64 a0_1)])), (41, .iface 27 (.int .i64 r3)), (42, .iface 27 (.int .i64 r3)), (43, .bool false)]) (fun _ => [(b_0, .cells #[.int .i64 a1] 27 (0, 0)), (b_1, .cells #[.pointer (some ⟨b_0, 0, none⟩)] 80 (0, 0)), (b1, .cells #[.pointer (some ⟨1, 80, none⟩), .pointer (some ⟨b_1, 0, none⟩), .int .u64 150] 106 (0, 0))]) (fun _ => []) (fun _ => by kernel_rfl) (fun _ => ?_)
  refine WP.no rfl rfl ?_
  refine WP.skip ?_
  refine WP.leave ?_
  refine WP.leave ?_
  refine WP.round ?_
  refine WP.block ?_
  refine WP.seq ?_
  refine WP.seq ?_
  refine WP.run [] [0, 1, 3, 6, 8, 9, 10, 11, 16, 17, 18, 19, 25, 26, 27, 28, 29, 30, 31, 32, 33, 34, 35, 36, 37, 38, 39, 40, 41, 42, 43] (fun _ => [(0, .iface 27 (.int .i64 r3)), (1, .iface 80 (.pointer (some ⟨b_0, 0, none⟩))), (3, .iface 93 (.agg #[.pointer (some ⟨1, 27, none⟩)])), (6, .pointer (some ⟨b1, 0, none⟩)), (8, .bool false), (9, .nilIface), (10, .bool false), (11, .iface 91 (.agg #[.string a0, .iface 27 (.int .i64 a0_1)])), (16, .iface 27 (.int .i64 r3)), (17, .iface 93 (.agg #[.pointer (some ⟨1, 27, none⟩)])), (18, .iface 93 (.agg #[.pointer (some ⟨1, 27, none⟩)])), (19, .bool true), (25, .tuple #[.nilIface, .bool false]), (26, .iface 91 (.agg #[.string a0, .iface 27 (.int .i64 a0_1)])), (27, .tuple #[.nilIface, .bool false]), (28, .nilIface), (29, .bool false), (30, .bool false), (31, .bool false), (32, .tuple #[]), (33, .tuple #[]), (34, .tuple #[]), (35, .bool false), (36, .iface 91 (.agg #[.string a0, .iface 27 (.int .i64 a0_1)])), (37, .tuple #[.iface 91 (.agg #[.string a0, .iface 27 (.int .i64 a0_1)]), .bool true]), (38, .bool true), (39, .iface 91 (.agg #[.string a0, .iface 27 (.int .i64 a0_1)])), (40, .iface 91 (.agg #[.string a0, .iface 27 (.int .i64 a0_1)])), (41, .iface 27 (.int .i64 r3)), (42, .iface 27 (.int .i64 r3)), (43, .bool false)]) (fun _ => [(b_0, .cells #[.int .i64 a1] 27 (0, 0)), (b_1, .cells #[.pointer (some ⟨b_0, 0, none⟩)] 80 (0, 0)), (b1, .cells #[.pointer (some ⟨1, 80, none⟩), .pointer (some ⟨b_1, 0, none⟩), .int .u64 150] 106 (0, 0))]) (fun _ => []) (fun _ => by kernel_rfl) (fun _ => ?_)
  refine WP.yes rfl rfl ?_
  refine WP.seq ?_
  refine WP.run [2, 2, 2, 1, 3, 0] [0, 1, 3, 6, 8, 9, 10, 11, 16, 17, 18, 19, 20, 21, 22, 23, 25, 26, 27, 28, 29, 30, 31, 32, 33, 34, 35, 36, 37, 38, 39, 40, 41, 42, 43] (fun b5 => [(0, .iface 27 (.int .i64 r3)), (1, .iface 80 (.pointer (some ⟨b_0, 0, none⟩))), (3, .iface 93 (.agg #[.pointer (some ⟨1, 27, none⟩)])), (6, .pointer (some ⟨b1, 0, none⟩)), (8, .bool false), (9, .nilIface), (10, .bool false), (11, .iface 91 (.agg #[.string a0, .iface 27 (.int .i64 a0_1)])), (16, .iface 27 (.int .i64 r3)), (17, .iface 93 (.agg #[.pointer (some ⟨1, 27, none⟩)])), (18, .iface 93 (.agg #[.pointer (some ⟨1, 27, none⟩)])), (19, .bool true), (20, .agg #[.pointer (some ⟨1, 80, none⟩), .pointer (some ⟨b_1, 0, none⟩), .int .u64 150]), (21, .agg #[.pointer (some ⟨1, 27, none⟩), .pointer (some ⟨b_0, 0, none⟩), .int .u64 386]), (22, .iface 27 (.int .i64 r3)), (23, .agg #[.pointer (some ⟨1, 27, none⟩), .pointer (some ⟨b5, 0, none⟩), .int .u64 130]), (25, .tuple #[.nilIface, .bool false]), (26, .iface 91 (.agg #[.string a0, .iface 27 (.int .i64 a0_1)])), (27, .tuple #[.nilIface, .bool false]), (28, .nilIface), (29, .bool false), (30, .bool false), (31, .bool false), (32, .tuple #[]), (33, .tuple #[]), (34, .tuple #[]), (35, .bool false), (36, .iface 91 (.agg #[.string a0, .iface 27 (.int .i64 a0_1)])), (37, .tuple #[.iface 91 (.agg #[.string a0, .iface 27 (.int .i64 a0_1)]), .bool true]), (38, .bool true), (39, .iface 91 (.agg #[.string a0, .iface 27 (.int .i64 a0_1)])), (40, .iface 91 (.agg #[.string a0, .iface 27 (.int .i64 a0_1)])), (41, .iface 27 (.int .i64 r3)), (42, .iface 27 (.int .i64 r3)), (43, .bool false)]) (fun b5 => [(b_0, .cells #[.int .i64 r3] 27 (0, 0)), (b_1, .cells #[.pointer (some ⟨b_0, 0, none⟩)] 80 (0, 0)), (b1, .cells #[.pointer (some ⟨1, 80, none⟩), .pointer (some ⟨b_1, 0, none⟩), .int .u64 150] 106 (0, 0)), (b5, .cells #[.int .i64 r3] 27 (0, 0))]) (fun b5 => [b_0, b5, b_1, b1, b1, b1]) (fun b5 => by kernel_rfl) (fun b5 => ?_)
  refine WP.seq ?_
  refine WP.run [] [0, 1, 3, 6, 8, 9, 10, 11, 16, 17, 18, 19, 20, 21, 22, 23, 25, 26, 27, 28, 29, 30, 31, 32, 33, 34, 35, 36, 37, 38, 39, 40, 41, 42, 43] (fun _ => [(0, .iface 27 (.int .i64 r3)), (1, .iface 80 (.pointer (some ⟨b_0, 0, none⟩))), (3, .iface 93 (.agg #[.pointer (some ⟨1, 27, none⟩)])), (6, .pointer (some ⟨b1, 0, none⟩)), (8, .bool true), (9, .nilIface), (10, .bool false), (11, .iface 91 (.agg #[.string a0, .iface 27 (.int .i64 a0_1)])), (16, .iface 27 (.int .i64 r3)), (17, .iface 93 (.agg #[.pointer (some ⟨1, 27, none⟩)])), (18, .iface 93 (.agg #[.pointer (some ⟨1, 27, none⟩)])), (19, .bool true), (20, .agg #[.pointer (some ⟨1, 80, none⟩), .pointer (some ⟨b_1, 0, none⟩), .int .u64 150]), (21, .agg #[.pointer (some ⟨1, 27, none⟩), .pointer (some ⟨b_0, 0, none⟩), .int .u64 386]), (22, .iface 27 (.int .i64 r3)), (23, .agg #[.pointer (some ⟨1, 27, none⟩), .pointer (some ⟨b5, 0, none⟩), .int .u64 130]), (25, .tuple #[.nilIface, .bool false]), (26, .iface 91 (.agg #[.string a0, .iface 27 (.int .i64 a0_1)])), (27, .tuple #[.nilIface, .bool false]), (28, .nilIface), (29, .bool false), (30, .bool false), (31, .bool false), (32, .tuple #[]), (33, .tuple #[]), (34, .tuple #[]), (35, .bool false), (36, .iface 91 (.agg #[.string a0, .iface 27 (.int .i64 a0_1)])), (37, .tuple #[.iface 91 (.agg #[.string a0, .iface 27 (.int .i64 a0_1)]), .bool true]), (38, .bool true), (39, .iface 91 (.agg #[.string a0, .iface 27 (.int .i64 a0_1)])), (40, .iface 91 (.agg #[.string a0, .iface 27 (.int .i64 a0_1)])), (41, .iface 27 (.int .i64 r3)), (42, .iface 27 (.int .i64 r3)), (43, .bool false)]) (fun _ => [(b_0, .cells #[.int .i64 r3] 27 (0, 0)), (b_1, .cells #[.pointer (some ⟨b_0, 0, none⟩)] 80 (0, 0)), (b1, .cells #[.pointer (some ⟨1, 80, none⟩), .pointer (some ⟨b_1, 0, none⟩), .int .u64 150] 106 (0, 0)), (b5, .cells #[.int .i64 r3] 27 (0, 0))]) (fun _ => []) (fun _ => by kernel_rfl) (fun _ => ?_)
  obtain rfl := Option.some.inj hM
  exact WP.ret [] [] (.bool true) (by kernel_rfl) (fun w' hw => ⟨(), rfl, hw.pick [0, 1] (by kernel_rfl)⟩)

end Go.Proofs.YtefbjefmclhhjaaDoor
