/- The walks of the functions that the laws reach: each shows that a call returns what its plain model says, wherever the model gives an answer. -/
import Derived.Test.YtbodofjnfmjbpaaGreatDoorF1
import Derived.Test.YtbodofjnfmjbpaaGreatDoorF2

namespace Go.Proofs.YtbodofjnfmjbpaaGreatDoor
open Go Eng
set_option linter.unusedVariables false
set_option linter.unusedSimpArgs false

/-! ### gangway/ether.Check: function 35 -/
def ether_Check.k1 (a0 : api_Frame) (x7 : Bool) : Option (Int) :=
  bif x7 then
    some 41
  else
    bif ((a0.Type_ == 0) && (decide ((a0.Body.size : Int) > 1500))) then
      some 40
    else
      (ether_size.f a0).bind fun r10 =>
      bif decide (r10 > 1600) then
        some 41
      else
        some 0

def ether_Check.k2 (a0 : api_Frame) (x5 : Bool) : Option (Int) :=
  bif x5 then
    ether_Check.k1 a0 true
  else
    ether_Check.k1 a0 ((a0.Type_ != 0) && (!(((decide (a0.Type_ ≥ 1536)) && (decide (a0.Type_ ≤ 65535))) && (a0.Type_ != 33024))))

def ether_Check.f (a0 : api_Frame) : Option (Int) :=
  bif ((decide (a0.Dst ≥ 281474976710656)) || (decide (a0.Src ≥ 281474976710656))) then
    ether_Check.k2 a0 true
  else
    (ether_tag.f a0.Tag).bind fun r3 =>
    ether_Check.k2 a0 (!r3)

set_option maxRecDepth 100000 in
theorem ether_Check_calls (a0 : api_Frame) (r : Int) (h : ether_Check.f a0 = some r) : Pure Tryz.prog Glob 35 #[.agg #[.int .u64 a0.Dst, .int .u64 a0.Src, .bool a0.Tag.Has, .int .i64 a0.Tag.Pri, .bool a0.Tag.Dei, .int .i64 a0.Tag.Vid, .int .i64 a0.Type_, .string a0.Body]] (.int .i64 r) := by
  intro w Z hS
  refine calls_of (args := [.agg #[.int .u64 a0.Dst, .int .u64 a0.Src, .bool a0.Tag.Has, .int .i64 a0.Tag.Pri, .bool a0.Tag.Dei, .int .i64 a0.Tag.Vid, .int .i64 a0.Type_, .string a0.Body]]) (L := [(0, .agg #[.int .u64 a0.Dst, .int .u64 a0.Src, .bool a0.Tag.Has, .int .i64 a0.Tag.Pri, .bool a0.Tag.Dei, .int .i64 a0.Tag.Vid, .int .i64 a0.Type_, .string a0.Body])]) (N := 55) (S := Sat w Z [] [] Glob) Tryz.func35 rfl rfl (Nat.le_of_ble_eq_true rfl) rfl hS ?_
  have hM := h
  clear h hS
  unfold ether_Check.f at hM
  refine WP.seq ?_
  refine WP.run [] [1, 2] (fun b1 => [(1, .pointer (some ⟨b1, 0, none⟩)), (2, .int .i64 0)]) (fun b1 => [(b1, .cells #[.int .u64 a0.Dst, .int .u64 a0.Src, .bool a0.Tag.Has, .int .i64 a0.Tag.Pri, .bool a0.Tag.Dei, .int .i64 a0.Tag.Vid, .int .i64 a0.Type_, .string a0.Body] 29 (0, 0))]) (fun b1 => []) (fun b1 => by kernel_rfl) (fun b1 => ?_)
  refine WP.seq ?_
  refine WP.region ?_
  refine WL.run 4 [0] [1, 2, 7] (fun _ => [(1, .pointer (some ⟨b1, 0, none⟩)), (2, .int .i64 0), (7, .bool (decide (a0.Type_ ≥ 1536)))]) (fun _ => [(b1, .cells #[.int .u64 a0.Dst, .int .u64 a0.Src, .bool a0.Tag.Has, .int .i64 a0.Tag.Pri, .bool a0.Tag.Dei, .int .i64 a0.Tag.Vid, .int .i64 a0.Type_, .string a0.Body] 29 (0, 0))]) (fun _ => [b1]) (fun _ => by kernel_rfl) (fun _ => ?_)
  refine WL.sub [1, 2, 7] (L' := [(1, .pointer (some ⟨b1, 0, none⟩)), (2, .int .i64 0), (7, .bool (decide (a0.Type_ ≥ 1536)))]) (by kernel_rfl) ?_
  refine WL.both (fun b' => [(1, .pointer (some ⟨b1, 0, none⟩)), (2, .int .i64 0), (7, .bool b')]) (decide (a0.Type_ ≥ 1536)) 4 [0] [] [1, 2, 11] (fun b' => [(1, .pointer (some ⟨b1, 0, none⟩)), (2, .int .i64 0), (11, .bool (b' && (decide (a0.Type_ ≤ 65535))))]) [b1] [] (fun _ => by kernel_rfl) (fun _ => by kernel_rfl) ?_
  refine WL.run 1 [] [1, 2, 12] (fun _ => [(1, .pointer (some ⟨b1, 0, none⟩)), (2, .int .i64 0), (12, .bool ((decide (a0.Type_ ≥ 1536)) && (decide (a0.Type_ ≤ 65535))))]) (fun _ => [(b1, .cells #[.int .u64 a0.Dst, .int .u64 a0.Src, .bool a0.Tag.Has, .int .i64 a0.Tag.Pri, .bool a0.Tag.Dei, .int .i64 a0.Tag.Vid, .int .i64 a0.Type_, .string a0.Body] 29 (0, 0))]) (fun _ => []) (fun _ => by kernel_rfl) (fun _ => ?_)
  refine WL.sub [1, 2, 12] (L' := [(1, .pointer (some ⟨b1, 0, none⟩)), (2, .int .i64 0), (12, .bool ((decide (a0.Type_ ≥ 1536)) && (decide (a0.Type_ ≤ 65535))))]) (by kernel_rfl) ?_
  refine WL.both (fun b' => [(1, .pointer (some ⟨b1, 0, none⟩)), (2, .int .i64 0), (12, .bool b')]) ((decide (a0.Type_ ≥ 1536)) && (decide (a0.Type_ ≤ 65535))) 4 [0] [] [1, 2, 16] (fun b' => [(1, .pointer (some ⟨b1, 0, none⟩)), (2, .int .i64 0), (16, .bool (b' && (a0.Type_ != 33024)))]) [b1] [] (fun _ => by kernel_rfl) (fun _ => by kernel_rfl) ?_
  refine WL.run 1 [] [1, 2, 3] (fun _ => [(1, .pointer (some ⟨b1, 0, none⟩)), (2, .int .i64 0), (3, .bool (((decide (a0.Type_ ≥ 1536)) && (decide (a0.Type_ ≤ 65535))) && (a0.Type_ != 33024)))]) (fun _ => [(b1, .cells #[.int .u64 a0.Dst, .int .u64 a0.Src, .bool a0.Tag.Has, .int .i64 a0.Tag.Pri, .bool a0.Tag.Dei, .int .i64 a0.Tag.Vid, .int .i64 a0.Type_, .string a0.Body] 29 (0, 0))]) (fun _ => []) (fun _ => by kernel_rfl) (fun _ => ?_)
  refine WP.done ?_
  refine WP.seq ?_
  refine WP.block ?_
  refine WP.seq ?_
  refine WP.region ?_
  refine WL.run 4 [0] [1, 2, 3, 21] (fun _ => [(1, .pointer (some ⟨b1, 0, none⟩)), (2, .int .i64 0), (3, .bool (((decide (a0.Type_ ≥ 1536)) && (decide (a0.Type_ ≤ 65535))) && (a0.Type_ != 33024))), (21, .bool (decide (a0.Dst ≥ 281474976710656)))]) (fun _ => [(b1, .cells #[.int .u64 a0.Dst, .int .u64 a0.Src, .bool a0.Tag.Has, .int .i64 a0.Tag.Pri, .bool a0.Tag.Dei, .int .i64 a0.Tag.Vid, .int .i64 a0.Type_, .string a0.Body] 29 (0, 0))]) (fun _ => [b1]) (fun _ => by kernel_rfl) (fun _ => ?_)
  refine WL.sub [1, 2, 3, 21] (L' := [(1, .pointer (some ⟨b1, 0, none⟩)), (2, .int .i64 0), (3, .bool (((decide (a0.Type_ ≥ 1536)) && (decide (a0.Type_ ≤ 65535))) && (a0.Type_ != 33024))), (21, .bool (decide (a0.Dst ≥ 281474976710656)))]) (by kernel_rfl) ?_
  refine WL.both (fun b' => [(1, .pointer (some ⟨b1, 0, none⟩)), (2, .int .i64 0), (3, .bool (((decide (a0.Type_ ≥ 1536)) && (decide (a0.Type_ ≤ 65535))) && (a0.Type_ != 33024))), (21, .bool b')]) (decide (a0.Dst ≥ 281474976710656)) 4 [] [0] [1, 2, 3, 25] (fun b' => [(1, .pointer (some ⟨b1, 0, none⟩)), (2, .int .i64 0), (3, .bool (((decide (a0.Type_ ≥ 1536)) && (decide (a0.Type_ ≤ 65535))) && (a0.Type_ != 33024))), (25, .bool (b' || (decide (a0.Src ≥ 281474976710656))))]) [] [b1] (fun _ => by kernel_rfl) (fun _ => by kernel_rfl) ?_
  refine WL.run 1 [] [1, 2, 3, 26] (fun _ => [(1, .pointer (some ⟨b1, 0, none⟩)), (2, .int .i64 0), (3, .bool (((decide (a0.Type_ ≥ 1536)) && (decide (a0.Type_ ≤ 65535))) && (a0.Type_ != 33024))), (26, .bool ((decide (a0.Dst ≥ 281474976710656)) || (decide (a0.Src ≥ 281474976710656))))]) (fun _ => [(b1, .cells #[.int .u64 a0.Dst, .int .u64 a0.Src, .bool a0.Tag.Has, .int .i64 a0.Tag.Pri, .bool a0.Tag.Dei, .int .i64 a0.Tag.Vid, .int .i64 a0.Type_, .string a0.Body] 29 (0, 0))]) (fun _ => []) (fun _ => by kernel_rfl) (fun _ => ?_)
  refine WL.sub [1, 2, 3, 26] (L' := [(1, .pointer (some ⟨b1, 0, none⟩)), (2, .int .i64 0), (3, .bool (((decide (a0.Type_ ≥ 1536)) && (decide (a0.Type_ ≤ 65535))) && (a0.Type_ != 33024))), (26, .bool ((decide (a0.Dst ≥ 281474976710656)) || (decide (a0.Src ≥ 281474976710656))))]) (by kernel_rfl) ?_
  refine WL.join (σ := Bool) 5 (fun st => ether_Check.k2 a0 st = some r) (fun st => [(1, .pointer (some ⟨b1, 0, none⟩)), (2, .int .i64 0), (3, .bool (((decide (a0.Type_ ≥ 1536)) && (decide (a0.Type_ ≤ 65535))) && (a0.Type_ != 33024))), (31, .bool st)]) (fun st => Sat w Z [(b1, .cells #[.int .u64 a0.Dst, .int .u64 a0.Src, .bool a0.Tag.Has, .int .i64 a0.Tag.Pri, .bool a0.Tag.Dei, .int .i64 a0.Tag.Vid, .int .i64 a0.Type_, .string a0.Body] 29 (0, 0))] [] Glob) (fun st hM => ?_) (fun K2 => ?_)
  ·
    obtain ⟨x5, rfl⟩ : ∃ y, y = st := ⟨st, rfl⟩
    replace hM : ether_Check.k2 a0 x5 = some r := hM
    unfold ether_Check.k2 at hM
    show WL _ _ _ _ _ [(1, .pointer (some ⟨b1, 0, none⟩)), (2, .int .i64 0), (3, .bool (((decide (a0.Type_ ≥ 1536)) && (decide (a0.Type_ ≤ 65535))) && (a0.Type_ != 33024))), (31, .bool x5)] (Sat w Z [(b1, .cells #[.int .u64 a0.Dst, .int .u64 a0.Src, .bool a0.Tag.Has, .int .i64 a0.Tag.Pri, .bool a0.Tag.Dei, .int .i64 a0.Tag.Vid, .int .i64 a0.Type_, .string a0.Body] 29 (0, 0))] [] Glob)
    refine WL.run 1 [] [1, 2, 3, 32] (fun _ => [(1, .pointer (some ⟨b1, 0, none⟩)), (2, .int .i64 0), (3, .bool (((decide (a0.Type_ ≥ 1536)) && (decide (a0.Type_ ≤ 65535))) && (a0.Type_ != 33024))), (32, .bool x5)]) (fun _ => [(b1, .cells #[.int .u64 a0.Dst, .int .u64 a0.Src, .bool a0.Tag.Has, .int .i64 a0.Tag.Pri, .bool a0.Tag.Dei, .int .i64 a0.Tag.Vid, .int .i64 a0.Type_, .string a0.Body] 29 (0, 0))]) (fun _ => []) (fun _ => by kernel_rfl) (fun _ => ?_)
    refine WL.sub [1, 2, 3, 32] (L' := [(1, .pointer (some ⟨b1, 0, none⟩)), (2, .int .i64 0), (3, .bool (((decide (a0.Type_ ≥ 1536)) && (decide (a0.Type_ ≤ 65535))) && (a0.Type_ != 33024))), (32, .bool x5)]) (by kernel_rfl) ?_
    refine WL.join (σ := Bool) 8 (fun st => ether_Check.k1 a0 st = some r) (fun st => [(1, .pointer (some ⟨b1, 0, none⟩)), (2, .int .i64 0), (40, .bool st)]) (fun st => Sat w Z [(b1, .cells #[.int .u64 a0.Dst, .int .u64 a0.Src, .bool a0.Tag.Has, .int .i64 a0.Tag.Pri, .bool a0.Tag.Dei, .int .i64 a0.Tag.Vid, .int .i64 a0.Type_, .string a0.Body] 29 (0, 0))] [] Glob) (fun st hM => ?_) (fun K1 => ?_)
    ·
      obtain ⟨x7, rfl⟩ : ∃ y, y = st := ⟨st, rfl⟩
      replace hM : ether_Check.k1 a0 x7 = some r := hM
      unfold ether_Check.k1 at hM
      show WL _ _ _ _ _ [(1, .pointer (some ⟨b1, 0, none⟩)), (2, .int .i64 0), (40, .bool x7)] (Sat w Z [(b1, .cells #[.int .u64 a0.Dst, .int .u64 a0.Src, .bool a0.Tag.Has, .int .i64 a0.Tag.Pri, .bool a0.Tag.Dei, .int .i64 a0.Tag.Vid, .int .i64 a0.Type_, .string a0.Body] 29 (0, 0))] [] Glob)
      refine WL.run 1 [] [1, 2, 17] (fun _ => [(1, .pointer (some ⟨b1, 0, none⟩)), (2, .int .i64 0), (17, .bool x7)]) (fun _ => [(b1, .cells #[.int .u64 a0.Dst, .int .u64 a0.Src, .bool a0.Tag.Has, .int .i64 a0.Tag.Pri, .bool a0.Tag.Dei, .int .i64 a0.Tag.Vid, .int .i64 a0.Type_, .string a0.Body] 29 (0, 0))]) (fun _ => []) (fun _ => by kernel_rfl) (fun _ => ?_)
      refine WP.done ?_
      refine WP.cond x7 rfl rfl (fun c8 => ?_) (fun c8 => ?_)
      · replace hM := cond_t hM c8
        refine WP.seq ?_
        refine WP.run [] [2] (fun _ => [(2, .int .i64 41)]) (fun _ => [(b1, .cells #[.int .u64 a0.Dst, .int .u64 a0.Src, .bool a0.Tag.Has, .int .i64 a0.Tag.Pri, .bool a0.Tag.Dei, .int .i64 a0.Tag.Vid, .int .i64 a0.Type_, .string a0.Body] 29 (0, 0))]) (fun _ => []) (fun _ => by kernel_rfl) (fun _ => ?_)
        refine WP.keep [false] (by kernel_rfl : _ = []) ?_
        obtain rfl := Option.some.inj hM
        exact WP.ret [] [] (.int .i64 41) (by kernel_rfl) (fun w' hw => ⟨rfl, hw.pick [] rfl⟩)
      · replace hM := cond_f hM c8
        refine WP.seq ?_
        refine WP.region ?_
        refine WL.run 4 [0] [1, 2, 45] (fun _ => [(1, .pointer (some ⟨b1, 0, none⟩)), (2, .int .i64 0), (45, .bool (a0.Type_ == 0))]) (fun _ => [(b1, .cells #[.int .u64 a0.Dst, .int .u64 a0.Src, .bool a0.Tag.Has, .int .i64 a0.Tag.Pri, .bool a0.Tag.Dei, .int .i64 a0.Tag.Vid, .int .i64 a0.Type_, .string a0.Body] 29 (0, 0))]) (fun _ => [b1]) (fun _ => by kernel_rfl) (fun _ => ?_)
        refine WL.sub [1, 2, 45] (L' := [(1, .pointer (some ⟨b1, 0, none⟩)), (2, .int .i64 0), (45, .bool (a0.Type_ == 0))]) (by kernel_rfl) ?_
        refine WL.both (fun b' => [(1, .pointer (some ⟨b1, 0, none⟩)), (2, .int .i64 0), (45, .bool b')]) (a0.Type_ == 0) 5 [0] [] [1, 2, 50] (fun b' => [(1, .pointer (some ⟨b1, 0, none⟩)), (2, .int .i64 0), (50, .bool (b' && (decide ((a0.Body.size : Int) > 1500))))]) [b1] [] (fun _ => by kernel_rfl) (fun _ => by kernel_rfl) ?_
        refine WL.run 1 [] [1, 2, 41] (fun _ => [(1, .pointer (some ⟨b1, 0, none⟩)), (2, .int .i64 0), (41, .bool ((a0.Type_ == 0) && (decide ((a0.Body.size : Int) > 1500))))]) (fun _ => [(b1, .cells #[.int .u64 a0.Dst, .int .u64 a0.Src, .bool a0.Tag.Has, .int .i64 a0.Tag.Pri, .bool a0.Tag.Dei, .int .i64 a0.Tag.Vid, .int .i64 a0.Type_, .string a0.Body] 29 (0, 0))]) (fun _ => []) (fun _ => by kernel_rfl) (fun _ => ?_)
        refine WP.done ?_
        refine WP.cond ((a0.Type_ == 0) && (decide ((a0.Body.size : Int) > 1500))) rfl rfl (fun c9 => ?_) (fun c9 => ?_)
        · replace hM := cond_t hM c9
          refine WP.seq ?_
          refine WP.run [] [2] (fun _ => [(2, .int .i64 40)]) (fun _ => [(b1, .cells #[.int .u64 a0.Dst, .int .u64 a0.Src, .bool a0.Tag.Has, .int .i64 a0.Tag.Pri, .bool a0.Tag.Dei, .int .i64 a0.Tag.Vid, .int .i64 a0.Type_, .string a0.Body] 29 (0, 0))]) (fun _ => []) (fun _ => by kernel_rfl) (fun _ => ?_)
          refine WP.keep [false] (by kernel_rfl : _ = []) ?_
          obtain rfl := Option.some.inj hM
          exact WP.ret [] [] (.int .i64 40) (by kernel_rfl) (fun w' hw => ⟨rfl, hw.pick [] rfl⟩)
        · replace hM := cond_f hM c9
          refine WP.seq ?_
          refine WP.region ?_
          refine WL.run 1 [0, 0, 0, 0, 0, 0, 0, 0] [2, 52] (fun _ => [(2, .int .i64 0), (52, .agg #[.int .u64 a0.Dst, .int .u64 a0.Src, .bool a0.Tag.Has, .int .i64 a0.Tag.Pri, .bool a0.Tag.Dei, .int .i64 a0.Tag.Vid, .int .i64 a0.Type_, .string a0.Body])]) (fun _ => [(b1, .cells #[.int .u64 a0.Dst, .int .u64 a0.Src, .bool a0.Tag.Has, .int .i64 a0.Tag.Pri, .bool a0.Tag.Dei, .int .i64 a0.Tag.Vid, .int .i64 a0.Type_, .string a0.Body] 29 (0, 0))]) (fun _ => [b1, b1, b1, b1, b1, b1, b1, b1]) (fun _ => by kernel_rfl) (fun _ => ?_)
          obtain ⟨r10, h11, hM⟩ := bind_some hM
          refine WL.callP [] [] (ether_size_calls a0 _ h11) (fun _ h => h) (by kernel_rfl) (by kernel_rfl) rfl ?_
          refine WL.run 2 [] [2, 51] (fun _ => [(2, .int .i64 0), (51, .bool (decide (r10 > 1600)))]) (fun _ => [(b1, .cells #[.int .u64 a0.Dst, .int .u64 a0.Src, .bool a0.Tag.Has, .int .i64 a0.Tag.Pri, .bool a0.Tag.Dei, .int .i64 a0.Tag.Vid, .int .i64 a0.Type_, .string a0.Body] 29 (0, 0))]) (fun _ => []) (fun _ => by kernel_rfl) (fun _ => ?_)
          refine WP.done ?_
          refine WP.keep [false] (by kernel_rfl : _ = []) ?_
          refine WP.cond (decide (r10 > 1600)) rfl rfl (fun c12 => ?_) (fun c12 => ?_)
          · replace hM := cond_t hM c12
            refine WP.seq ?_
            refine WP.run [] [2] (fun _ => [(2, .int .i64 41)]) (fun _ => []) (fun _ => []) (fun _ => by kernel_rfl) (fun _ => ?_)
            obtain rfl := Option.some.inj hM
            exact WP.ret [] [] (.int .i64 41) (by kernel_rfl) (fun w' hw => ⟨rfl, hw.pick [] rfl⟩)
          · replace hM := cond_f hM c12
            refine WP.skip ?_
            refine WP.leave ?_
            refine WP.seq ?_
            refine WP.run [] [2] (fun _ => [(2, .int .i64 0)]) (fun _ => []) (fun _ => []) (fun _ => by kernel_rfl) (fun _ => ?_)
            obtain rfl := Option.some.inj hM
            exact WP.ret [] [] (.int .i64 0) (by kernel_rfl) (fun w' hw => ⟨rfl, hw.pick [] rfl⟩)
    ·
      refine WL.split (fun b' => [(1, .pointer (some ⟨b1, 0, none⟩)), (2, .int .i64 0), (3, .bool (((decide (a0.Type_ ≥ 1536)) && (decide (a0.Type_ ≤ 65535))) && (a0.Type_ != 33024))), (32, .bool b')]) x5 (fun c6 => ?_) (fun c6 => ?_)
      · replace hM := cond_t hM c6
        refine WL.run 8 [] [1, 2, 40] (fun _ => [(1, .pointer (some ⟨b1, 0, none⟩)), (2, .int .i64 0), (40, .bool true)]) (fun _ => [(b1, .cells #[.int .u64 a0.Dst, .int .u64 a0.Src, .bool a0.Tag.Has, .int .i64 a0.Tag.Pri, .bool a0.Tag.Dei, .int .i64 a0.Tag.Vid, .int .i64 a0.Type_, .string a0.Body] 29 (0, 0))]) (fun _ => []) (fun _ => by kernel_rfl) (fun _ => ?_)
        exact WL.sub [1, 2, 40] (by kernel_rfl) (WL.pick [0] (by kernel_rfl) (by kernel_rfl) (K1 true hM))
      · replace hM := cond_f hM c6
        refine WL.run 4 [0] [1, 2, 3, 32, 36] (fun _ => [(1, .pointer (some ⟨b1, 0, none⟩)), (2, .int .i64 0), (3, .bool (((decide (a0.Type_ ≥ 1536)) && (decide (a0.Type_ ≤ 65535))) && (a0.Type_ != 33024))), (32, .bool false), (36, .bool (a0.Type_ != 0))]) (fun _ => [(b1, .cells #[.int .u64 a0.Dst, .int .u64 a0.Src, .bool a0.Tag.Has, .int .i64 a0.Tag.Pri, .bool a0.Tag.Dei, .int .i64 a0.Tag.Vid, .int .i64 a0.Type_, .string a0.Body] 29 (0, 0))]) (fun _ => [b1]) (fun _ => by kernel_rfl) (fun _ => ?_)
        refine WL.sub [1, 2, 3, 32, 36] (L' := [(1, .pointer (some ⟨b1, 0, none⟩)), (2, .int .i64 0), (3, .bool (((decide (a0.Type_ ≥ 1536)) && (decide (a0.Type_ ≤ 65535))) && (a0.Type_ != 33024))), (32, .bool false), (36, .bool (a0.Type_ != 0))]) (by kernel_rfl) ?_
        refine WL.both (fun b' => [(1, .pointer (some ⟨b1, 0, none⟩)), (2, .int .i64 0), (3, .bool (((decide (a0.Type_ ≥ 1536)) && (decide (a0.Type_ ≤ 65535))) && (a0.Type_ != 33024))), (32, .bool false), (36, .bool b')]) (a0.Type_ != 0) 3 [] [] [1, 2, 32, 39] (fun b' => [(1, .pointer (some ⟨b1, 0, none⟩)), (2, .int .i64 0), (32, .bool false), (39, .bool (b' && (!(((decide (a0.Type_ ≥ 1536)) && (decide (a0.Type_ ≤ 65535))) && (a0.Type_ != 33024)))))]) [] [] (fun _ => by kernel_rfl) (fun _ => by kernel_rfl) ?_
        refine WL.run 1 [] [1, 2, 40] (fun _ => [(1, .pointer (some ⟨b1, 0, none⟩)), (2, .int .i64 0), (40, .bool ((a0.Type_ != 0) && (!(((decide (a0.Type_ ≥ 1536)) && (decide (a0.Type_ ≤ 65535))) && (a0.Type_ != 33024)))))]) (fun _ => [(b1, .cells #[.int .u64 a0.Dst, .int .u64 a0.Src, .bool a0.Tag.Has, .int .i64 a0.Tag.Pri, .bool a0.Tag.Dei, .int .i64 a0.Tag.Vid, .int .i64 a0.Type_, .string a0.Body] 29 (0, 0))]) (fun _ => []) (fun _ => by kernel_rfl) (fun _ => ?_)
        exact WL.sub [1, 2, 40] (by kernel_rfl) (WL.pick [0] (by kernel_rfl) (by kernel_rfl) (K1 ((a0.Type_ != 0) && (!(((decide (a0.Type_ ≥ 1536)) && (decide (a0.Type_ ≤ 65535))) && (a0.Type_ != 33024)))) hM))
  ·
    refine WL.split (fun b' => [(1, .pointer (some ⟨b1, 0, none⟩)), (2, .int .i64 0), (3, .bool (((decide (a0.Type_ ≥ 1536)) && (decide (a0.Type_ ≤ 65535))) && (a0.Type_ != 33024))), (26, .bool b')]) ((decide (a0.Dst ≥ 281474976710656)) || (decide (a0.Src ≥ 281474976710656))) (fun c2 => ?_) (fun c2 => ?_)
    · replace hM := cond_t hM c2
      refine WL.run 5 [] [1, 2, 3, 31] (fun _ => [(1, .pointer (some ⟨b1, 0, none⟩)), (2, .int .i64 0), (3, .bool (((decide (a0.Type_ ≥ 1536)) && (decide (a0.Type_ ≤ 65535))) && (a0.Type_ != 33024))), (31, .bool true)]) (fun _ => [(b1, .cells #[.int .u64 a0.Dst, .int .u64 a0.Src, .bool a0.Tag.Has, .int .i64 a0.Tag.Pri, .bool a0.Tag.Dei, .int .i64 a0.Tag.Vid, .int .i64 a0.Type_, .string a0.Body] 29 (0, 0))]) (fun _ => []) (fun _ => by kernel_rfl) (fun _ => ?_)
      exact WL.sub [1, 2, 3, 31] (by kernel_rfl) (WL.pick [0] (by kernel_rfl) (by kernel_rfl) (K2 true hM))
    · replace hM := cond_f hM c2
      refine WL.run 2 [0, 0, 0, 0] [1, 2, 3, 26, 28] (fun _ => [(1, .pointer (some ⟨b1, 0, none⟩)), (2, .int .i64 0), (3, .bool (((decide (a0.Type_ ≥ 1536)) && (decide (a0.Type_ ≤ 65535))) && (a0.Type_ != 33024))), (26, .bool false), (28, .agg #[.bool a0.Tag.Has, .int .i64 a0.Tag.Pri, .bool a0.Tag.Dei, .int .i64 a0.Tag.Vid])]) (fun _ => [(b1, .cells #[.int .u64 a0.Dst, .int .u64 a0.Src, .bool a0.Tag.Has, .int .i64 a0.Tag.Pri, .bool a0.Tag.Dei, .int .i64 a0.Tag.Vid, .int .i64 a0.Type_, .string a0.Body] 29 (0, 0))]) (fun _ => [b1, b1, b1, b1]) (fun _ => by kernel_rfl) (fun _ => ?_)
      obtain ⟨r3, h4, hM⟩ := bind_some hM
      refine WL.callP [] [] (ether_tag_calls a0.Tag _ h4) (fun _ h => h) (by kernel_rfl) (by kernel_rfl) rfl ?_
      refine WL.run 2 [] [1, 2, 3, 31] (fun _ => [(1, .pointer (some ⟨b1, 0, none⟩)), (2, .int .i64 0), (3, .bool (((decide (a0.Type_ ≥ 1536)) && (decide (a0.Type_ ≤ 65535))) && (a0.Type_ != 33024))), (31, .bool (!r3))]) (fun _ => [(b1, .cells #[.int .u64 a0.Dst, .int .u64 a0.Src, .bool a0.Tag.Has, .int .i64 a0.Tag.Pri, .bool a0.Tag.Dei, .int .i64 a0.Tag.Vid, .int .i64 a0.Type_, .string a0.Body] 29 (0, 0))]) (fun _ => []) (fun _ => by kernel_rfl) (fun _ => ?_)
      exact WL.sub [1, 2, 3, 31] (by kernel_rfl) (WL.pick [0] (by kernel_rfl) (by kernel_rfl) (K2 (!r3) hM))

end Go.Proofs.YtbodofjnfmjbpaaGreatDoor

namespace Go.Proofs.YtbodofjnfmjbpaaGreatDoor
open Go Eng
set_option linter.unusedVariables false
set_option linter.unusedSimpArgs false

/-! ### gangway/octets.Put: function 38 -/
def octets_Put.k4 (t8 : Nat) (x24 : (List Int)) : Option (ByteArray × Int) :=
  (strOf t8 x24).bind fun t25 =>
  some (t25, 0)

def octets_Put.l3 (t8 : Nat) (a0 : Int) (a1 : Int) : Nat → Int → (List Int) → Option (ByteArray × Int)
  | 0, _, _ => none
  | n + 1, x17, x18 =>
    bif decide (x17 < (t8 : Int)) then
      (shrI .u64 a0 (i64 (8 * x17))).bind fun t20 =>
      (getL t8 x18 (i64 ((i64 (a1 - 1)) - x17))).bind fun t22 =>
      octets_Put.l3 t8 a0 a1 n (i64 (x17 + 1)) (List.set x18 (i64 ((i64 (a1 - 1)) - x17)).toNat (u8 t20))
    else
      octets_Put.k4 t8 x18

def octets_Put.k2 (a1 : Int) (a0 : Int) (k : Nat) (x6 : Bool) : Option (ByteArray × Int) :=
  bif x6 then
    some ((⟨#[]⟩ : ByteArray), 1)
  else
    (mkLen 1 a1).bind fun t8 =>
    octets_Put.l3 t8 a0 a1 k 0 (List.replicate t8 0)

def octets_Put.k1 (a1 : Int) (a0 : Int) (k : Nat) (x5 : Bool) : Option (ByteArray × Int) :=
  octets_Put.k2 a1 a0 k x5

def octets_Put.f (k : Nat) (a0 : Int) (a1 : Int) : Option (ByteArray × Int) :=
  bif ((decide (a1 < 1)) || (decide (a1 > 8))) then
    octets_Put.k2 a1 a0 k true
  else
    bif decide (a1 < 8) then
      (shrI .u64 a0 (i64 (8 * a1))).bind fun t3 =>
      octets_Put.k1 a1 a0 k (t3 != 0)
    else
      octets_Put.k1 a1 a0 k false

set_option maxRecDepth 100000 in
theorem octets_Put_calls (k : Nat) (a0 : Int) (a1 : Int) (r : ByteArray × Int) (h : octets_Put.f k a0 a1 = some r) : Pure Tryz.prog Glob 38 #[.int .u64 a0, .int .i64 a1] (.tuple #[.string r.1, .int .i64 r.2]) := by
  intro w Z hS
  refine calls_of (args := [.int .u64 a0, .int .i64 a1]) (L := [(0, .int .u64 a0), (1, .int .i64 a1)]) (N := 46) (S := Sat w Z [] [] Glob) Tryz.func38 rfl rfl (Nat.le_of_ble_eq_true rfl) rfl hS ?_
  have hM := h
  clear h hS
  unfold octets_Put.f at hM
  refine WP.seq ?_
  refine WP.run [] [0, 1, 4, 5] (fun _ => [(0, .int .u64 a0), (1, .int .i64 a1), (4, .string (⟨#[]⟩ : ByteArray)), (5, .int .i64 0)]) (fun _ => []) (fun _ => []) (fun _ => by kernel_rfl) (fun _ => ?_)
  refine WP.seq ?_
  refine WP.seq ?_
  refine WP.region ?_
  refine WL.run 3 [] [0, 1, 4, 5, 10] (fun _ => [(0, .int .u64 a0), (1, .int .i64 a1), (4, .string (⟨#[]⟩ : ByteArray)), (5, .int .i64 0), (10, .bool (decide (a1 < 1)))]) (fun _ => []) (fun _ => []) (fun _ => by kernel_rfl) (fun _ => ?_)
  refine WL.sub [0, 1, 4, 5, 10] (L' := [(0, .int .u64 a0), (1, .int .i64 a1), (4, .string (⟨#[]⟩ : ByteArray)), (5, .int .i64 0), (10, .bool (decide (a1 < 1)))]) (by kernel_rfl) ?_
  refine WL.both (fun b' => [(0, .int .u64 a0), (1, .int .i64 a1), (4, .string (⟨#[]⟩ : ByteArray)), (5, .int .i64 0), (10, .bool b')]) (decide (a1 < 1)) 3 [] [] [0, 1, 4, 5, 13] (fun b' => [(0, .int .u64 a0), (1, .int .i64 a1), (4, .string (⟨#[]⟩ : ByteArray)), (5, .int .i64 0), (13, .bool (b' || (decide (a1 > 8))))]) [] [] (fun _ => by kernel_rfl) (fun _ => by kernel_rfl) ?_
  refine WL.run 1 [] [0, 1, 4, 5, 14] (fun _ => [(0, .int .u64 a0), (1, .int .i64 a1), (4, .string (⟨#[]⟩ : ByteArray)), (5, .int .i64 0), (14, .bool ((decide (a1 < 1)) || (decide (a1 > 8))))]) (fun _ => []) (fun _ => []) (fun _ => by kernel_rfl) (fun _ => ?_)
  refine WL.sub [0, 1, 4, 5, 14] (L' := [(0, .int .u64 a0), (1, .int .i64 a1), (4, .string (⟨#[]⟩ : ByteArray)), (5, .int .i64 0), (14, .bool ((decide (a1 < 1)) || (decide (a1 > 8))))]) (by kernel_rfl) ?_
  refine WL.join (σ := Bool) 10 (fun st => octets_Put.k2 a1 a0 k st = some r) (fun st => [(0, .int .u64 a0), (1, .int .i64 a1), (4, .string (⟨#[]⟩ : ByteArray)), (5, .int .i64 0), (24, .bool st)]) (fun st => Sat w Z [] [] Glob) (fun st hM => ?_) (fun K2 => ?_)
  ·
    obtain ⟨x6, rfl⟩ : ∃ y, y = st := ⟨st, rfl⟩
    replace hM : octets_Put.k2 a1 a0 k x6 = some r := hM
    unfold octets_Put.k2 at hM
    show WL _ _ _ _ _ [(0, .int .u64 a0), (1, .int .i64 a1), (4, .string (⟨#[]⟩ : ByteArray)), (5, .int .i64 0), (24, .bool x6)] (Sat w Z [] [] Glob)
    refine WP.done ?_
    refine WP.cond x6 rfl rfl (fun c7 => ?_) (fun c7 => ?_)
    · replace hM := cond_t hM c7
      refine WP.seq ?_
      refine WP.run [] [0, 1, 4, 5] (fun _ => [(0, .int .u64 a0), (1, .int .i64 a1), (4, .string (⟨#[]⟩ : ByteArray)), (5, .int .i64 1)]) (fun _ => []) (fun _ => []) (fun _ => by kernel_rfl) (fun _ => ?_)
      obtain rfl := Option.some.inj hM
      exact WP.ret [] [] (.tuple #[.string (⟨#[]⟩ : ByteArray), .int .i64 1]) (by kernel_rfl) (fun w' hw => ⟨rfl, hw.pick [] rfl⟩)
    · replace hM := cond_f hM c7
      refine WP.skip ?_
      refine WP.seq ?_
      refine WP.region ?_
      refine WL.run 1 [] [0, 1, 4, 5, 25] (fun _ => [(0, .int .u64 a0), (1, .int .i64 a1), (4, .string (⟨#[]⟩ : ByteArray)), (5, .int .i64 0), (25, .int .i64 a1)]) (fun _ => []) (fun _ => []) (fun _ => by kernel_rfl) (fun _ => ?_)
      obtain ⟨t8, h9, hM⟩ := bind_some hM
      refine WL.makeSlice (f := (encI .u8)) (z := 0) (zv := .int .u8 0) (i := a1) (k := .i64) (e := 5) (by kernel_rfl) (by kernel_rfl) rfl Nat.zero_lt_one (fun _ => rfl) (by kernel_rfl) (by kernel_rfl) h9 (by kernel_rfl) rfl (fun b10 => ?_)
      refine WL.run 1 [] [0, 1, 4, 5, 6] (fun _ => [(0, .int .u64 a0), (1, .int .i64 a1), (4, .string (⟨#[]⟩ : ByteArray)), (5, .int .i64 0), (6, .slice (some ⟨b10, 0, none⟩) t8 t8)]) (fun _ => [(b10, .cells (rowF (encI .u8) (List.replicate t8 0)) 5 (0, 0))]) (fun _ => []) (fun _ => by kernel_rfl) (fun _ => ?_)
      refine WP.done ?_
      refine WP.seq ?_
      refine WP.seq ?_
      refine WP.run [] [0, 1, 4, 5, 6, 28, 29] (fun _ => [(0, .int .u64 a0), (1, .int .i64 a1), (4, .string (⟨#[]⟩ : ByteArray)), (5, .int .i64 0), (6, .slice (some ⟨b10, 0, none⟩) t8 t8), (28, .int .i64 (t8 : Int)), (29, .int .i64 0)]) (fun _ => [(b10, .cells (rowF (encI .u8) (List.replicate t8 0)) 5 (0, 0))]) (fun _ => []) (fun _ => by kernel_rfl) (fun _ => ?_)
      refine WP.blockJoin (σ := (List Int)) (fun st => octets_Put.k4 t8 st = some r) (fun st => [(4, .string (⟨#[]⟩ : ByteArray)), (5, .int .i64 0), (6, .slice (some ⟨b10, 0, none⟩) t8 t8)]) (fun st => Sat w Z [(b10, .cells (rowF (encI .u8) st) 5 (0, 0))] [] Glob) (fun st hM => ?_) (fun K4 => ?_)
      ·
        obtain ⟨x24, rfl⟩ : ∃ y, y = st := ⟨st, rfl⟩
        replace hM : octets_Put.k4 t8 x24 = some r := hM
        unfold octets_Put.k4 at hM
        show WP _ _ _ _ _ [(4, .string (⟨#[]⟩ : ByteArray)), (5, .int .i64 0), (6, .slice (some ⟨b10, 0, none⟩) t8 t8)] (Sat w Z [(b10, .cells (rowF (encI .u8) x24) 5 (0, 0))] [] Glob)
        refine WP.seq ?_
        refine WP.region ?_
        refine WL.run 1 [] [4, 5, 44] (fun _ => [(4, .string (⟨#[]⟩ : ByteArray)), (5, .int .i64 0), (44, .slice (some ⟨b10, 0, none⟩) t8 t8)]) (fun _ => [(b10, .cells (rowF (encI .u8) x24) 5 (0, 0))]) (fun _ => []) (fun _ => by kernel_rfl) (fun _ => ?_)
        obtain ⟨t25, h26, hM⟩ := bind_some hM
        refine WL.strOf (b := b10) (n := t8) (c := t8) (xs := x24) (e0 := 5) (fr := (0, 0)) 0 (e := 5) (by kernel_rfl) (by kernel_rfl) (by kernel_rfl) (by kernel_rfl) (by kernel_rfl) (by kernel_rfl) h26 (by kernel_rfl) rfl ?_
        refine WL.run 2 [] [4, 5] (fun _ => [(4, .string t25), (5, .int .i64 0)]) (fun _ => [(b10, .cells (rowF (encI .u8) x24) 5 (0, 0))]) (fun _ => []) (fun _ => by kernel_rfl) (fun _ => ?_)
        refine WP.done ?_
        refine WP.keep [false] (by kernel_rfl : _ = []) ?_
        obtain rfl := Option.some.inj hM
        exact WP.ret [] [] (.tuple #[.string t25, .int .i64 0]) (by kernel_rfl) (fun w' hw => ⟨rfl, hw.pick [] rfl⟩)
      ·
        refine WP.sub [0, 1, 4, 5, 6, 28, 29] (L' := [(0, .int .u64 a0), (1, .int .i64 a1), (4, .string (⟨#[]⟩ : ByteArray)), (5, .int .i64 0), (6, .slice (some ⟨b10, 0, none⟩) t8 t8), (28, .int .i64 (t8 : Int)), (29, .int .i64 0)]) (by kernel_rfl) ?_
        refine WP.loop (σ := Int × (List Int)) (fun n st => octets_Put.l3 t8 a0 a1 n st.1 st.2) r (fun st => [(0, .int .u64 a0), (1, .int .i64 a1), (4, .string (⟨#[]⟩ : ByteArray)), (5, .int .i64 0), (6, .slice (some ⟨b10, 0, none⟩) t8 t8), (28, .int .i64 (t8 : Int)), (29, .int .i64 st.1)]) (fun st => Sat w Z [(b10, .cells (rowF (encI .u8) st.2) 5 (0, 0))] [] Glob) (st := (0, (List.replicate t8 0))) (fun n st hM => ?_) hM
        rcases n with _ | n
        · exact nomatch (show (none : Option _) = some r from hM)
        obtain ⟨x17, x18⟩ := st
        replace hM : octets_Put.l3 t8 a0 a1 (n + 1) x17 x18 = some r := hM
        rw [octets_Put.l3] at hM
        show WP _ _ _ _ _ [(0, .int .u64 a0), (1, .int .i64 a1), (4, .string (⟨#[]⟩ : ByteArray)), (5, .int .i64 0), (6, .slice (some ⟨b10, 0, none⟩) t8 t8), (28, .int .i64 (t8 : Int)), (29, .int .i64 x17)] (Sat w Z [(b10, .cells (rowF (encI .u8) x18) 5 (0, 0))] [] Glob)
        refine WP.seq ?_
        refine WP.run [] [0, 1, 4, 5, 6, 28, 29, 30] (fun _ => [(0, .int .u64 a0), (1, .int .i64 a1), (4, .string (⟨#[]⟩ : ByteArray)), (5, .int .i64 0), (6, .slice (some ⟨b10, 0, none⟩) t8 t8), (28, .int .i64 (t8 : Int)), (29, .int .i64 x17), (30, .bool (decide (x17 < (t8 : Int))))]) (fun _ => [(b10, .cells (rowF (encI .u8) x18) 5 (0, 0))]) (fun _ => []) (fun _ => by kernel_rfl) (fun _ => ?_)
        refine WP.seq ?_
        refine WP.cond (decide (x17 < (t8 : Int))) rfl rfl (fun c19 => ?_) (fun c19 => ?_)
        · replace hM := cond_t hM c19
          refine WP.skip ?_
          refine WP.seq ?_
          refine WP.block ?_
          refine WP.seq ?_
          refine WP.run [] [0, 1, 4, 5, 6, 7, 28, 29, 30, 31] (fun _ => [(0, .int .u64 a0), (1, .int .i64 a1), (4, .string (⟨#[]⟩ : ByteArray)), (5, .int .i64 0), (6, .slice (some ⟨b10, 0, none⟩) t8 t8), (7, .int .i64 x17), (28, .int .i64 (t8 : Int)), (29, .int .i64 x17), (30, .bool (decide (x17 < (t8 : Int)))), (31, .int .i64 x17)]) (fun _ => [(b10, .cells (rowF (encI .u8) x18) 5 (0, 0))]) (fun _ => []) (fun _ => by kernel_rfl) (fun _ => ?_)
          refine WP.region ?_
          refine WL.run 8 [] [0, 1, 4, 5, 6, 7, 28, 29, 30, 31, 32, 33, 34, 35, 36, 37, 38, 39] (fun _ => [(0, .int .u64 a0), (1, .int .i64 a1), (4, .string (⟨#[]⟩ : ByteArray)), (5, .int .i64 0), (6, .slice (some ⟨b10, 0, none⟩) t8 t8), (7, .int .i64 x17), (28, .int .i64 (t8 : Int)), (29, .int .i64 x17), (30, .bool (decide (x17 < (t8 : Int)))), (31, .int .i64 x17), (32, .slice (some ⟨b10, 0, none⟩) t8 t8), (33, .int .i64 a1), (34, .int .i64 (i64 (a1 - 1))), (35, .int .i64 x17), (36, .int .i64 (i64 ((i64 (a1 - 1)) - x17))), (37, .int .u64 a0), (38, .int .i64 x17), (39, .int .i64 (i64 (8 * x17)))]) (fun _ => [(b10, .cells (rowF (encI .u8) x18) 5 (0, 0))]) (fun _ => []) (fun _ => by kernel_rfl) (fun _ => ?_)
          obtain ⟨t20, h21, hM⟩ := bind_some hM
          refine WL.val (fun _ => run_shr (k := .u64) (k' := .i64) (a := a0) (b := i64 (8 * x17)) (by kernel_rfl) (by kernel_rfl) h21) (by kernel_rfl) (by kernel_rfl) rfl ?_
          refine WL.run 1 [] [0, 1, 4, 5, 6, 7, 28, 29, 30, 31, 32, 33, 34, 35, 36, 37, 38, 39, 40, 41] (fun _ => [(0, .int .u64 a0), (1, .int .i64 a1), (4, .string (⟨#[]⟩ : ByteArray)), (5, .int .i64 0), (6, .slice (some ⟨b10, 0, none⟩) t8 t8), (7, .int .i64 x17), (28, .int .i64 (t8 : Int)), (29, .int .i64 x17), (30, .bool (decide (x17 < (t8 : Int)))), (31, .int .i64 x17), (32, .slice (some ⟨b10, 0, none⟩) t8 t8), (33, .int .i64 a1), (34, .int .i64 (i64 (a1 - 1))), (35, .int .i64 x17), (36, .int .i64 (i64 ((i64 (a1 - 1)) - x17))), (37, .int .u64 a0), (38, .int .i64 x17), (39, .int .i64 (i64 (8 * x17))), (40, .int .u64 t20), (41, .int .u8 (u8 t20))]) (fun _ => [(b10, .cells (rowF (encI .u8) x18) 5 (0, 0))]) (fun _ => []) (fun _ => by kernel_rfl) (fun _ => ?_)
          obtain ⟨t22, h23, hM⟩ := bind_some hM
          refine WL.val (fun _ => run_indexAddr (i := i64 ((i64 (a1 - 1)) - x17)) (k := .i64) (b := b10) (o := 0) (n := t8) (c := t8) (e := 5) (sz := 1) (by kernel_rfl) (by kernel_rfl) (by kernel_rfl) (by kernel_rfl) (getL_parts h23).1) (by kernel_rfl) (by kernel_rfl) rfl ?_
          refine WL.storeCell (b := b10) (off := 0 + (i64 ((i64 (a1 - 1)) - x17)).toNat * 1) (e := 5) (H' := [(b10, .cells (rowF (encI .u8) (List.set x18 (i64 ((i64 (a1 - 1)) - x17)).toNat (u8 t20))) 5 (0, 0))]) (v := .int .u8 (u8 t20)) (u := .int .u8 t22) 0 (fun _ => by kernel_rfl) (by kernel_rfl) (by kernel_rfl) (by kernel_rfl) (by kernel_rfl) rfl (by kernel_rfl) (rowF_at0 (f := (encI .u8)) (m := 1) (fun _ => rfl) Nat.zero_lt_one h23) (rowF_set0 (f := (encI .u8)) (m := 1) (x' := u8 t20) (fun _ => rfl) Nat.zero_lt_one h23 rfl) (by kernel_rfl) (by kernel_rfl) ?_
          refine WP.done ?_
          refine WP.leave ?_
          refine WP.run [] [0, 1, 4, 5, 6, 7, 28, 29, 30, 31, 32, 33, 34, 35, 36, 37, 38, 39, 40, 41, 42, 43] (fun _ => [(0, .int .u64 a0), (1, .int .i64 a1), (4, .string (⟨#[]⟩ : ByteArray)), (5, .int .i64 0), (6, .slice (some ⟨b10, 0, none⟩) t8 t8), (7, .int .i64 x17), (28, .int .i64 (t8 : Int)), (29, .int .i64 (i64 (x17 + 1))), (30, .bool (decide (x17 < (t8 : Int)))), (31, .int .i64 x17), (32, .slice (some ⟨b10, 0, none⟩) t8 t8), (33, .int .i64 a1), (34, .int .i64 (i64 (a1 - 1))), (35, .int .i64 x17), (36, .int .i64 (i64 ((i64 (a1 - 1)) - x17))), (37, .int .u64 a0), (38, .int .i64 x17), (39, .int .i64 (i64 (8 * x17))), (40, .int .u64 t20), (41, .int .u8 (u8 t20)), (42, .pointer (some ⟨b10, 0 + (i64 ((i64 (a1 - 1)) - x17)).toNat * 1, none⟩)), (43, .int .i64 (i64 (x17 + 1)))]) (fun _ => [(b10, .cells (rowF (encI .u8) (List.set x18 (i64 ((i64 (a1 - 1)) - x17)).toNat (u8 t20))) 5 (0, 0))]) (fun _ => []) (fun _ => by kernel_rfl) (fun _ => ?_)
          exact WP.again' [0, 1, 4, 5, 6, 28, 29] (i64 (x17 + 1), (List.set x18 (i64 ((i64 (a1 - 1)) - x17)).toNat (u8 t20))) hM (by kernel_rfl) (fun _ h => h.pick [0] (by kernel_rfl))
        · replace hM := cond_f hM c19
          refine WP.exit rfl ?_
          exact WP.sub [4, 5, 6] (by kernel_rfl) (WP.pick [0] (by kernel_rfl) (by kernel_rfl) (K4 x18 hM))
  ·
    refine WL.split (fun b' => [(0, .int .u64 a0), (1, .int .i64 a1), (4, .string (⟨#[]⟩ : ByteArray)), (5, .int .i64 0), (14, .bool b')]) ((decide (a1 < 1)) || (decide (a1 > 8))) (fun c1 => ?_) (fun c1 => ?_)
    · replace hM := cond_t hM c1
      refine WL.run 10 [] [0, 1, 4, 5, 24] (fun _ => [(0, .int .u64 a0), (1, .int .i64 a1), (4, .string (⟨#[]⟩ : ByteArray)), (5, .int .i64 0), (24, .bool true)]) (fun _ => []) (fun _ => []) (fun _ => by kernel_rfl) (fun _ => ?_)
      exact WL.sub [0, 1, 4, 5, 24] (by kernel_rfl) (WL.pick [] (by kernel_rfl) (by kernel_rfl) (K2 true hM))
    · replace hM := cond_f hM c1
      refine WL.run 3 [] [0, 1, 4, 5, 14, 17] (fun _ => [(0, .int .u64 a0), (1, .int .i64 a1), (4, .string (⟨#[]⟩ : ByteArray)), (5, .int .i64 0), (14, .bool false), (17, .bool (decide (a1 < 8)))]) (fun _ => []) (fun _ => []) (fun _ => by kernel_rfl) (fun _ => ?_)
      refine WL.sub [0, 1, 4, 5, 14, 17] (L' := [(0, .int .u64 a0), (1, .int .i64 a1), (4, .string (⟨#[]⟩ : ByteArray)), (5, .int .i64 0), (14, .bool false), (17, .bool (decide (a1 < 8)))]) (by kernel_rfl) ?_
      refine WL.join (σ := Bool) 6 (fun st => octets_Put.k1 a1 a0 k st = some r) (fun st => [(0, .int .u64 a0), (1, .int .i64 a1), (4, .string (⟨#[]⟩ : ByteArray)), (5, .int .i64 0), (14, .bool false), (23, .bool st)]) (fun st => Sat w Z [] [] Glob) (fun st hM => ?_) (fun K1 => ?_)
      ·
        obtain ⟨x5, rfl⟩ : ∃ y, y = st := ⟨st, rfl⟩
        replace hM : octets_Put.k1 a1 a0 k x5 = some r := hM
        unfold octets_Put.k1 at hM
        show WL _ _ _ _ _ [(0, .int .u64 a0), (1, .int .i64 a1), (4, .string (⟨#[]⟩ : ByteArray)), (5, .int .i64 0), (14, .bool false), (23, .bool x5)] (Sat w Z [] [] Glob)
        refine WL.run 1 [] [0, 1, 4, 5, 24] (fun _ => [(0, .int .u64 a0), (1, .int .i64 a1), (4, .string (⟨#[]⟩ : ByteArray)), (5, .int .i64 0), (24, .bool x5)]) (fun _ => []) (fun _ => []) (fun _ => by kernel_rfl) (fun _ => ?_)
        exact WL.sub [0, 1, 4, 5, 24] (by kernel_rfl) (WL.pick [] (by kernel_rfl) (by kernel_rfl) (K2 x5 hM))
      ·
        refine WL.split (fun b' => [(0, .int .u64 a0), (1, .int .i64 a1), (4, .string (⟨#[]⟩ : ByteArray)), (5, .int .i64 0), (14, .bool false), (17, .bool b')]) (decide (a1 < 8)) (fun c2 => ?_) (fun c2 => ?_)
        · replace hM := cond_t hM c2
          refine WL.run 3 [] [0, 1, 4, 5, 14, 17, 18, 20] (fun _ => [(0, .int .u64 a0), (1, .int .i64 a1), (4, .string (⟨#[]⟩ : ByteArray)), (5, .int .i64 0), (14, .bool false), (17, .bool true), (18, .int .u64 a0), (20, .int .i64 (i64 (8 * a1)))]) (fun _ => []) (fun _ => []) (fun _ => by kernel_rfl) (fun _ => ?_)
          obtain ⟨t3, h4, hM⟩ := bind_some hM
          refine WL.val (fun _ => run_shr (k := .u64) (k' := .i64) (a := a0) (b := i64 (8 * a1)) (by kernel_rfl) (by kernel_rfl) h4) (by kernel_rfl) (by kernel_rfl) rfl ?_
          refine WL.run 2 [] [0, 1, 4, 5, 14, 23] (fun _ => [(0, .int .u64 a0), (1, .int .i64 a1), (4, .string (⟨#[]⟩ : ByteArray)), (5, .int .i64 0), (14, .bool false), (23, .bool (t3 != 0))]) (fun _ => []) (fun _ => []) (fun _ => by kernel_rfl) (fun _ => ?_)
          exact WL.sub [0, 1, 4, 5, 14, 23] (by kernel_rfl) (WL.pick [] (by kernel_rfl) (by kernel_rfl) (K1 (t3 != 0) hM))
        · replace hM := cond_f hM c2
          refine WL.run 6 [] [0, 1, 4, 5, 14, 23] (fun _ => [(0, .int .u64 a0), (1, .int .i64 a1), (4, .string (⟨#[]⟩ : ByteArray)), (5, .int .i64 0), (14, .bool false), (23, .bool false)]) (fun _ => []) (fun _ => []) (fun _ => by kernel_rfl) (fun _ => ?_)
          exact WL.sub [0, 1, 4, 5, 14, 23] (by kernel_rfl) (WL.pick [] (by kernel_rfl) (by kernel_rfl) (K1 false hM))

end Go.Proofs.YtbodofjnfmjbpaaGreatDoor

namespace Go.Proofs.YtbodofjnfmjbpaaGreatDoor
open Go Eng
set_option linter.unusedVariables false
set_option linter.unusedSimpArgs false

/-! ### gangway/ether.put: function 36 -/
def ether_put.f (k : Nat) (a0 : Int) (a1 : Int) : Option (ByteArray) :=
  (octets_Put.f k a0 a1).bind fun (r1, r2) =>
  some r1

set_option maxRecDepth 100000 in
theorem ether_put_calls (k : Nat) (a0 : Int) (a1 : Int) (r : ByteArray) (h : ether_put.f k a0 a1 = some r) : Pure Tryz.prog Glob 36 #[.int .u64 a0, .int .i64 a1] (.string r) := by
  intro w Z hS
  refine calls_of (args := [.int .u64 a0, .int .i64 a1]) (L := [(0, .int .u64 a0), (1, .int .i64 a1)]) (N := 14) (S := Sat w Z [] [] Glob) Tryz.func36 rfl rfl (Nat.le_of_ble_eq_true rfl) rfl hS ?_
  have hM := h
  clear h hS
  unfold ether_put.f at hM
  refine WP.seq ?_
  refine WP.run [] [0, 1, 4] (fun _ => [(0, .int .u64 a0), (1, .int .i64 a1), (4, .string (⟨#[]⟩ : ByteArray))]) (fun _ => []) (fun _ => []) (fun _ => by kernel_rfl) (fun _ => ?_)
  refine WP.seq ?_
  refine WP.region ?_
  refine WL.run 2 [] [4, 8, 9] (fun _ => [(4, .string (⟨#[]⟩ : ByteArray)), (8, .int .u64 a0), (9, .int .i64 a1)]) (fun _ => []) (fun _ => []) (fun _ => by kernel_rfl) (fun _ => ?_)
  obtain ⟨⟨r1, r2⟩, h3, hM⟩ := bind_some hM
  dsimp only at hM
  refine WL.callP [] [] (octets_Put_calls k a0 a1 _ h3) (fun _ h => h) (by kernel_rfl) (by kernel_rfl) rfl ?_
  refine WL.run 5 [] [4, 5] (fun _ => [(4, .string (⟨#[]⟩ : ByteArray)), (5, .string r1)]) (fun _ => []) (fun _ => []) (fun _ => by kernel_rfl) (fun _ => ?_)
  refine WP.done ?_
  refine WP.seq ?_
  refine WP.run [] [4] (fun _ => [(4, .string r1)]) (fun _ => []) (fun _ => []) (fun _ => by kernel_rfl) (fun _ => ?_)
  obtain rfl := Option.some.inj hM
  exact WP.ret [] [] (.string r1) (by kernel_rfl) (fun w' hw => ⟨rfl, hw.pick [] rfl⟩)

end Go.Proofs.YtbodofjnfmjbpaaGreatDoor

namespace Go.Proofs.YtbodofjnfmjbpaaGreatDoor
open Go Eng
set_option linter.unusedVariables false
set_option linter.unusedSimpArgs false

/-! ### gangway/ether.info: function 37 -/
def ether_info.k1 (x3 : Int) : Option (Int) :=
  some (u64 x3)

def ether_info.f (a0 : api_Tag) : Option (Int) :=
  bif a0.Dei then
    ether_info.k1 (bOr .i64 (bOr .i64 (i64 (a0.Pri * 8192)) a0.Vid) 4096)
  else
    ether_info.k1 (bOr .i64 (i64 (a0.Pri * 8192)) a0.Vid)

set_option maxRecDepth 100000 in
theorem ether_info_calls (a0 : api_Tag) (r : Int) (h : ether_info.f a0 = some r) : Pure Tryz.prog Glob 37 #[.agg #[.bool a0.Has, .int .i64 a0.Pri, .bool a0.Dei, .int .i64 a0.Vid]] (.int .u64 r) := by
  intro w Z hS
  refine calls_of (args := [.agg #[.bool a0.Has, .int .i64 a0.Pri, .bool a0.Dei, .int .i64 a0.Vid]]) (L := [(0, .agg #[.bool a0.Has, .int .i64 a0.Pri, .bool a0.Dei, .int .i64 a0.Vid])]) (N := 16) (S := Sat w Z [] [] Glob) Tryz.func37 rfl rfl (Nat.le_of_ble_eq_true rfl) rfl hS ?_
  have hM := h
  clear h hS
  unfold ether_info.f at hM
  refine WP.seq ?_
  refine WP.run [] [1, 2] (fun b1 => [(1, .pointer (some ⟨b1, 0, none⟩)), (2, .int .u64 0)]) (fun b1 => [(b1, .cells #[.bool a0.Has, .int .i64 a0.Pri, .bool a0.Dei, .int .i64 a0.Vid] 27 (0, 0))]) (fun b1 => []) (fun b1 => by kernel_rfl) (fun b1 => ?_)
  refine WP.seq ?_
  refine WP.run [0, 0] [1, 2, 3] (fun _ => [(1, .pointer (some ⟨b1, 0, none⟩)), (2, .int .u64 0), (3, .int .i64 (bOr .i64 (i64 (a0.Pri * 8192)) a0.Vid))]) (fun _ => [(b1, .cells #[.bool a0.Has, .int .i64 a0.Pri, .bool a0.Dei, .int .i64 a0.Vid] 27 (0, 0))]) (fun _ => [b1, b1]) (fun _ => by kernel_rfl) (fun _ => ?_)
  refine WP.seqJoin (σ := Int) (fun st => ether_info.k1 st = some r) (fun st => [(2, .int .u64 0), (3, .int .i64 st)]) (fun st => Sat w Z [] [] Glob) (fun st hM => ?_) (fun K1 => ?_)
  ·
    obtain ⟨x3, rfl⟩ : ∃ y, y = st := ⟨st, rfl⟩
    replace hM : ether_info.k1 x3 = some r := hM
    unfold ether_info.k1 at hM
    show WP _ _ _ _ _ [(2, .int .u64 0), (3, .int .i64 x3)] (Sat w Z [] [] Glob)
    refine WP.seq ?_
    refine WP.run [] [2] (fun _ => [(2, .int .u64 (u64 x3))]) (fun _ => []) (fun _ => []) (fun _ => by kernel_rfl) (fun _ => ?_)
    obtain rfl := Option.some.inj hM
    exact WP.ret [] [] (.int .u64 (u64 x3)) (by kernel_rfl) (fun w' hw => ⟨rfl, hw.pick [] rfl⟩)
  ·
    refine WP.seq ?_
    refine WP.run [0] [2, 3, 11] (fun _ => [(2, .int .u64 0), (3, .int .i64 (bOr .i64 (i64 (a0.Pri * 8192)) a0.Vid)), (11, .bool a0.Dei)]) (fun _ => [(b1, .cells #[.bool a0.Has, .int .i64 a0.Pri, .bool a0.Dei, .int .i64 a0.Vid] 27 (0, 0))]) (fun _ => [b1]) (fun _ => by kernel_rfl) (fun _ => ?_)
    refine WP.keep [false] (by kernel_rfl : _ = []) ?_
    refine WP.cond a0.Dei rfl rfl (fun c2 => ?_) (fun c2 => ?_)
    · replace hM := cond_t hM c2
      refine WP.run [] [2, 3] (fun _ => [(2, .int .u64 0), (3, .int .i64 (bOr .i64 (bOr .i64 (i64 (a0.Pri * 8192)) a0.Vid) 4096))]) (fun _ => []) (fun _ => []) (fun _ => by kernel_rfl) (fun _ => ?_)
      exact WP.sub [2, 3] (by kernel_rfl) (WP.pick [] (by kernel_rfl) (by kernel_rfl) (K1 (bOr .i64 (bOr .i64 (i64 (a0.Pri * 8192)) a0.Vid) 4096) hM))
    · replace hM := cond_f hM c2
      refine WP.skip ?_
      exact WP.sub [2, 3] (by kernel_rfl) (WP.pick [] (by kernel_rfl) (by kernel_rfl) (K1 (bOr .i64 (i64 (a0.Pri * 8192)) a0.Vid) hM))

end Go.Proofs.YtbodofjnfmjbpaaGreatDoor

namespace Go.Proofs.YtbodofjnfmjbpaaGreatDoor
open Go Eng
set_option linter.unusedVariables false
set_option linter.unusedSimpArgs false

/-! ### gangway/ether.Build: function 16 -/
def ether_Build.k1 (k : Nat) (x22 : ByteArray) (a0 : api_Frame) (x24 : Int) : Option (ByteArray × Int) :=
  (ether_put.f k (u64 x24) 2).bind fun r25 =>
  (catS x22 r25).bind fun t27 =>
  (catS t27 a0.Body).bind fun t29 =>
  some (t29, 0)

def ether_Build.k2 (a0 : api_Frame) (k : Nat) (x22 : ByteArray) : Option (ByteArray × Int) :=
  bif (a0.Type_ == 0) then
    ether_Build.k1 k x22 a0 (a0.Body.size : Int)
  else
    ether_Build.k1 k x22 a0 a0.Type_

def ether_Build.f (k : Nat) (a0 : api_Frame) : Option (ByteArray × Int) :=
  (ether_Check.f a0).bind fun r2 =>
  bif (r2 != 0) then
    some ((⟨#[]⟩ : ByteArray), r2)
  else
    (ether_put.f k a0.Dst 6).bind fun r5 =>
    (ether_put.f k a0.Src 6).bind fun r7 =>
    (catS r5 r7).bind fun t9 =>
    bif a0.Tag.Has then
      (ether_put.f k 33024 2).bind fun r12 =>
      (ether_info.f a0.Tag).bind fun r14 =>
      (ether_put.f k r14 2).bind fun r16 =>
      (catS r12 r16).bind fun t18 =>
      (catS t9 t18).bind fun t20 =>
      ether_Build.k2 a0 k t20
    else
      ether_Build.k2 a0 k t9

set_option maxRecDepth 100000 in
theorem ether_Build_calls (k : Nat) (a0 : api_Frame) (r : ByteArray × Int) (h : ether_Build.f k a0 = some r) : Pure Tryz.prog Glob 16 #[.agg #[.int .u64 a0.Dst, .int .u64 a0.Src, .bool a0.Tag.Has, .int .i64 a0.Tag.Pri, .bool a0.Tag.Dei, .int .i64 a0.Tag.Vid, .int .i64 a0.Type_, .string a0.Body]] (.tuple #[.string r.1, .int .i64 r.2]) := by
  intro w Z hS
  refine calls_of (args := [.agg #[.int .u64 a0.Dst, .int .u64 a0.Src, .bool a0.Tag.Has, .int .i64 a0.Tag.Pri, .bool a0.Tag.Dei, .int .i64 a0.Tag.Vid, .int .i64 a0.Type_, .string a0.Body]]) (L := [(0, .agg #[.int .u64 a0.Dst, .int .u64 a0.Src, .bool a0.Tag.Has, .int .i64 a0.Tag.Pri, .bool a0.Tag.Dei, .int .i64 a0.Tag.Vid, .int .i64 a0.Type_, .string a0.Body])]) (N := 45) (S := Sat w Z [] [] Glob) Tryz.func16 rfl rfl (Nat.le_of_ble_eq_true rfl) rfl hS ?_
  have hM := h
  clear h hS
  unfold ether_Build.f at hM
  refine WP.seq ?_
  refine WP.run [] [1, 2, 3] (fun b1 => [(1, .pointer (some ⟨b1, 0, none⟩)), (2, .string (⟨#[]⟩ : ByteArray)), (3, .int .i64 0)]) (fun b1 => [(b1, .cells #[.int .u64 a0.Dst, .int .u64 a0.Src, .bool a0.Tag.Has, .int .i64 a0.Tag.Pri, .bool a0.Tag.Dei, .int .i64 a0.Tag.Vid, .int .i64 a0.Type_, .string a0.Body] 29 (0, 0))]) (fun b1 => []) (fun b1 => by kernel_rfl) (fun b1 => ?_)
  refine WP.seq ?_
  refine WP.seq ?_
  refine WP.region ?_
  refine WL.run 1 [0, 0, 0, 0, 0, 0, 0, 0] [1, 2, 3, 7] (fun _ => [(1, .pointer (some ⟨b1, 0, none⟩)), (2, .string (⟨#[]⟩ : ByteArray)), (3, .int .i64 0), (7, .agg #[.int .u64 a0.Dst, .int .u64 a0.Src, .bool a0.Tag.Has, .int .i64 a0.Tag.Pri, .bool a0.Tag.Dei, .int .i64 a0.Tag.Vid, .int .i64 a0.Type_, .string a0.Body])]) (fun _ => [(b1, .cells #[.int .u64 a0.Dst, .int .u64 a0.Src, .bool a0.Tag.Has, .int .i64 a0.Tag.Pri, .bool a0.Tag.Dei, .int .i64 a0.Tag.Vid, .int .i64 a0.Type_, .string a0.Body] 29 (0, 0))]) (fun _ => [b1, b1, b1, b1, b1, b1, b1, b1]) (fun _ => by kernel_rfl) (fun _ => ?_)
  obtain ⟨r2, h3, hM⟩ := bind_some hM
  refine WL.callP [] [] (ether_Check_calls a0 _ h3) (fun _ h => h) (by kernel_rfl) (by kernel_rfl) rfl ?_
  refine WL.run 1 [] [1, 2, 3, 4] (fun _ => [(1, .pointer (some ⟨b1, 0, none⟩)), (2, .string (⟨#[]⟩ : ByteArray)), (3, .int .i64 0), (4, .int .i64 r2)]) (fun _ => [(b1, .cells #[.int .u64 a0.Dst, .int .u64 a0.Src, .bool a0.Tag.Has, .int .i64 a0.Tag.Pri, .bool a0.Tag.Dei, .int .i64 a0.Tag.Vid, .int .i64 a0.Type_, .string a0.Body] 29 (0, 0))]) (fun _ => []) (fun _ => by kernel_rfl) (fun _ => ?_)
  refine WP.done ?_
  refine WP.seq ?_
  refine WP.run [] [1, 2, 3, 4, 10] (fun _ => [(1, .pointer (some ⟨b1, 0, none⟩)), (2, .string (⟨#[]⟩ : ByteArray)), (3, .int .i64 0), (4, .int .i64 r2), (10, .bool (r2 != 0))]) (fun _ => [(b1, .cells #[.int .u64 a0.Dst, .int .u64 a0.Src, .bool a0.Tag.Has, .int .i64 a0.Tag.Pri, .bool a0.Tag.Dei, .int .i64 a0.Tag.Vid, .int .i64 a0.Type_, .string a0.Body] 29 (0, 0))]) (fun _ => []) (fun _ => by kernel_rfl) (fun _ => ?_)
  refine WP.cond (r2 != 0) rfl rfl (fun c4 => ?_) (fun c4 => ?_)
  · replace hM := cond_t hM c4
    refine WP.seq ?_
    refine WP.run [] [1, 2, 3] (fun _ => [(1, .pointer (some ⟨b1, 0, none⟩)), (2, .string (⟨#[]⟩ : ByteArray)), (3, .int .i64 r2)]) (fun _ => [(b1, .cells #[.int .u64 a0.Dst, .int .u64 a0.Src, .bool a0.Tag.Has, .int .i64 a0.Tag.Pri, .bool a0.Tag.Dei, .int .i64 a0.Tag.Vid, .int .i64 a0.Type_, .string a0.Body] 29 (0, 0))]) (fun _ => []) (fun _ => by kernel_rfl) (fun _ => ?_)
    obtain rfl := Option.some.inj hM
    exact WP.ret [] [] (.tuple #[.string (⟨#[]⟩ : ByteArray), .int .i64 r2]) (by kernel_rfl) (fun w' hw => ⟨rfl, hw.pick [] rfl⟩)
  · replace hM := cond_f hM c4
    refine WP.skip ?_
    refine WP.seq ?_
    refine WP.quiet (by kernel_rfl) (by kernel_rfl) ?_
    refine QL.run 2 [0] [1, 2, 3, 13] [b1] [(1, .pointer (some ⟨b1, 0, none⟩)), (2, .string (⟨#[]⟩ : ByteArray)), (3, .int .i64 0), (13, .int .u64 a0.Dst)] (by kernel_rfl) ?_
    obtain ⟨r5, h6, hM⟩ := bind_some hM
    refine QL.callP [] [] (ether_put_calls k a0.Dst 6 _ h6) (fun _ h => h) (by kernel_rfl) (by kernel_rfl) rfl ?_
    refine QL.run 2 [0] [1, 2, 3, 14, 16] [b1] [(1, .pointer (some ⟨b1, 0, none⟩)), (2, .string (⟨#[]⟩ : ByteArray)), (3, .int .i64 0), (14, .string r5), (16, .int .u64 a0.Src)] (by kernel_rfl) ?_
    obtain ⟨r7, h8, hM⟩ := bind_some hM
    refine QL.callP [] [] (ether_put_calls k a0.Src 6 _ h8) (fun _ h => h) (by kernel_rfl) (by kernel_rfl) rfl ?_
    obtain ⟨t9, h10, hM⟩ := bind_some hM
    refine QL.val (fun _ => run_catS (a := r5) (b := r7) (by kernel_rfl) (by kernel_rfl) h10) (by kernel_rfl) (by kernel_rfl) rfl ?_
    refine QL.run 1 [] [1, 2, 3, 5] [] [(1, .pointer (some ⟨b1, 0, none⟩)), (2, .string (⟨#[]⟩ : ByteArray)), (3, .int .i64 0), (5, .string t9)] (by kernel_rfl) ?_
    refine QL.done ?_
    refine WP.seqJoin (σ := ByteArray) (fun st => ether_Build.k2 a0 k st = some r) (fun st => [(1, .pointer (some ⟨b1, 0, none⟩)), (2, .string (⟨#[]⟩ : ByteArray)), (3, .int .i64 0), (5, .string st)]) (fun st => Sat w Z [(b1, .cells #[.int .u64 a0.Dst, .int .u64 a0.Src, .bool a0.Tag.Has, .int .i64 a0.Tag.Pri, .bool a0.Tag.Dei, .int .i64 a0.Tag.Vid, .int .i64 a0.Type_, .string a0.Body] 29 (0, 0))] [] Glob) (fun st hM => ?_) (fun K2 => ?_)
    ·
      obtain ⟨x22, rfl⟩ : ∃ y, y = st := ⟨st, rfl⟩
      replace hM : ether_Build.k2 a0 k x22 = some r := hM
      unfold ether_Build.k2 at hM
      show WP _ _ _ _ _ [(1, .pointer (some ⟨b1, 0, none⟩)), (2, .string (⟨#[]⟩ : ByteArray)), (3, .int .i64 0), (5, .string x22)] (Sat w Z [(b1, .cells #[.int .u64 a0.Dst, .int .u64 a0.Src, .bool a0.Tag.Has, .int .i64 a0.Tag.Pri, .bool a0.Tag.Dei, .int .i64 a0.Tag.Vid, .int .i64 a0.Type_, .string a0.Body] 29 (0, 0))] [] Glob)
      refine WP.seq ?_
      refine WP.run [0] [1, 2, 3, 5, 6] (fun _ => [(1, .pointer (some ⟨b1, 0, none⟩)), (2, .string (⟨#[]⟩ : ByteArray)), (3, .int .i64 0), (5, .string x22), (6, .int .i64 a0.Type_)]) (fun _ => [(b1, .cells #[.int .u64 a0.Dst, .int .u64 a0.Src, .bool a0.Tag.Has, .int .i64 a0.Tag.Pri, .bool a0.Tag.Dei, .int .i64 a0.Tag.Vid, .int .i64 a0.Type_, .string a0.Body] 29 (0, 0))]) (fun _ => [b1]) (fun _ => by kernel_rfl) (fun _ => ?_)
      refine WP.seqJoin (σ := Int) (fun st => ether_Build.k1 k x22 a0 st = some r) (fun st => [(1, .pointer (some ⟨b1, 0, none⟩)), (2, .string (⟨#[]⟩ : ByteArray)), (3, .int .i64 0), (5, .string x22), (6, .int .i64 st)]) (fun st => Sat w Z [(b1, .cells #[.int .u64 a0.Dst, .int .u64 a0.Src, .bool a0.Tag.Has, .int .i64 a0.Tag.Pri, .bool a0.Tag.Dei, .int .i64 a0.Tag.Vid, .int .i64 a0.Type_, .string a0.Body] 29 (0, 0))] [] Glob) (fun st hM => ?_) (fun K1 => ?_)
      ·
        obtain ⟨x24, rfl⟩ : ∃ y, y = st := ⟨st, rfl⟩
        replace hM : ether_Build.k1 k x22 a0 x24 = some r := hM
        unfold ether_Build.k1 at hM
        show WP _ _ _ _ _ [(1, .pointer (some ⟨b1, 0, none⟩)), (2, .string (⟨#[]⟩ : ByteArray)), (3, .int .i64 0), (5, .string x22), (6, .int .i64 x24)] (Sat w Z [(b1, .cells #[.int .u64 a0.Dst, .int .u64 a0.Src, .bool a0.Tag.Has, .int .i64 a0.Tag.Pri, .bool a0.Tag.Dei, .int .i64 a0.Tag.Vid, .int .i64 a0.Type_, .string a0.Body] 29 (0, 0))] [] Glob)
        refine WP.seq ?_
        refine WP.quiet (by kernel_rfl) (by kernel_rfl) ?_
        refine QL.run 3 [] [1, 2, 3, 37, 39] [] [(1, .pointer (some ⟨b1, 0, none⟩)), (2, .string (⟨#[]⟩ : ByteArray)), (3, .int .i64 0), (37, .string x22), (39, .int .u64 (u64 x24))] (by kernel_rfl) ?_
        obtain ⟨r25, h26, hM⟩ := bind_some hM
        refine QL.callP [] [] (ether_put_calls k (u64 x24) 2 _ h26) (fun _ h => h) (by kernel_rfl) (by kernel_rfl) rfl ?_
        obtain ⟨t27, h28, hM⟩ := bind_some hM
        refine QL.val (fun _ => run_catS (a := x22) (b := r25) (by kernel_rfl) (by kernel_rfl) h28) (by kernel_rfl) (by kernel_rfl) rfl ?_
        refine QL.run 2 [0] [2, 3, 41, 43] [b1] [(2, .string (⟨#[]⟩ : ByteArray)), (3, .int .i64 0), (41, .string t27), (43, .string a0.Body)] (by kernel_rfl) ?_
        obtain ⟨t29, h30, hM⟩ := bind_some hM
        refine QL.val (fun _ => run_catS (a := t27) (b := a0.Body) (by kernel_rfl) (by kernel_rfl) h30) (by kernel_rfl) (by kernel_rfl) rfl ?_
        refine QL.run 2 [] [2, 3] [] [(2, .string t29), (3, .int .i64 0)] (by kernel_rfl) ?_
        refine QL.done ?_
        refine WP.keep [false] (by kernel_rfl : _ = []) ?_
        obtain rfl := Option.some.inj hM
        exact WP.ret [] [] (.tuple #[.string t29, .int .i64 0]) (by kernel_rfl) (fun w' hw => ⟨rfl, hw.pick [] rfl⟩)
      ·
        refine WP.seq ?_
        refine WP.run [] [1, 2, 3, 5, 6, 33] (fun _ => [(1, .pointer (some ⟨b1, 0, none⟩)), (2, .string (⟨#[]⟩ : ByteArray)), (3, .int .i64 0), (5, .string x22), (6, .int .i64 a0.Type_), (33, .bool (a0.Type_ == 0))]) (fun _ => [(b1, .cells #[.int .u64 a0.Dst, .int .u64 a0.Src, .bool a0.Tag.Has, .int .i64 a0.Tag.Pri, .bool a0.Tag.Dei, .int .i64 a0.Tag.Vid, .int .i64 a0.Type_, .string a0.Body] 29 (0, 0))]) (fun _ => []) (fun _ => by kernel_rfl) (fun _ => ?_)
        refine WP.cond (a0.Type_ == 0) rfl rfl (fun c23 => ?_) (fun c23 => ?_)
        · replace hM := cond_t hM c23
          refine WP.run [0] [1, 2, 3, 5, 6] (fun _ => [(1, .pointer (some ⟨b1, 0, none⟩)), (2, .string (⟨#[]⟩ : ByteArray)), (3, .int .i64 0), (5, .string x22), (6, .int .i64 (a0.Body.size : Int))]) (fun _ => [(b1, .cells #[.int .u64 a0.Dst, .int .u64 a0.Src, .bool a0.Tag.Has, .int .i64 a0.Tag.Pri, .bool a0.Tag.Dei, .int .i64 a0.Tag.Vid, .int .i64 a0.Type_, .string a0.Body] 29 (0, 0))]) (fun _ => [b1]) (fun _ => by kernel_rfl) (fun _ => ?_)
          exact WP.sub [1, 2, 3, 5, 6] (by kernel_rfl) (WP.pick [0] (by kernel_rfl) (by kernel_rfl) (K1 (a0.Body.size : Int) hM))
        · replace hM := cond_f hM c23
          refine WP.skip ?_
          exact WP.sub [1, 2, 3, 5, 6] (by kernel_rfl) (WP.pick [0] (by kernel_rfl) (by kernel_rfl) (K1 a0.Type_ hM))
    ·
      refine WP.seq ?_
      refine WP.run [0] [1, 2, 3, 5, 21] (fun _ => [(1, .pointer (some ⟨b1, 0, none⟩)), (2, .string (⟨#[]⟩ : ByteArray)), (3, .int .i64 0), (5, .string t9), (21, .bool a0.Tag.Has)]) (fun _ => [(b1, .cells #[.int .u64 a0.Dst, .int .u64 a0.Src, .bool a0.Tag.Has, .int .i64 a0.Tag.Pri, .bool a0.Tag.Dei, .int .i64 a0.Tag.Vid, .int .i64 a0.Type_, .string a0.Body] 29 (0, 0))]) (fun _ => [b1]) (fun _ => by kernel_rfl) (fun _ => ?_)
      refine WP.cond a0.Tag.Has rfl rfl (fun c11 => ?_) (fun c11 => ?_)
      · replace hM := cond_t hM c11
        refine WP.quiet (by kernel_rfl) (by kernel_rfl) ?_
        refine QL.run 1 [] [1, 2, 3, 5, 22] [] [(1, .pointer (some ⟨b1, 0, none⟩)), (2, .string (⟨#[]⟩ : ByteArray)), (3, .int .i64 0), (5, .string t9), (22, .string t9)] (by kernel_rfl) ?_
        obtain ⟨r12, h13, hM⟩ := bind_some hM
        refine QL.callP [] [] (ether_put_calls k 33024 2 _ h13) (fun _ h => h) (by kernel_rfl) (by kernel_rfl) rfl ?_
        refine QL.run 2 [0, 0, 0, 0] [1, 2, 3, 5, 22, 23, 25] [b1, b1, b1, b1] [(1, .pointer (some ⟨b1, 0, none⟩)), (2, .string (⟨#[]⟩ : ByteArray)), (3, .int .i64 0), (5, .string t9), (22, .string t9), (23, .string r12), (25, .agg #[.bool a0.Tag.Has, .int .i64 a0.Tag.Pri, .bool a0.Tag.Dei, .int .i64 a0.Tag.Vid])] (by kernel_rfl) ?_
        obtain ⟨r14, h15, hM⟩ := bind_some hM
        refine QL.callP [] [] (ether_info_calls a0.Tag _ h15) (fun _ h => h) (by kernel_rfl) (by kernel_rfl) rfl ?_
        obtain ⟨r16, h17, hM⟩ := bind_some hM
        refine QL.callP [] [] (ether_put_calls k r14 2 _ h17) (fun _ h => h) (by kernel_rfl) (by kernel_rfl) rfl ?_
        obtain ⟨t18, h19, hM⟩ := bind_some hM
        refine QL.val (fun _ => run_catS (a := r12) (b := r16) (by kernel_rfl) (by kernel_rfl) h19) (by kernel_rfl) (by kernel_rfl) rfl ?_
        obtain ⟨t20, h21, hM⟩ := bind_some hM
        refine QL.val (fun _ => run_catS (a := t9) (b := t18) (by kernel_rfl) (by kernel_rfl) h21) (by kernel_rfl) (by kernel_rfl) rfl ?_
        refine QL.run 1 [] [1, 2, 3, 5] [] [(1, .pointer (some ⟨b1, 0, none⟩)), (2, .string (⟨#[]⟩ : ByteArray)), (3, .int .i64 0), (5, .string t20)] (by kernel_rfl) ?_
        refine QL.done ?_
        exact WP.sub [1, 2, 3, 5] (by kernel_rfl) (WP.pick [0] (by kernel_rfl) (by kernel_rfl) (K2 t20 hM))
      · replace hM := cond_f hM c11
        refine WP.skip ?_
        exact WP.sub [1, 2, 3, 5] (by kernel_rfl) (WP.pick [0] (by kernel_rfl) (by kernel_rfl) (K2 t9 hM))

end Go.Proofs.YtbodofjnfmjbpaaGreatDoor

namespace Go.Proofs.YtbodofjnfmjbpaaGreatDoor
open Go Eng
set_option linter.unusedVariables false
set_option linter.unusedSimpArgs false

/-! ### gangway/gangwaylaw22.five: function 25 -/
def gangwaylaw22_five.f : Option ((List api_Seg)) :=
  some ([(api_Seg.mk 5 1000 ([7, 8] : List Int))] : List api_Seg)

set_option maxRecDepth 100000 in
theorem gangwaylaw22_five_calls (r : (List api_Seg)) (h : gangwaylaw22_five.f = some r) : Does Tryz.prog 25 #[] [] ([] ++ Glob) (fun x : (SkL (SkL Unit)) => slcV x r.length) (fun x => []) (fun _ => []) (fun x => [Row 3 api_Seg.encS api_Seg.inK x r] ++ ([] ++ Glob)) := by
  intro w Z hS
  refine calls_of (args := []) (L := []) (N := 4) (S := Sat w Z [] [] ([] ++ Glob)) Tryz.func25 rfl rfl (Nat.le_of_ble_eq_true rfl) rfl hS ?_
  have hM := h
  clear h hS
  unfold gangwaylaw22_five.f at hM
  refine WP.seq ?_
  refine WP.run [] [0] (fun _ => [(0, .slice none 0 0)]) (fun _ => []) (fun _ => []) (fun _ => by kernel_rfl) (fun _ => ?_)
  refine WP.seq ?_
  refine WP.run [] [0] (fun b1 => [(0, .slice (some ⟨(b1 + 1), 0, none⟩) 1 1)]) (fun b1 => [(b1, .cells #[.int .u32 7, .int .u32 8] 22 (0, 0)), ((b1 + 1), .cells #[.int .i64 5, .int .i64 1000, .slice (some ⟨b1, 0, none⟩) 2 2] 35 (0, 0))]) (fun b1 => []) (fun b1 => by kernel_rfl) (fun b1 => ?_)
  refine WP.ice (H' := [((b1 + 1), .cells #[.int .i64 5, .int .i64 1000, slcV (SkL.at b1 2 (fun _ => ())) ([7, 8] : List Int).length] 35 (0, 0))]) (Row 1 (pl (encI .u32)) noK (SkL.at b1 2 (fun _ => ())) ([7, 8] : List Int)) 0 (b := b1) (ob := .cells #[.int .u32 7, .int .u32 8] 22 (0, 0)) (by kernel_rfl) [] [] (by kernel_rfl) (fun w hb hψ => row_of_block hb (fun _ _ => rfl) ⟨[], by kernel_rfl⟩ (Nat.le_of_ble_eq_true rfl) (InK.no _ _)) (by kernel_rfl) ?_
  refine WP.ice (H' := []) (Row 3 api_Seg.encS api_Seg.inK (SkL.at (b1 + 1) 1 (skF [(SkL.at b1 2 (fun _ => ()))] (SkL.nil (fun _ => ())))) ([(api_Seg.mk 5 1000 ([7, 8] : List Int))] : List api_Seg)) 0 (b := (b1 + 1)) (ob := .cells #[.int .i64 5, .int .i64 1000, slcV (SkL.at b1 2 (fun _ => ())) ([7, 8] : List Int).length] 35 (0, 0)) (by kernel_rfl) [0] [Row 1 (pl (encI .u32)) noK (SkL.at b1 2 (fun _ => ())) ([7, 8] : List Int)] (by kernel_rfl) (fun w hb hψ => row_of_block hb (fun _ _ => rfl) ⟨[], by kernel_rfl⟩ (Nat.le_of_ble_eq_true rfl) (And.intro (hψ _ (List.mem_of_getElem? (i := 0) rfl)) trivial)) (by kernel_rfl) ?_
  obtain rfl := Option.some.inj hM
  exact WP.ret [] [] (slcV (SkL.at (b1 + 1) 1 (skF [(SkL.at b1 2 (fun _ => ()))] (SkL.nil (fun _ => ())))) ([(api_Seg.mk 5 1000 ([7, 8] : List Int))] : List api_Seg).length) (by kernel_rfl) (fun w' hw => ⟨(SkL.at (b1 + 1) 1 (skF [(SkL.at b1 2 (fun _ => ()))] (SkL.nil (fun _ => ())))), rfl, (hw.pick [] (by kernel_rfl)).less (sub_ret [0] [] (by kernel_rfl) (by kernel_rfl))⟩)

end Go.Proofs.YtbodofjnfmjbpaaGreatDoor

namespace Go.Proofs.YtbodofjnfmjbpaaGreatDoor
open Go Eng
set_option linter.unusedVariables false
set_option linter.unusedSimpArgs false

/-! ### gangway/ether.Bare: function 17 -/
def ether_Bare.f (a0 : api_Frame) : Option (api_Frame) :=
  some (api_Frame.mk a0.Dst a0.Src (api_Tag.mk false 0 false 0) a0.Type_ a0.Body)

set_option maxRecDepth 100000 in
theorem ether_Bare_calls (a0 : api_Frame) (r : api_Frame) (h : ether_Bare.f a0 = some r) : Pure Tryz.prog Glob 17 #[.agg #[.int .u64 a0.Dst, .int .u64 a0.Src, .bool a0.Tag.Has, .int .i64 a0.Tag.Pri, .bool a0.Tag.Dei, .int .i64 a0.Tag.Vid, .int .i64 a0.Type_, .string a0.Body]] (.agg #[.int .u64 r.Dst, .int .u64 r.Src, .bool r.Tag.Has, .int .i64 r.Tag.Pri, .bool r.Tag.Dei, .int .i64 r.Tag.Vid, .int .i64 r.Type_, .string r.Body]) := by
  intro w Z hS
  refine calls_of (args := [.agg #[.int .u64 a0.Dst, .int .u64 a0.Src, .bool a0.Tag.Has, .int .i64 a0.Tag.Pri, .bool a0.Tag.Dei, .int .i64 a0.Tag.Vid, .int .i64 a0.Type_, .string a0.Body]]) (L := [(0, .agg #[.int .u64 a0.Dst, .int .u64 a0.Src, .bool a0.Tag.Has, .int .i64 a0.Tag.Pri, .bool a0.Tag.Dei, .int .i64 a0.Tag.Vid, .int .i64 a0.Type_, .string a0.Body])]) (N := 6) (S := Sat w Z [] [] Glob) Tryz.func17 rfl rfl (Nat.le_of_ble_eq_true rfl) rfl hS ?_
  have hM := h
  clear h hS
  unfold ether_Bare.f at hM
  refine WP.seq ?_
  refine WP.run [] [1, 2] (fun b1 => [(1, .pointer (some ⟨b1, 0, none⟩)), (2, .pointer (some ⟨(b1 + 1), 0, none⟩))]) (fun b1 => [(b1, .cells #[.int .u64 a0.Dst, .int .u64 a0.Src, .bool a0.Tag.Has, .int .i64 a0.Tag.Pri, .bool a0.Tag.Dei, .int .i64 a0.Tag.Vid, .int .i64 a0.Type_, .string a0.Body] 29 (0, 0)), ((b1 + 1), .cells #[.int .u64 0, .int .u64 0, .bool false, .int .i64 0, .bool false, .int .i64 0, .int .i64 0, .string (⟨#[]⟩ : ByteArray)] 29 (0, 0))]) (fun b1 => []) (fun b1 => by kernel_rfl) (fun b1 => ?_)
  refine WP.seq ?_
  refine WP.run [0, 0, 0, 0] [1, 2] (fun _ => [(1, .pointer (some ⟨b1, 0, none⟩)), (2, .pointer (some ⟨(b1 + 1), 0, none⟩))]) (fun _ => [(b1, .cells #[.int .u64 a0.Dst, .int .u64 a0.Src, .bool false, .int .i64 0, .bool false, .int .i64 0, .int .i64 a0.Type_, .string a0.Body] 29 (0, 0)), ((b1 + 1), .cells #[.int .u64 0, .int .u64 0, .bool false, .int .i64 0, .bool false, .int .i64 0, .int .i64 0, .string (⟨#[]⟩ : ByteArray)] 29 (0, 0))]) (fun _ => [b1, b1, b1, b1]) (fun _ => by kernel_rfl) (fun _ => ?_)
  refine WP.seq ?_
  refine WP.run [0, 0, 0, 0, 0, 0, 0, 0, 1, 1, 1, 1, 1, 1, 1, 1] [2] (fun _ => [(2, .pointer (some ⟨(b1 + 1), 0, none⟩))]) (fun _ => [(b1, .cells #[.int .u64 a0.Dst, .int .u64 a0.Src, .bool false, .int .i64 0, .bool false, .int .i64 0, .int .i64 a0.Type_, .string a0.Body] 29 (0, 0)), ((b1 + 1), .cells #[.int .u64 a0.Dst, .int .u64 a0.Src, .bool false, .int .i64 0, .bool false, .int .i64 0, .int .i64 a0.Type_, .string a0.Body] 29 (0, 0))]) (fun _ => [(b1 + 1), (b1 + 1), (b1 + 1), (b1 + 1), (b1 + 1), (b1 + 1), (b1 + 1), (b1 + 1), b1, b1, b1, b1, b1, b1, b1, b1]) (fun _ => by kernel_rfl) (fun _ => ?_)
  refine WP.keep [false, true] (by kernel_rfl : _ = [((b1 + 1), .cells #[.int .u64 a0.Dst, .int .u64 a0.Src, .bool false, .int .i64 0, .bool false, .int .i64 0, .int .i64 a0.Type_, .string a0.Body] 29 (0, 0))]) ?_
  obtain rfl := Option.some.inj hM
  exact WP.ret [0, 0, 0, 0, 0, 0, 0, 0] [(b1 + 1), (b1 + 1), (b1 + 1), (b1 + 1), (b1 + 1), (b1 + 1), (b1 + 1), (b1 + 1)] (.agg #[.int .u64 a0.Dst, .int .u64 a0.Src, .bool false, .int .i64 0, .bool false, .int .i64 0, .int .i64 a0.Type_, .string a0.Body]) (by kernel_rfl) (fun w' hw => ⟨rfl, hw.pick [] rfl⟩)

end Go.Proofs.YtbodofjnfmjbpaaGreatDoor

namespace Go.Proofs.YtbodofjnfmjbpaaGreatDoor
open Go Eng
set_option linter.unusedVariables false
set_option linter.unusedSimpArgs false

/-! ### gangway/vxlan.Build: function 18 -/
def vxlan_Build.f (k : Nat) (a0 : Int) (a1 : ByteArray) : Option (ByteArray × Int) :=
  bif ((decide (a0 < 0)) || (decide (a0 > 16777215))) then
    some ((⟨#[]⟩ : ByteArray), 1)
  else
    (octets_Put.f k (u64 a0) 3).bind fun (r2, r3) =>
    (catS (ByteArray.push (ByteArray.push (ByteArray.push (ByteArray.push ByteArray.empty (UInt8.ofNat (Int.toNat 8))) (UInt8.ofNat (Int.toNat 0))) (UInt8.ofNat (Int.toNat 0))) (UInt8.ofNat (Int.toNat 0))) r2).bind fun t6 =>
    (catS t6 (⟨#[0]⟩ : ByteArray)).bind fun t8 =>
    (catS t8 a1).bind fun t10 =>
    some (t10, 0)

set_option maxRecDepth 100000 in
theorem vxlan_Build_calls (k : Nat) (a0 : Int) (a1 : ByteArray) (r : ByteArray × Int) (h : vxlan_Build.f k a0 a1 = some r) : Pure Tryz.prog Glob 18 #[.int .i64 a0, .string a1] (.tuple #[.string r.1, .int .i64 r.2]) := by
  intro w Z hS
  refine calls_of (args := [.int .i64 a0, .string a1]) (L := [(0, .int .i64 a0), (1, .string a1)]) (N := 27) (S := Sat w Z [] [] Glob) Tryz.func18 rfl rfl (Nat.le_of_ble_eq_true rfl) rfl hS ?_
  have hM := h
  clear h hS
  unfold vxlan_Build.f at hM
  refine WP.seq ?_
  refine WP.run [] [0, 1, 4, 5] (fun _ => [(0, .int .i64 a0), (1, .string a1), (4, .string (⟨#[]⟩ : ByteArray)), (5, .int .i64 0)]) (fun _ => []) (fun _ => []) (fun _ => by kernel_rfl) (fun _ => ?_)
  refine WP.seq ?_
  refine WP.seq ?_
  refine WP.region ?_
  refine WL.run 3 [] [0, 1, 4, 5, 10] (fun _ => [(0, .int .i64 a0), (1, .string a1), (4, .string (⟨#[]⟩ : ByteArray)), (5, .int .i64 0), (10, .bool (decide (a0 < 0)))]) (fun _ => []) (fun _ => []) (fun _ => by kernel_rfl) (fun _ => ?_)
  refine WL.sub [0, 1, 4, 5, 10] (L' := [(0, .int .i64 a0), (1, .string a1), (4, .string (⟨#[]⟩ : ByteArray)), (5, .int .i64 0), (10, .bool (decide (a0 < 0)))]) (by kernel_rfl) ?_
  refine WL.both (fun b' => [(0, .int .i64 a0), (1, .string a1), (4, .string (⟨#[]⟩ : ByteArray)), (5, .int .i64 0), (10, .bool b')]) (decide (a0 < 0)) 3 [] [] [0, 1, 4, 5, 13] (fun b' => [(0, .int .i64 a0), (1, .string a1), (4, .string (⟨#[]⟩ : ByteArray)), (5, .int .i64 0), (13, .bool (b' || (decide (a0 > 16777215))))]) [] [] (fun _ => by kernel_rfl) (fun _ => by kernel_rfl) ?_
  refine WP.done ?_
  refine WP.cond ((decide (a0 < 0)) || (decide (a0 > 16777215))) rfl rfl (fun c1 => ?_) (fun c1 => ?_)
  · replace hM := cond_t hM c1
    refine WP.seq ?_
    refine WP.run [] [0, 1, 4, 5] (fun _ => [(0, .int .i64 a0), (1, .string a1), (4, .string (⟨#[]⟩ : ByteArray)), (5, .int .i64 1)]) (fun _ => []) (fun _ => []) (fun _ => by kernel_rfl) (fun _ => ?_)
    obtain rfl := Option.some.inj hM
    exact WP.ret [] [] (.tuple #[.string (⟨#[]⟩ : ByteArray), .int .i64 1]) (by kernel_rfl) (fun w' hw => ⟨rfl, hw.pick [] rfl⟩)
  · replace hM := cond_f hM c1
    refine WP.skip ?_
    refine WP.seq ?_
    refine WP.region ?_
    refine WL.run 2 [] [1, 4, 5, 16] (fun _ => [(1, .string a1), (4, .string (⟨#[]⟩ : ByteArray)), (5, .int .i64 0), (16, .int .u64 (u64 a0))]) (fun _ => []) (fun _ => []) (fun _ => by kernel_rfl) (fun _ => ?_)
    obtain ⟨⟨r2, r3⟩, h4, hM⟩ := bind_some hM
    dsimp only at hM
    refine WL.callP [] [] (octets_Put_calls k (u64 a0) 3 _ h4) (fun _ h => h) (by kernel_rfl) (by kernel_rfl) rfl ?_
    refine WL.run 5 [] [1, 4, 5, 6] (fun _ => [(1, .string a1), (4, .string (⟨#[]⟩ : ByteArray)), (5, .int .i64 0), (6, .string r2)]) (fun _ => []) (fun _ => []) (fun _ => by kernel_rfl) (fun _ => ?_)
    refine WP.done ?_
    refine WP.seq ?_
    refine WP.region ?_
    refine WL.run 3 [0, 0, 0, 0] [1, 4, 5, 21, 22] (fun b5 => [(1, .string a1), (4, .string (⟨#[]⟩ : ByteArray)), (5, .int .i64 0), (21, .string (ByteArray.push (ByteArray.push (ByteArray.push (ByteArray.push ByteArray.empty (UInt8.ofNat (Int.toNat 8))) (UInt8.ofNat (Int.toNat 0))) (UInt8.ofNat (Int.toNat 0))) (UInt8.ofNat (Int.toNat 0)))), (22, .string r2)]) (fun b5 => [(b5, .cells #[.int .u8 8, .int .u8 0, .int .u8 0, .int .u8 0] 5 (0, 0))]) (fun b5 => [b5, b5, b5, b5]) (fun b5 => by kernel_rfl) (fun b5 => ?_)
    obtain ⟨t6, h7, hM⟩ := bind_some hM
    refine WL.val (fun _ => run_catS (a := (ByteArray.push (ByteArray.push (ByteArray.push (ByteArray.push ByteArray.empty (UInt8.ofNat (Int.toNat 8))) (UInt8.ofNat (Int.toNat 0))) (UInt8.ofNat (Int.toNat 0))) (UInt8.ofNat (Int.toNat 0)))) (b := r2) (by kernel_rfl) (by kernel_rfl) h7) (by kernel_rfl) (by kernel_rfl) rfl ?_
    obtain ⟨t8, h9, hM⟩ := bind_some hM
    refine WL.val (fun _ => run_catS (a := t6) (b := (⟨#[0]⟩ : ByteArray)) (by kernel_rfl) (by kernel_rfl) h9) (by kernel_rfl) (by kernel_rfl) rfl ?_
    refine WL.run 1 [] [4, 5, 24, 25] (fun _ => [(4, .string (⟨#[]⟩ : ByteArray)), (5, .int .i64 0), (24, .string t8), (25, .string a1)]) (fun _ => [(b5, .cells #[.int .u8 8, .int .u8 0, .int .u8 0, .int .u8 0] 5 (0, 0))]) (fun _ => []) (fun _ => by kernel_rfl) (fun _ => ?_)
    obtain ⟨t10, h11, hM⟩ := bind_some hM
    refine WL.val (fun _ => run_catS (a := t8) (b := a1) (by kernel_rfl) (by kernel_rfl) h11) (by kernel_rfl) (by kernel_rfl) rfl ?_
    refine WL.run 2 [] [4, 5] (fun _ => [(4, .string t10), (5, .int .i64 0)]) (fun _ => [(b5, .cells #[.int .u8 8, .int .u8 0, .int .u8 0, .int .u8 0] 5 (0, 0))]) (fun _ => []) (fun _ => by kernel_rfl) (fun _ => ?_)
    refine WP.done ?_
    refine WP.keep [false] (by kernel_rfl : _ = []) ?_
    obtain rfl := Option.some.inj hM
    exact WP.ret [] [] (.tuple #[.string t10, .int .i64 0]) (by kernel_rfl) (fun w' hw => ⟨rfl, hw.pick [] rfl⟩)

end Go.Proofs.YtbodofjnfmjbpaaGreatDoor

namespace Go.Proofs.YtbodofjnfmjbpaaGreatDoor
open Go Eng
set_option linter.unusedVariables false
set_option linter.unusedSimpArgs false

/-! ### gangway/vxlan.Hash: function 39 -/
def vxlan_Hash.l1 (a0 : ByteArray) : Nat → Int → Int → Option (Int)
  | 0, _, _ => none
  | n + 1, x1, x2 =>
    bif decide (x2 < (a0.size : Int)) then
      (idxS a0 x2).bind fun t4 =>
      vxlan_Hash.l1 a0 n (u32 ((bXor .u32 x1 (u32 t4)) * 16777619)) (i64 (x2 + 1))
    else
      some x1

def vxlan_Hash.f (k : Nat) (a0 : ByteArray) : Option (Int) :=
  vxlan_Hash.l1 a0 k 2166136261 0

set_option maxRecDepth 100000 in
theorem vxlan_Hash_calls (k : Nat) (a0 : ByteArray) (r : Int) (h : vxlan_Hash.f k a0 = some r) : Pure Tryz.prog Glob 39 #[.string a0] (.int .u32 r) := by
  intro w Z hS
  refine calls_of (args := [.string a0]) (L := [(0, .string a0)]) (N := 19) (S := Sat w Z [] [] Glob) Tryz.func39 rfl rfl (Nat.le_of_ble_eq_true rfl) rfl hS ?_
  have hM := h
  clear h hS
  unfold vxlan_Hash.f at hM
  refine WP.seq ?_
  refine WP.run [] [0, 2] (fun _ => [(0, .string a0), (2, .int .u32 0)]) (fun _ => []) (fun _ => []) (fun _ => by kernel_rfl) (fun _ => ?_)
  refine WP.seq ?_
  refine WP.run [] [0, 2, 3] (fun _ => [(0, .string a0), (2, .int .u32 0), (3, .int .u32 2166136261)]) (fun _ => []) (fun _ => []) (fun _ => by kernel_rfl) (fun _ => ?_)
  refine WP.seq ?_
  refine WP.seq ?_
  refine WP.run [] [0, 2, 3, 6, 7] (fun _ => [(0, .string a0), (2, .int .u32 0), (3, .int .u32 2166136261), (6, .int .i64 (a0.size : Int)), (7, .int .i64 0)]) (fun _ => []) (fun _ => []) (fun _ => by kernel_rfl) (fun _ => ?_)
  refine WP.block ?_
  refine WP.sub [0, 2, 3, 6, 7] (L' := [(0, .string a0), (2, .int .u32 0), (3, .int .u32 2166136261), (6, .int .i64 (a0.size : Int)), (7, .int .i64 0)]) (by kernel_rfl) ?_
  refine WP.loop (σ := Int × Int) (fun n st => vxlan_Hash.l1 a0 n st.1 st.2) r (fun st => [(0, .string a0), (2, .int .u32 0), (3, .int .u32 st.1), (6, .int .i64 (a0.size : Int)), (7, .int .i64 st.2)]) (fun st => Sat w Z [] [] Glob) (st := (2166136261, 0)) (fun n st hM => ?_) hM
  rcases n with _ | n
  · exact nomatch (show (none : Option _) = some r from hM)
  obtain ⟨x1, x2⟩ := st
  replace hM : vxlan_Hash.l1 a0 (n + 1) x1 x2 = some r := hM
  rw [vxlan_Hash.l1] at hM
  show WP _ _ _ _ _ [(0, .string a0), (2, .int .u32 0), (3, .int .u32 x1), (6, .int .i64 (a0.size : Int)), (7, .int .i64 x2)] (Sat w Z [] [] Glob)
  refine WP.seq ?_
  refine WP.run [] [0, 2, 3, 6, 7, 8] (fun _ => [(0, .string a0), (2, .int .u32 0), (3, .int .u32 x1), (6, .int .i64 (a0.size : Int)), (7, .int .i64 x2), (8, .bool (decide (x2 < (a0.size : Int))))]) (fun _ => []) (fun _ => []) (fun _ => by kernel_rfl) (fun _ => ?_)
  refine WP.seq ?_
  refine WP.cond (decide (x2 < (a0.size : Int))) rfl rfl (fun c3 => ?_) (fun c3 => ?_)
  · replace hM := cond_t hM c3
    refine WP.skip ?_
    refine WP.seq ?_
    refine WP.block ?_
    refine WP.seq ?_
    refine WP.run [] [0, 2, 3, 4, 6, 7, 8, 9] (fun _ => [(0, .string a0), (2, .int .u32 0), (3, .int .u32 x1), (4, .int .i64 x2), (6, .int .i64 (a0.size : Int)), (7, .int .i64 x2), (8, .bool (decide (x2 < (a0.size : Int)))), (9, .int .i64 x2)]) (fun _ => []) (fun _ => []) (fun _ => by kernel_rfl) (fun _ => ?_)
    refine WP.region ?_
    refine WL.run 3 [] [0, 2, 3, 4, 6, 7, 8, 9, 10, 11, 12] (fun _ => [(0, .string a0), (2, .int .u32 0), (3, .int .u32 x1), (4, .int .i64 x2), (6, .int .i64 (a0.size : Int)), (7, .int .i64 x2), (8, .bool (decide (x2 < (a0.size : Int)))), (9, .int .i64 x2), (10, .int .u32 x1), (11, .string a0), (12, .int .i64 x2)]) (fun _ => []) (fun _ => []) (fun _ => by kernel_rfl) (fun _ => ?_)
    obtain ⟨t4, h5, hM⟩ := bind_some hM
    refine WL.val (fun _ => run_idxS (s := a0) (k := .i64) (i := x2) (by kernel_rfl) (by kernel_rfl) (by kernel_rfl) h5) (by kernel_rfl) (by kernel_rfl) rfl ?_
    refine WL.run 4 [] [0, 2, 3, 4, 6, 7, 8, 9, 10, 11, 12, 13, 14, 15, 16] (fun _ => [(0, .string a0), (2, .int .u32 0), (3, .int .u32 (u32 ((bXor .u32 x1 (u32 t4)) * 16777619))), (4, .int .i64 x2), (6, .int .i64 (a0.size : Int)), (7, .int .i64 x2), (8, .bool (decide (x2 < (a0.size : Int)))), (9, .int .i64 x2), (10, .int .u32 x1), (11, .string a0), (12, .int .i64 x2), (13, .int .u8 t4), (14, .int .u32 (u32 t4)), (15, .int .u32 (bXor .u32 x1 (u32 t4))), (16, .int .u32 (u32 ((bXor .u32 x1 (u32 t4)) * 16777619)))]) (fun _ => []) (fun _ => []) (fun _ => by kernel_rfl) (fun _ => ?_)
    refine WP.done ?_
    refine WP.leave ?_
    refine WP.run [] [0, 2, 3, 4, 6, 7, 8, 9, 10, 11, 12, 13, 14, 15, 16, 17] (fun _ => [(0, .string a0), (2, .int .u32 0), (3, .int .u32 (u32 ((bXor .u32 x1 (u32 t4)) * 16777619))), (4, .int .i64 x2), (6, .int .i64 (a0.size : Int)), (7, .int .i64 (i64 (x2 + 1))), (8, .bool (decide (x2 < (a0.size : Int)))), (9, .int .i64 x2), (10, .int .u32 x1), (11, .string a0), (12, .int .i64 x2), (13, .int .u8 t4), (14, .int .u32 (u32 t4)), (15, .int .u32 (bXor .u32 x1 (u32 t4))), (16, .int .u32 (u32 ((bXor .u32 x1 (u32 t4)) * 16777619))), (17, .int .i64 (i64 (x2 + 1)))]) (fun _ => []) (fun _ => []) (fun _ => by kernel_rfl) (fun _ => ?_)
    exact WP.again' [0, 2, 3, 6, 7] (u32 ((bXor .u32 x1 (u32 t4)) * 16777619), i64 (x2 + 1)) hM (by kernel_rfl) (fun _ h => h.pick [] (by kernel_rfl))
  · replace hM := cond_f hM c3
    refine WP.exit rfl ?_
    refine WP.seq ?_
    refine WP.run [] [2] (fun _ => [(2, .int .u32 x1)]) (fun _ => []) (fun _ => []) (fun _ => by kernel_rfl) (fun _ => ?_)
    obtain rfl := Option.some.inj hM
    exact WP.ret [] [] (.int .u32 x1) (by kernel_rfl) (fun w' hw => ⟨rfl, hw.pick [] rfl⟩)

end Go.Proofs.YtbodofjnfmjbpaaGreatDoor

namespace Go.Proofs.YtbodofjnfmjbpaaGreatDoor
open Go Eng
set_option linter.unusedVariables false
set_option linter.unusedSimpArgs false

/-! ### gangway/vxlan.Port: function 19 -/
def vxlan_Port.f (k : Nat) (a0 : ByteArray) : Option (Int) :=
  (sliceS a0 0 (imin (a0.size : Int) 14)).bind fun t1 =>
  (vxlan_Hash.f k t1).bind fun r3 =>
  some (i64 (49152 + (i64 (Int.tmod r3 16384))))

set_option maxRecDepth 100000 in
theorem vxlan_Port_calls (k : Nat) (a0 : ByteArray) (r : Int) (h : vxlan_Port.f k a0 = some r) : Pure Tryz.prog Glob 19 #[.string a0] (.int .i64 r) := by
  intro w Z hS
  refine calls_of (args := [.string a0]) (L := [(0, .string a0)]) (N := 12) (S := Sat w Z [] [] Glob) Tryz.func19 rfl rfl (Nat.le_of_ble_eq_true rfl) rfl hS ?_
  have hM := h
  clear h hS
  unfold vxlan_Port.f at hM
  refine WP.seq ?_
  refine WP.run [] [0, 2] (fun _ => [(0, .string a0), (2, .int .i64 0)]) (fun _ => []) (fun _ => []) (fun _ => by kernel_rfl) (fun _ => ?_)
  refine WP.seq ?_
  refine WP.region ?_
  refine WL.run 4 [] [2, 3, 6] (fun _ => [(2, .int .i64 0), (3, .string a0), (6, .int .i64 (imin (a0.size : Int) 14))]) (fun _ => []) (fun _ => []) (fun _ => by kernel_rfl) (fun _ => ?_)
  obtain ⟨t1, h2, hM⟩ := bind_some hM
  refine WL.val (fun _ => run_sliceS_hi (s := a0) (kh := .i64) (h := imin (a0.size : Int) 14) (by kernel_rfl) (by kernel_rfl) (by kernel_rfl) h2) (by kernel_rfl) (by kernel_rfl) rfl ?_
  obtain ⟨r3, h4, hM⟩ := bind_some hM
  refine WL.callP [] [] (vxlan_Hash_calls k t1 _ h4) (fun _ h => h) (by kernel_rfl) (by kernel_rfl) rfl ?_
  refine WL.run 4 [] [2] (fun _ => [(2, .int .i64 (i64 (49152 + (i64 (Int.tmod r3 16384)))))]) (fun _ => []) (fun _ => []) (fun _ => by kernel_rfl) (fun _ => ?_)
  refine WP.done ?_
  obtain rfl := Option.some.inj hM
  exact WP.ret [] [] (.int .i64 (i64 (49152 + (i64 (Int.tmod r3 16384))))) (by kernel_rfl) (fun w' hw => ⟨rfl, hw.pick [] rfl⟩)

end Go.Proofs.YtbodofjnfmjbpaaGreatDoor

namespace Go.Proofs.YtbodofjnfmjbpaaGreatDoor
open Go Eng
set_option linter.unusedVariables false
set_option linter.unusedSimpArgs false

/-! ### gangway/udp.Check$1: function 95 -/
def udp_Check_1.f (a0 : Int) : Option (Bool) :=
  some ((decide (a0 ≥ 0)) && (decide (a0 < 65536)))

set_option maxRecDepth 100000 in
theorem udp_Check_1_calls (a0 : Int) (r : Bool) (h : udp_Check_1.f a0 = some r) : Pure Tryz.prog Glob 95 #[.int .i64 a0] (.bool r) := by
  intro w Z hS
  refine calls_of (args := [.int .i64 a0]) (L := [(0, .int .i64 a0)]) (N := 9) (S := Sat w Z [] [] Glob) Tryz.func95 rfl rfl (Nat.le_of_ble_eq_true rfl) rfl hS ?_
  have hM := h
  clear h hS
  unfold udp_Check_1.f at hM
  refine WP.seq ?_
  refine WP.run [] [0, 2] (fun _ => [(0, .int .i64 a0), (2, .bool false)]) (fun _ => []) (fun _ => []) (fun _ => by kernel_rfl) (fun _ => ?_)
  refine WP.seq ?_
  refine WP.region ?_
  refine WL.run 3 [] [0, 2, 5] (fun _ => [(0, .int .i64 a0), (2, .bool false), (5, .bool (decide (a0 ≥ 0)))]) (fun _ => []) (fun _ => []) (fun _ => by kernel_rfl) (fun _ => ?_)
  refine WL.sub [0, 2, 5] (L' := [(0, .int .i64 a0), (2, .bool false), (5, .bool (decide (a0 ≥ 0)))]) (by kernel_rfl) ?_
  refine WL.both (fun b' => [(0, .int .i64 a0), (2, .bool false), (5, .bool b')]) (decide (a0 ≥ 0)) 3 [] [] [2, 8] (fun b' => [(2, .bool false), (8, .bool (b' && (decide (a0 < 65536))))]) [] [] (fun _ => by kernel_rfl) (fun _ => by kernel_rfl) ?_
  refine WL.run 1 [] [2] (fun _ => [(2, .bool ((decide (a0 ≥ 0)) && (decide (a0 < 65536))))]) (fun _ => []) (fun _ => []) (fun _ => by kernel_rfl) (fun _ => ?_)
  refine WP.done ?_
  obtain rfl := Option.some.inj hM
  exact WP.ret [] [] (.bool ((decide (a0 ≥ 0)) && (decide (a0 < 65536)))) (by kernel_rfl) (fun w' hw => ⟨rfl, hw.pick [] rfl⟩)

end Go.Proofs.YtbodofjnfmjbpaaGreatDoor

namespace Go.Proofs.YtbodofjnfmjbpaaGreatDoor
open Go Eng
set_option linter.unusedVariables false
set_option linter.unusedSimpArgs false

/-! ### gangway/udp.Check: function 65 -/
def udp_Check.k1 (a0 : api_Udp) (x7 : Bool) : Option (Int) :=
  bif (x7 && (decide ((a0.Body.size : Int) ≤ 65507))) then
    some 0
  else
    some 71

def udp_Check.f (a0 : api_Udp) : Option (Int) :=
  (udp_Check_1.f a0.Src).bind fun r2 =>
  bif r2 then
    (udp_Check_1.f a0.Dst).bind fun r5 =>
    udp_Check.k1 a0 r5
  else
    udp_Check.k1 a0 false

set_option maxRecDepth 100000 in
theorem udp_Check_calls (a0 : api_Udp) (r : Int) (h : udp_Check.f a0 = some r) : Pure Tryz.prog Glob 65 #[.agg #[.int .i64 a0.Src, .int .i64 a0.Dst, .bool a0.NoSum, .string a0.Body]] (.int .i64 r) := by
  intro w Z hS
  refine calls_of (args := [.agg #[.int .i64 a0.Src, .int .i64 a0.Dst, .bool a0.NoSum, .string a0.Body]]) (L := [(0, .agg #[.int .i64 a0.Src, .int .i64 a0.Dst, .bool a0.NoSum, .string a0.Body])]) (N := 20) (S := Sat w Z [] [] Glob) Tryz.func65 rfl rfl (Nat.le_of_ble_eq_true rfl) rfl hS ?_
  have hM := h
  clear h hS
  unfold udp_Check.f at hM
  refine WP.seq ?_
  refine WP.run [] [1, 2] (fun b1 => [(1, .pointer (some ⟨b1, 0, none⟩)), (2, .int .i64 0)]) (fun b1 => [(b1, .cells #[.int .i64 a0.Src, .int .i64 a0.Dst, .bool a0.NoSum, .string a0.Body] 40 (0, 0))]) (fun b1 => []) (fun b1 => by kernel_rfl) (fun b1 => ?_)
  refine WP.seq ?_
  refine WP.run [] [1, 2, 3] (fun _ => [(1, .pointer (some ⟨b1, 0, none⟩)), (2, .int .i64 0), (3, .func (.func 95) #[] #[])]) (fun _ => [(b1, .cells #[.int .i64 a0.Src, .int .i64 a0.Dst, .bool a0.NoSum, .string a0.Body] 40 (0, 0))]) (fun _ => []) (fun _ => by kernel_rfl) (fun _ => ?_)
  refine WP.seq ?_
  refine WP.seq ?_
  refine WP.region ?_
  refine WL.run 3 [0] [1, 2, 3, 4, 6] (fun _ => [(1, .pointer (some ⟨b1, 0, none⟩)), (2, .int .i64 0), (3, .func (.func 95) #[] #[]), (4, .func (.func 95) #[] #[]), (6, .int .i64 a0.Src)]) (fun _ => [(b1, .cells #[.int .i64 a0.Src, .int .i64 a0.Dst, .bool a0.NoSum, .string a0.Body] 40 (0, 0))]) (fun _ => [b1]) (fun _ => by kernel_rfl) (fun _ => ?_)
  obtain ⟨r2, h3, hM⟩ := bind_some hM
  refine WL.callP [] [] (udp_Check_1_calls a0.Src _ h3) (fun _ h => h) (by kernel_rfl) (by kernel_rfl) rfl ?_
  refine WL.run 1 [] [1, 2, 3, 8] (fun _ => [(1, .pointer (some ⟨b1, 0, none⟩)), (2, .int .i64 0), (3, .func (.func 95) #[] #[]), (8, .bool r2)]) (fun _ => [(b1, .cells #[.int .i64 a0.Src, .int .i64 a0.Dst, .bool a0.NoSum, .string a0.Body] 40 (0, 0))]) (fun _ => []) (fun _ => by kernel_rfl) (fun _ => ?_)
  refine WL.sub [1, 2, 3, 8] (L' := [(1, .pointer (some ⟨b1, 0, none⟩)), (2, .int .i64 0), (3, .func (.func 95) #[] #[]), (8, .bool r2)]) (by kernel_rfl) ?_
  refine WL.join (σ := Bool) 5 (fun st => udp_Check.k1 a0 st = some r) (fun st => [(1, .pointer (some ⟨b1, 0, none⟩)), (2, .int .i64 0), (13, .bool st)]) (fun st => Sat w Z [(b1, .cells #[.int .i64 a0.Src, .int .i64 a0.Dst, .bool a0.NoSum, .string a0.Body] 40 (0, 0))] [] Glob) (fun st hM => ?_) (fun K1 => ?_)
  ·
    obtain ⟨x7, rfl⟩ : ∃ y, y = st := ⟨st, rfl⟩
    replace hM : udp_Check.k1 a0 x7 = some r := hM
    unfold udp_Check.k1 at hM
    show WL _ _ _ _ _ [(1, .pointer (some ⟨b1, 0, none⟩)), (2, .int .i64 0), (13, .bool x7)] (Sat w Z [(b1, .cells #[.int .i64 a0.Src, .int .i64 a0.Dst, .bool a0.NoSum, .string a0.Body] 40 (0, 0))] [] Glob)
    refine WL.run 1 [] [1, 2, 14] (fun _ => [(1, .pointer (some ⟨b1, 0, none⟩)), (2, .int .i64 0), (14, .bool x7)]) (fun _ => [(b1, .cells #[.int .i64 a0.Src, .int .i64 a0.Dst, .bool a0.NoSum, .string a0.Body] 40 (0, 0))]) (fun _ => []) (fun _ => by kernel_rfl) (fun _ => ?_)
    refine WL.sub [1, 2, 14] (L' := [(1, .pointer (some ⟨b1, 0, none⟩)), (2, .int .i64 0), (14, .bool x7)]) (by kernel_rfl) ?_
    refine WL.both (fun b' => [(1, .pointer (some ⟨b1, 0, none⟩)), (2, .int .i64 0), (14, .bool b')]) x7 5 [0] [] [2, 19] (fun b' => [(2, .int .i64 0), (19, .bool (b' && (decide ((a0.Body.size : Int) ≤ 65507))))]) [b1] [] (fun _ => by kernel_rfl) (fun _ => by kernel_rfl) ?_
    refine WP.done ?_
    refine WP.keep [false] (by kernel_rfl : _ = []) ?_
    refine WP.cond (x7 && (decide ((a0.Body.size : Int) ≤ 65507))) rfl rfl (fun c8 => ?_) (fun c8 => ?_)
    · replace hM := cond_t hM c8
      refine WP.seq ?_
      refine WP.run [] [2] (fun _ => [(2, .int .i64 0)]) (fun _ => []) (fun _ => []) (fun _ => by kernel_rfl) (fun _ => ?_)
      obtain rfl := Option.some.inj hM
      exact WP.ret [] [] (.int .i64 0) (by kernel_rfl) (fun w' hw => ⟨rfl, hw.pick [] rfl⟩)
    · replace hM := cond_f hM c8
      refine WP.skip ?_
      refine WP.seq ?_
      refine WP.run [] [2] (fun _ => [(2, .int .i64 71)]) (fun _ => []) (fun _ => []) (fun _ => by kernel_rfl) (fun _ => ?_)
      obtain rfl := Option.some.inj hM
      exact WP.ret [] [] (.int .i64 71) (by kernel_rfl) (fun w' hw => ⟨rfl, hw.pick [] rfl⟩)
  ·
    refine WL.split (fun b' => [(1, .pointer (some ⟨b1, 0, none⟩)), (2, .int .i64 0), (3, .func (.func 95) #[] #[]), (8, .bool b')]) r2 (fun c4 => ?_) (fun c4 => ?_)
    · replace hM := cond_t hM c4
      refine WL.run 3 [0] [1, 2, 8, 9, 11] (fun _ => [(1, .pointer (some ⟨b1, 0, none⟩)), (2, .int .i64 0), (8, .bool true), (9, .func (.func 95) #[] #[]), (11, .int .i64 a0.Dst)]) (fun _ => [(b1, .cells #[.int .i64 a0.Src, .int .i64 a0.Dst, .bool a0.NoSum, .string a0.Body] 40 (0, 0))]) (fun _ => [b1]) (fun _ => by kernel_rfl) (fun _ => ?_)
      obtain ⟨r5, h6, hM⟩ := bind_some hM
      refine WL.callP [] [] (udp_Check_1_calls a0.Dst _ h6) (fun _ h => h) (by kernel_rfl) (by kernel_rfl) rfl ?_
      refine WL.run 1 [] [1, 2, 13] (fun _ => [(1, .pointer (some ⟨b1, 0, none⟩)), (2, .int .i64 0), (13, .bool r5)]) (fun _ => [(b1, .cells #[.int .i64 a0.Src, .int .i64 a0.Dst, .bool a0.NoSum, .string a0.Body] 40 (0, 0))]) (fun _ => []) (fun _ => by kernel_rfl) (fun _ => ?_)
      exact WL.sub [1, 2, 13] (by kernel_rfl) (WL.pick [0] (by kernel_rfl) (by kernel_rfl) (K1 r5 hM))
    · replace hM := cond_f hM c4
      refine WL.run 5 [] [1, 2, 13] (fun _ => [(1, .pointer (some ⟨b1, 0, none⟩)), (2, .int .i64 0), (13, .bool false)]) (fun _ => [(b1, .cells #[.int .i64 a0.Src, .int .i64 a0.Dst, .bool a0.NoSum, .string a0.Body] 40 (0, 0))]) (fun _ => []) (fun _ => by kernel_rfl) (fun _ => ?_)
      exact WL.sub [1, 2, 13] (by kernel_rfl) (WL.pick [0] (by kernel_rfl) (by kernel_rfl) (K1 false hM))

end Go.Proofs.YtbodofjnfmjbpaaGreatDoor

namespace Go.Proofs.YtbodofjnfmjbpaaGreatDoor
open Go Eng
set_option linter.unusedVariables false
set_option linter.unusedSimpArgs false

/-! ### gangway/udp.word: function 66 -/
def udp_word.f (k : Nat) (a0 : Int) : Option (ByteArray) :=
  (octets_Put.f k (u64 a0) 2).bind fun (r1, r2) =>
  some r1

set_option maxRecDepth 100000 in
theorem udp_word_calls (k : Nat) (a0 : Int) (r : ByteArray) (h : udp_word.f k a0 = some r) : Pure Tryz.prog Glob 66 #[.int .i64 a0] (.string r) := by
  intro w Z hS
  refine calls_of (args := [.int .i64 a0]) (L := [(0, .int .i64 a0)]) (N := 12) (S := Sat w Z [] [] Glob) Tryz.func66 rfl rfl (Nat.le_of_ble_eq_true rfl) rfl hS ?_
  have hM := h
  clear h hS
  unfold udp_word.f at hM
  refine WP.seq ?_
  refine WP.run [] [0, 2] (fun _ => [(0, .int .i64 a0), (2, .string (⟨#[]⟩ : ByteArray))]) (fun _ => []) (fun _ => []) (fun _ => by kernel_rfl) (fun _ => ?_)
  refine WP.seq ?_
  refine WP.region ?_
  refine WL.run 2 [] [2, 7] (fun _ => [(2, .string (⟨#[]⟩ : ByteArray)), (7, .int .u64 (u64 a0))]) (fun _ => []) (fun _ => []) (fun _ => by kernel_rfl) (fun _ => ?_)
  obtain ⟨⟨r1, r2⟩, h3, hM⟩ := bind_some hM
  dsimp only at hM
  refine WL.callP [] [] (octets_Put_calls k (u64 a0) 2 _ h3) (fun _ h => h) (by kernel_rfl) (by kernel_rfl) rfl ?_
  refine WL.run 5 [] [2, 3] (fun _ => [(2, .string (⟨#[]⟩ : ByteArray)), (3, .string r1)]) (fun _ => []) (fun _ => []) (fun _ => by kernel_rfl) (fun _ => ?_)
  refine WP.done ?_
  refine WP.seq ?_
  refine WP.run [] [2] (fun _ => [(2, .string r1)]) (fun _ => []) (fun _ => []) (fun _ => by kernel_rfl) (fun _ => ?_)
  obtain rfl := Option.some.inj hM
  exact WP.ret [] [] (.string r1) (by kernel_rfl) (fun w' hw => ⟨rfl, hw.pick [] rfl⟩)

end Go.Proofs.YtbodofjnfmjbpaaGreatDoor

namespace Go.Proofs.YtbodofjnfmjbpaaGreatDoor
open Go Eng
set_option linter.unusedVariables false
set_option linter.unusedSimpArgs false

/-! ### gangway/csum.Head: function 68 -/
def csum_Head.f (k : Nat) (a0 : Int) (a1 : Int) (a2 : Int) (a3 : Int) : Option (ByteArray) :=
  (octets_Put.f k (u64 a0) 4).bind fun (r1, r2) =>
  (octets_Put.f k (u64 a1) 4).bind fun (r4, r5) =>
  (octets_Put.f k (u64 (bAnd .i64 a3 65535)) 2).bind fun (r7, r8) =>
  (catS r1 r4).bind fun t10 =>
  (catS t10 (ByteArray.push (ByteArray.push ByteArray.empty (UInt8.ofNat (Int.toNat 0))) (UInt8.ofNat (Int.toNat (u8 a2))))).bind fun t13 =>
  (catS t13 r7).bind fun t15 =>
  some t15

set_option maxRecDepth 100000 in
theorem csum_Head_calls (k : Nat) (a0 : Int) (a1 : Int) (a2 : Int) (a3 : Int) (r : ByteArray) (h : csum_Head.f k a0 a1 a2 a3 = some r) : Pure Tryz.prog Glob 68 #[.int .u32 a0, .int .u32 a1, .int .i64 a2, .int .i64 a3] (.string r) := by
  intro w Z hS
  refine calls_of (args := [.int .u32 a0, .int .u32 a1, .int .i64 a2, .int .i64 a3]) (L := [(0, .int .u32 a0), (1, .int .u32 a1), (2, .int .i64 a2), (3, .int .i64 a3)]) (N := 44) (S := Sat w Z [] [] Glob) Tryz.func68 rfl rfl (Nat.le_of_ble_eq_true rfl) rfl hS ?_
  have hM := h
  clear h hS
  unfold csum_Head.f at hM
  refine WP.seq ?_
  refine WP.run [] [0, 1, 2, 3, 8] (fun _ => [(0, .int .u32 a0), (1, .int .u32 a1), (2, .int .i64 a2), (3, .int .i64 a3), (8, .string (⟨#[]⟩ : ByteArray))]) (fun _ => []) (fun _ => []) (fun _ => by kernel_rfl) (fun _ => ?_)
  refine WP.seq ?_
  refine WP.region ?_
  refine WL.run 2 [] [1, 2, 3, 8, 17] (fun _ => [(1, .int .u32 a1), (2, .int .i64 a2), (3, .int .i64 a3), (8, .string (⟨#[]⟩ : ByteArray)), (17, .int .u64 (u64 a0))]) (fun _ => []) (fun _ => []) (fun _ => by kernel_rfl) (fun _ => ?_)
  obtain ⟨⟨r1, r2⟩, h3, hM⟩ := bind_some hM
  dsimp only at hM
  refine WL.callP [] [] (octets_Put_calls k (u64 a0) 4 _ h3) (fun _ h => h) (by kernel_rfl) (by kernel_rfl) rfl ?_
  refine WL.run 5 [] [1, 2, 3, 8, 9] (fun _ => [(1, .int .u32 a1), (2, .int .i64 a2), (3, .int .i64 a3), (8, .string (⟨#[]⟩ : ByteArray)), (9, .string r1)]) (fun _ => []) (fun _ => []) (fun _ => by kernel_rfl) (fun _ => ?_)
  refine WP.done ?_
  refine WP.seq ?_
  refine WP.region ?_
  refine WL.run 2 [] [2, 3, 8, 9, 23] (fun _ => [(2, .int .i64 a2), (3, .int .i64 a3), (8, .string (⟨#[]⟩ : ByteArray)), (9, .string r1), (23, .int .u64 (u64 a1))]) (fun _ => []) (fun _ => []) (fun _ => by kernel_rfl) (fun _ => ?_)
  obtain ⟨⟨r4, r5⟩, h6, hM⟩ := bind_some hM
  dsimp only at hM
  refine WL.callP [] [] (octets_Put_calls k (u64 a1) 4 _ h6) (fun _ h => h) (by kernel_rfl) (by kernel_rfl) rfl ?_
  refine WL.run 5 [] [2, 3, 8, 9, 11] (fun _ => [(2, .int .i64 a2), (3, .int .i64 a3), (8, .string (⟨#[]⟩ : ByteArray)), (9, .string r1), (11, .string r4)]) (fun _ => []) (fun _ => []) (fun _ => by kernel_rfl) (fun _ => ?_)
  refine WP.done ?_
  refine WP.seq ?_
  refine WP.region ?_
  refine WL.run 3 [] [2, 8, 9, 11, 30] (fun _ => [(2, .int .i64 a2), (8, .string (⟨#[]⟩ : ByteArray)), (9, .string r1), (11, .string r4), (30, .int .u64 (u64 (bAnd .i64 a3 65535)))]) (fun _ => []) (fun _ => []) (fun _ => by kernel_rfl) (fun _ => ?_)
  obtain ⟨⟨r7, r8⟩, h9, hM⟩ := bind_some hM
  dsimp only at hM
  refine WL.callP [] [] (octets_Put_calls k (u64 (bAnd .i64 a3 65535)) 2 _ h9) (fun _ h => h) (by kernel_rfl) (by kernel_rfl) rfl ?_
  refine WL.run 5 [] [2, 8, 9, 11, 13] (fun _ => [(2, .int .i64 a2), (8, .string (⟨#[]⟩ : ByteArray)), (9, .string r1), (11, .string r4), (13, .string r7)]) (fun _ => []) (fun _ => []) (fun _ => by kernel_rfl) (fun _ => ?_)
  refine WP.done ?_
  refine WP.seq ?_
  refine WP.region ?_
  refine WL.run 2 [] [2, 8, 13, 34, 35] (fun _ => [(2, .int .i64 a2), (8, .string (⟨#[]⟩ : ByteArray)), (13, .string r7), (34, .string r1), (35, .string r4)]) (fun _ => []) (fun _ => []) (fun _ => by kernel_rfl) (fun _ => ?_)
  obtain ⟨t10, h11, hM⟩ := bind_some hM
  refine WL.val (fun _ => run_catS (a := r1) (b := r4) (by kernel_rfl) (by kernel_rfl) h11) (by kernel_rfl) (by kernel_rfl) rfl ?_
  refine WL.run 4 [0, 0] [8, 13, 36, 40] (fun b12 => [(8, .string (⟨#[]⟩ : ByteArray)), (13, .string r7), (36, .string t10), (40, .string (ByteArray.push (ByteArray.push ByteArray.empty (UInt8.ofNat (Int.toNat 0))) (UInt8.ofNat (Int.toNat (u8 a2)))))]) (fun b12 => [(b12, .cells #[.int .u8 0, .int .u8 (u8 a2)] 5 (0, 0))]) (fun b12 => [b12, b12]) (fun b12 => by kernel_rfl) (fun b12 => ?_)
  obtain ⟨t13, h14, hM⟩ := bind_some hM
  refine WL.val (fun _ => run_catS (a := t10) (b := (ByteArray.push (ByteArray.push ByteArray.empty (UInt8.ofNat (Int.toNat 0))) (UInt8.ofNat (Int.toNat (u8 a2))))) (by kernel_rfl) (by kernel_rfl) h14) (by kernel_rfl) (by kernel_rfl) rfl ?_
  refine WL.run 1 [] [8, 41, 42] (fun _ => [(8, .string (⟨#[]⟩ : ByteArray)), (41, .string t13), (42, .string r7)]) (fun _ => [(b12, .cells #[.int .u8 0, .int .u8 (u8 a2)] 5 (0, 0))]) (fun _ => []) (fun _ => by kernel_rfl) (fun _ => ?_)
  obtain ⟨t15, h16, hM⟩ := bind_some hM
  refine WL.val (fun _ => run_catS (a := t13) (b := r7) (by kernel_rfl) (by kernel_rfl) h16) (by kernel_rfl) (by kernel_rfl) rfl ?_
  refine WL.run 1 [] [8] (fun _ => [(8, .string t15)]) (fun _ => [(b12, .cells #[.int .u8 0, .int .u8 (u8 a2)] 5 (0, 0))]) (fun _ => []) (fun _ => by kernel_rfl) (fun _ => ?_)
  refine WP.done ?_
  refine WP.keep [false] (by kernel_rfl : _ = []) ?_
  obtain rfl := Option.some.inj hM
  exact WP.ret [] [] (.string t15) (by kernel_rfl) (fun w' hw => ⟨rfl, hw.pick [] rfl⟩)

end Go.Proofs.YtbodofjnfmjbpaaGreatDoor

namespace Go.Proofs.YtbodofjnfmjbpaaGreatDoor
open Go Eng
set_option linter.unusedVariables false
set_option linter.unusedSimpArgs false

/-! ### strings.Join: function 114 -/
def strings_Join.ren : Go.Shelf.Ren where
  f := fun | 156 => 114 | 165 => 118 | 166 => 119 | 169 => 120 | 240 => 121 | 241 => 122 | 276 => 123 | 277 => 124 | n => n
  t := fun | 0 => 0 | 3 => 3 | 4 => 4 | 5 => 5 | 9 => 9 | 20 => 20 | 31 => 161 | 37 => 87 | 70 => 191 | 72 => 193 | 75 => 73 | 76 => 170 | 80 => 196 | 127 => 197 | 164 => 103 | n => n
  g := fun n => n
set_option maxRecDepth 100000 in
theorem strings_Join.lays : Go.Proofs.Lays.n156 Tryz.prog strings_Join.ren where
  mixed := by kernel_rfl
  f156 := by kernel_rfl
  f165 := by kernel_rfl
  f166 := by kernel_rfl
  f169 := by kernel_rfl
  f240 := by kernel_rfl
  f241 := by kernel_rfl
  f276 := by kernel_rfl
  f277 := by kernel_rfl
  t0 := by kernel_rfl
  a0 := (fun _ => by kernel_rfl)
  z0 := (fun _ => by kernel_rfl)
  v0 := (fun _ => by kernel_rfl)
  t3 := by kernel_rfl
  a3 := (fun _ => by kernel_rfl)
  z3 := (fun _ => by kernel_rfl)
  v3 := (fun _ => by kernel_rfl)
  t4 := by kernel_rfl
  a4 := (fun _ => by kernel_rfl)
  z4 := (fun _ => by kernel_rfl)
  v4 := (fun _ => by kernel_rfl)
  t9 := by kernel_rfl
  a9 := (fun _ => by kernel_rfl)
  z9 := (fun _ => by kernel_rfl)
  v9 := (fun _ => by kernel_rfl)
  t20 := by kernel_rfl
  a20 := (fun _ => by kernel_rfl)
  z20 := (fun _ => by kernel_rfl)
  v20 := (fun _ => by kernel_rfl)
  t31 := by kernel_rfl
  a31 := (fun _ => by kernel_rfl)
  z31 := (fun _ => by kernel_rfl)
  v31 := (fun _ => by kernel_rfl)
  t37 := by kernel_rfl
  a37 := (fun _ => by kernel_rfl)
  z37 := (fun _ => by kernel_rfl)
  v37 := (fun _ => by kernel_rfl)
  t70 := by kernel_rfl
  a70 := (fun _ => by kernel_rfl)
  z70 := (fun _ => by kernel_rfl)
  v70 := (fun _ => by kernel_rfl)
  t72 := by kernel_rfl
  a72 := (fun _ => by kernel_rfl)
  z72 := (fun _ => by kernel_rfl)
  v72 := (fun _ => by kernel_rfl)
  t75 := by kernel_rfl
  a75 := (fun _ => by kernel_rfl)
  z75 := (fun _ => by kernel_rfl)
  v75 := (fun _ => by kernel_rfl)
  t76 := by kernel_rfl
  a76 := (fun _ => by kernel_rfl)
  z76 := (fun _ => by kernel_rfl)
  v76 := (fun _ => by kernel_rfl)
  t127 := by kernel_rfl
  a127 := (fun _ => by kernel_rfl)
  z127 := (fun _ => by kernel_rfl)
  v127 := (fun _ => by kernel_rfl)
  t164 := by kernel_rfl
  a164 := (fun _ => by kernel_rfl)
  z164 := (fun _ => by kernel_rfl)
  v164 := (fun _ => by kernel_rfl)
set_option maxRecDepth 100000 in
theorem strings_Join.extra : Go.Proofs.Builder.Extra Tryz.prog strings_Join.ren where
  sizeBuilder := by kernel_rfl
  liesBuilder := by kernel_rfl
  t5 := by kernel_rfl
  a5 := fun _ => by kernel_rfl
  z5 := fun _ => by kernel_rfl
  v5 := fun _ => by kernel_rfl
  infoByte := by kernel_rfl
  cellsByte := by kernel_rfl
  sizeByte := by kernel_rfl
  neB5 := by decide

def strings_Join.f (a0 : List ByteArray) (a1 : ByteArray) : Option ByteArray := if a0.length ≤ 140737488355328 ∧ (Lib.join (a0.map (·.data.toList)) a1.data.toList).length ≤ 140737488355328 then some ⟨(Lib.join (a0.map (·.data.toList)) a1.data.toList).toArray⟩ else none

set_option maxRecDepth 100000 in
theorem strings_Join_calls (A00 : SkL Unit) (a0 : List ByteArray) (a1 : ByteArray) (r : ByteArray) (h : strings_Join.f a0 a1 = some r) : Pure Tryz.prog ([Row 1 (pl encS) noK A00 a0] ++ Glob) 114 #[slcV A00 a0.length, .string a1] (.string r) := by
  intro w Z hS
  unfold strings_Join.f at h
  split at h
  · rename_i hb
    obtain rfl := Option.some.inj h
    have hR := hS.fact (φ := Row 1 (pl encS) noK A00 a0) (fact_at 0 rfl)
    have hback : ∀ w' : World, Go.RowKit.Below w.heap.size w w' → Sat w Z [] [] ([Row 1 (pl encS) noK A00 a0] ++ Glob) w' := fun w' hb' => hS.away hb'.os hb'.tape hb'.output hb'.size hb'.block
    cases hA : A00.a with
    | none =>
      obtain ⟨h1, h2⟩ := hR.nil hA
      subst h1
      have hv : slcV A00 ([] : List ByteArray).length = .slice A00.z 0 0 := by simp [slcV, SkL.addr, hA, h2]
      rw [hv]
      refine (Any.strings_Join_none strings_Join.lays strings_Join.extra A00.z 0 a1 w).mono fun e w' ⟨he, hw⟩ => ⟨he, ?_⟩
      subst hw
      exact hS
    | some q =>
      obtain ⟨b, o⟩ := q
      have hv : slcV A00 a0.length = .slice (some ⟨b, o, none⟩) a0.length A00.c := by simp [slcV, SkL.addr, hA]
      rw [hv]
      have hcell : ∀ (j : Nat) x, a0[j]? = some x → w.cell? ⟨b, o + j, none⟩ = some (.string x) := fun j x hx => by
        have := hR.cells b o hA j x hx 0 (.string x) rfl
        rwa [Nat.mul_one, Nat.add_zero] at this
      cases hl : a0 with
      | nil =>
        subst hl
        refine (Any.strings_Join_none strings_Join.lays strings_Join.extra _ _ a1 w).mono fun e w' ⟨he, hw⟩ => ⟨he, ?_⟩
        subst hw
        exact hS
      | cons x0 xr =>
        have hlt : b < w.heap.size := by
          have := hcell 0 x0 (by rw [hl]; rfl)
          exact World.block_lt_of_cell? w _ this
        rw [← hl]
        exact (Any.strings_Join strings_Join.lays strings_Join.extra b o A00.c a0 a1 w hcell hlt hb.1 hR.le hb.2).mono fun e w' ⟨he, hw⟩ => ⟨he, hback w' hw⟩
  · cases h

end Go.Proofs.YtbodofjnfmjbpaaGreatDoor

namespace Go.Proofs.YtbodofjnfmjbpaaGreatDoor
open Go Eng
set_option linter.unusedVariables false
set_option linter.unusedSimpArgs false

/-! ### gangway/csum.fold: function 115 -/
def csum_fold.l1 : Nat → Int → Option (Int)
  | 0, _ => none
  | n + 1, x1 =>
    bif decide (x1 > 65535) then
      csum_fold.l1 n (i64 ((bAnd .i64 x1 65535) + (Int.fdiv x1 65536)))
    else
      some x1

def csum_fold.f (k : Nat) (a0 : Int) : Option (Int) :=
  csum_fold.l1 k a0

set_option maxRecDepth 100000 in
theorem csum_fold_calls (k : Nat) (a0 : Int) (r : Int) (h : csum_fold.f k a0 = some r) : Pure Tryz.prog Glob 115 #[.int .i64 a0] (.int .i64 r) := by
  intro w Z hS
  refine calls_of (args := [.int .i64 a0]) (L := [(0, .int .i64 a0)]) (N := 11) (S := Sat w Z [] [] Glob) Tryz.func115 rfl rfl (Nat.le_of_ble_eq_true rfl) rfl hS ?_
  have hM := h
  clear h hS
  unfold csum_fold.f at hM
  refine WP.seq ?_
  refine WP.run [] [0, 2] (fun _ => [(0, .int .i64 a0), (2, .int .i64 0)]) (fun _ => []) (fun _ => []) (fun _ => by kernel_rfl) (fun _ => ?_)
  refine WP.seq ?_
  refine WP.block ?_
  refine WP.sub [0, 2] (L' := [(0, .int .i64 a0), (2, .int .i64 0)]) (by kernel_rfl) ?_
  refine WP.loop (σ := Int) (fun n st => csum_fold.l1 n st) r (fun st => [(0, .int .i64 st), (2, .int .i64 0)]) (fun st => Sat w Z [] [] Glob) (st := a0) (fun n st hM => ?_) hM
  rcases n with _ | n
  · exact nomatch (show (none : Option _) = some r from hM)
  obtain ⟨x1, rfl⟩ : ∃ y, y = st := ⟨st, rfl⟩
  replace hM : csum_fold.l1 (n + 1) x1 = some r := hM
  rw [csum_fold.l1] at hM
  show WP _ _ _ _ _ [(0, .int .i64 x1), (2, .int .i64 0)] (Sat w Z [] [] Glob)
  refine WP.seq ?_
  refine WP.seq ?_
  refine WP.run [] [0, 2, 3, 4] (fun _ => [(0, .int .i64 x1), (2, .int .i64 0), (3, .int .i64 x1), (4, .bool (decide (x1 > 65535)))]) (fun _ => []) (fun _ => []) (fun _ => by kernel_rfl) (fun _ => ?_)
  refine WP.cond (decide (x1 > 65535)) rfl rfl (fun c2 => ?_) (fun c2 => ?_)
  · replace hM := cond_t hM c2
    refine WP.skip ?_
    refine WP.block ?_
    refine WP.run [] [0, 2, 3, 4, 5, 6, 7, 8, 9] (fun _ => [(0, .int .i64 (i64 ((bAnd .i64 x1 65535) + (Int.fdiv x1 65536)))), (2, .int .i64 0), (3, .int .i64 x1), (4, .bool (decide (x1 > 65535))), (5, .int .i64 x1), (6, .int .i64 (bAnd .i64 x1 65535)), (7, .int .i64 x1), (8, .int .i64 (Int.fdiv x1 65536)), (9, .int .i64 (i64 ((bAnd .i64 x1 65535) + (Int.fdiv x1 65536))))]) (fun _ => []) (fun _ => []) (fun _ => by kernel_rfl) (fun _ => ?_)
    refine WP.leave ?_
    exact WP.again' [0, 2] (i64 ((bAnd .i64 x1 65535) + (Int.fdiv x1 65536))) hM (by kernel_rfl) (fun _ h => h.pick [] (by kernel_rfl))
  · replace hM := cond_f hM c2
    refine WP.exit rfl ?_
    refine WP.seq ?_
    refine WP.run [] [2] (fun _ => [(2, .int .i64 x1)]) (fun _ => []) (fun _ => []) (fun _ => by kernel_rfl) (fun _ => ?_)
    obtain rfl := Option.some.inj hM
    exact WP.ret [] [] (.int .i64 x1) (by kernel_rfl) (fun w' hw => ⟨rfl, hw.pick [] rfl⟩)

end Go.Proofs.YtbodofjnfmjbpaaGreatDoor

namespace Go.Proofs.YtbodofjnfmjbpaaGreatDoor
open Go Eng
set_option linter.unusedVariables false
set_option linter.unusedSimpArgs false

/-! ### gangway/csum.total: function 96 -/
def csum_total.l1 (x6 : ByteArray) (k : Nat) : Nat → Int → Int → Option (Int)
  | 0, _, _ => none
  | n + 1, x7, x8 =>
    bif decide (x8 < (x6.size : Int)) then
      (idxS x6 x8).bind fun t10 =>
      (idxS x6 (i64 (x8 + 1))).bind fun t12 =>
      (csum_fold.f k (i64 ((i64 (x7 + (i64 ((i64 t10) * 256)))) + (i64 t12)))).bind fun r14 =>
      csum_total.l1 x6 k n r14 (i64 (x8 + 2))
    else
      some x7

def csum_total.k2 (k : Nat) (x6 : ByteArray) : Option (Int) :=
  csum_total.l1 x6 k k 0 0

def csum_total.f (k : Nat) (a0 : (List ByteArray)) : Option (Int) :=
  (strings_Join.f a0 (⟨#[]⟩ : ByteArray)).bind fun r1 =>
  bif ((Int.tmod (r1.size : Int) 2) == 1) then
    (catS r1 (⟨#[0]⟩ : ByteArray)).bind fun t4 =>
    csum_total.k2 k t4
  else
    csum_total.k2 k r1

set_option maxRecDepth 100000 in
theorem csum_total_calls (k : Nat) (A00 : SkL Unit) (a0 : (List ByteArray)) (r : Int) (h : csum_total.f k a0 = some r) : Pure Tryz.prog ([Row 1 (pl encS) noK A00 a0] ++ Glob) 96 #[slcV A00 a0.length] (.int .i64 r) := by
  intro w Z hS
  refine calls_of (args := [slcV A00 a0.length]) (L := [(0, slcV A00 a0.length)]) (N := 35) (S := Sat w Z [] [] ([Row 1 (pl encS) noK A00 a0] ++ Glob)) Tryz.func96 rfl rfl (Nat.le_of_ble_eq_true rfl) rfl hS ?_
  have hM := h
  clear h hS
  unfold csum_total.f at hM
  refine WP.seq ?_
  refine WP.run [] [0, 2] (fun _ => [(0, slcV A00 a0.length), (2, .int .i64 0)]) (fun _ => []) (fun _ => []) (fun _ => by kernel_rfl) (fun _ => ?_)
  refine WP.seq ?_
  refine WP.region ?_
  refine WL.run 1 [] [2, 6] (fun _ => [(2, .int .i64 0), (6, slcV A00 a0.length)]) (fun _ => []) (fun _ => []) (fun _ => by kernel_rfl) (fun _ => ?_)
  obtain ⟨r1, h2, hM⟩ := bind_some hM
  refine WL.callP [] [] (strings_Join_calls A00 a0 (⟨#[]⟩ : ByteArray) _ h2) (sub_pick [0] (by kernel_rfl)) (by kernel_rfl) (by kernel_rfl) rfl ?_
  refine WL.run 1 [] [2, 3] (fun _ => [(2, .int .i64 0), (3, .string r1)]) (fun _ => []) (fun _ => []) (fun _ => by kernel_rfl) (fun _ => ?_)
  refine WP.done ?_
  refine WP.seqJoin (σ := ByteArray) (fun st => csum_total.k2 k st = some r) (fun st => [(2, .int .i64 0), (3, .string st)]) (fun st => Sat w Z [] [] ([Row 1 (pl encS) noK A00 a0] ++ Glob)) (fun st hM => ?_) (fun K2 => ?_)
  ·
    obtain ⟨x6, rfl⟩ : ∃ y, y = st := ⟨st, rfl⟩
    replace hM : csum_total.k2 k x6 = some r := hM
    unfold csum_total.k2 at hM
    show WP _ _ _ _ _ [(2, .int .i64 0), (3, .string x6)] (Sat w Z [] [] ([Row 1 (pl encS) noK A00 a0] ++ Glob))
    refine WP.seq ?_
    refine WP.run [] [2, 3, 4] (fun _ => [(2, .int .i64 0), (3, .string x6), (4, .int .i64 0)]) (fun _ => []) (fun _ => []) (fun _ => by kernel_rfl) (fun _ => ?_)
    refine WP.seq ?_
    refine WP.seq ?_
    refine WP.run [] [2, 3, 4, 5] (fun _ => [(2, .int .i64 0), (3, .string x6), (4, .int .i64 0), (5, .int .i64 0)]) (fun _ => []) (fun _ => []) (fun _ => by kernel_rfl) (fun _ => ?_)
    refine WP.block ?_
    refine WP.sub [2, 3, 4, 5] (L' := [(2, .int .i64 0), (3, .string x6), (4, .int .i64 0), (5, .int .i64 0)]) (by kernel_rfl) ?_
    refine WP.lessF [0] (F' := [Row 1 (pl encS) noK A00 a0]) (by kernel_rfl) ?_
    refine WP.loop (σ := Int × Int) (fun n st => csum_total.l1 x6 k n st.1 st.2) r (fun st => [(2, .int .i64 0), (3, .string x6), (4, .int .i64 st.1), (5, .int .i64 st.2)]) (fun st => Sat w Z [] [] ([Row 1 (pl encS) noK A00 a0] ++ Glob)) (st := (0, 0)) (fun n st hM => ?_) hM
    rcases n with _ | n
    · exact nomatch (show (none : Option _) = some r from hM)
    obtain ⟨x7, x8⟩ := st
    replace hM : csum_total.l1 x6 k (n + 1) x7 x8 = some r := hM
    rw [csum_total.l1] at hM
    show WP _ _ _ _ _ [(2, .int .i64 0), (3, .string x6), (4, .int .i64 x7), (5, .int .i64 x8)] (Sat w Z [] [] ([Row 1 (pl encS) noK A00 a0] ++ Glob))
    refine WP.seq ?_
    refine WP.seq ?_
    refine WP.run [] [2, 3, 4, 5, 14, 15, 16, 17] (fun _ => [(2, .int .i64 0), (3, .string x6), (4, .int .i64 x7), (5, .int .i64 x8), (14, .int .i64 x8), (15, .string x6), (16, .int .i64 (x6.size : Int)), (17, .bool (decide (x8 < (x6.size : Int))))]) (fun _ => []) (fun _ => []) (fun _ => by kernel_rfl) (fun _ => ?_)
    refine WP.cond (decide (x8 < (x6.size : Int))) rfl rfl (fun c9 => ?_) (fun c9 => ?_)
    · replace hM := cond_t hM c9
      refine WP.skip ?_
      refine WP.seq ?_
      refine WP.block ?_
      refine WP.quiet (by kernel_rfl) (by kernel_rfl) ?_
      refine QL.run 3 [] [2, 3, 4, 5, 14, 15, 16, 17, 20, 21, 22] [] [(2, .int .i64 0), (3, .string x6), (4, .int .i64 x7), (5, .int .i64 x8), (14, .int .i64 x8), (15, .string x6), (16, .int .i64 (x6.size : Int)), (17, .bool (decide (x8 < (x6.size : Int)))), (20, .int .i64 x7), (21, .string x6), (22, .int .i64 x8)] (by kernel_rfl) ?_
      obtain ⟨t10, h11, hM⟩ := bind_some hM
      refine QL.val (fun _ => run_idxS (s := x6) (k := .i64) (i := x8) (by kernel_rfl) (by kernel_rfl) (by kernel_rfl) h11) (by kernel_rfl) (by kernel_rfl) rfl ?_
      refine QL.run 6 [] [2, 3, 4, 5, 14, 15, 16, 17, 20, 21, 22, 23, 24, 25, 26, 27, 28, 29] [] [(2, .int .i64 0), (3, .string x6), (4, .int .i64 x7), (5, .int .i64 x8), (14, .int .i64 x8), (15, .string x6), (16, .int .i64 (x6.size : Int)), (17, .bool (decide (x8 < (x6.size : Int)))), (20, .int .i64 x7), (21, .string x6), (22, .int .i64 x8), (23, .int .u8 t10), (24, .int .i64 (i64 t10)), (25, .int .i64 (i64 ((i64 t10) * 256))), (26, .int .i64 (i64 (x7 + (i64 ((i64 t10) * 256))))), (27, .string x6), (28, .int .i64 x8), (29, .int .i64 (i64 (x8 + 1)))] (by kernel_rfl) ?_
      obtain ⟨t12, h13, hM⟩ := bind_some hM
      refine QL.val (fun _ => run_idxS (s := x6) (k := .i64) (i := i64 (x8 + 1)) (by kernel_rfl) (by kernel_rfl) (by kernel_rfl) h13) (by kernel_rfl) (by kernel_rfl) rfl ?_
      refine QL.run 2 [] [2, 3, 4, 5, 14, 15, 16, 17, 20, 21, 22, 23, 24, 25, 26, 27, 28, 29, 30, 31, 32] [] [(2, .int .i64 0), (3, .string x6), (4, .int .i64 x7), (5, .int .i64 x8), (14, .int .i64 x8), (15, .string x6), (16, .int .i64 (x6.size : Int)), (17, .bool (decide (x8 < (x6.size : Int)))), (20, .int .i64 x7), (21, .string x6), (22, .int .i64 x8), (23, .int .u8 t10), (24, .int .i64 (i64 t10)), (25, .int .i64 (i64 ((i64 t10) * 256))), (26, .int .i64 (i64 (x7 + (i64 ((i64 t10) * 256))))), (27, .string x6), (28, .int .i64 x8), (29, .int .i64 (i64 (x8 + 1))), (30, .int .u8 t12), (31, .int .i64 (i64 t12)), (32, .int .i64 (i64 ((i64 (x7 + (i64 ((i64 t10) * 256)))) + (i64 t12))))] (by kernel_rfl) ?_
      obtain ⟨r14, h15, hM⟩ := bind_some hM
      refine QL.callP [] [] (csum_fold_calls k (i64 ((i64 (x7 + (i64 ((i64 t10) * 256)))) + (i64 t12))) _ h15) (fun _ h => List.mem_append_right _ h) (by kernel_rfl) (by kernel_rfl) rfl ?_
      refine QL.run 1 [] [2, 3, 4, 5, 14, 15, 16, 17, 20, 21, 22, 23, 24, 25, 26, 27, 28, 29, 30, 31, 32, 33] [] [(2, .int .i64 0), (3, .string x6), (4, .int .i64 r14), (5, .int .i64 x8), (14, .int .i64 x8), (15, .string x6), (16, .int .i64 (x6.size : Int)), (17, .bool (decide (x8 < (x6.size : Int)))), (20, .int .i64 x7), (21, .string x6), (22, .int .i64 x8), (23, .int .u8 t10), (24, .int .i64 (i64 t10)), (25, .int .i64 (i64 ((i64 t10) * 256))), (26, .int .i64 (i64 (x7 + (i64 ((i64 t10) * 256))))), (27, .string x6), (28, .int .i64 x8), (29, .int .i64 (i64 (x8 + 1))), (30, .int .u8 t12), (31, .int .i64 (i64 t12)), (32, .int .i64 (i64 ((i64 (x7 + (i64 ((i64 t10) * 256)))) + (i64 t12)))), (33, .int .i64 r14)] (by kernel_rfl) ?_
      refine QL.done ?_
      refine WP.leave ?_
      refine WP.run [] [2, 3, 4, 5, 14, 15, 16, 17, 18, 19, 20, 21, 22, 23, 24, 25, 26, 27, 28, 29, 30, 31, 32, 33] (fun _ => [(2, .int .i64 0), (3, .string x6), (4, .int .i64 r14), (5, .int .i64 (i64 (x8 + 2))), (14, .int .i64 x8), (15, .string x6), (16, .int .i64 (x6.size : Int)), (17, .bool (decide (x8 < (x6.size : Int)))), (18, .int .i64 x8), (19, .int .i64 (i64 (x8 + 2))), (20, .int .i64 x7), (21, .string x6), (22, .int .i64 x8), (23, .int .u8 t10), (24, .int .i64 (i64 t10)), (25, .int .i64 (i64 ((i64 t10) * 256))), (26, .int .i64 (i64 (x7 + (i64 ((i64 t10) * 256))))), (27, .string x6), (28, .int .i64 x8), (29, .int .i64 (i64 (x8 + 1))), (30, .int .u8 t12), (31, .int .i64 (i64 t12)), (32, .int .i64 (i64 ((i64 (x7 + (i64 ((i64 t10) * 256)))) + (i64 t12)))), (33, .int .i64 r14)]) (fun _ => []) (fun _ => []) (fun _ => by kernel_rfl) (fun _ => ?_)
      exact WP.again' [2, 3, 4, 5] (r14, i64 (x8 + 2)) hM (by kernel_rfl) (fun _ h => (h.pick [] (by kernel_rfl)).lessF [0] (by kernel_rfl))
    · replace hM := cond_f hM c9
      refine WP.exit rfl ?_
      refine WP.seq ?_
      refine WP.run [] [2] (fun _ => [(2, .int .i64 x7)]) (fun _ => []) (fun _ => []) (fun _ => by kernel_rfl) (fun _ => ?_)
      obtain rfl := Option.some.inj hM
      exact WP.ret [] [] (.int .i64 x7) (by kernel_rfl) (fun w' hw => ⟨rfl, (hw.pick [] rfl).lessF [0] (by kernel_rfl)⟩)
  ·
    refine WP.seq ?_
    refine WP.run [] [2, 3, 11] (fun _ => [(2, .int .i64 0), (3, .string r1), (11, .bool ((Int.tmod (r1.size : Int) 2) == 1))]) (fun _ => []) (fun _ => []) (fun _ => by kernel_rfl) (fun _ => ?_)
    refine WP.cond ((Int.tmod (r1.size : Int) 2) == 1) rfl rfl (fun c3 => ?_) (fun c3 => ?_)
    · replace hM := cond_t hM c3
      refine WP.region ?_
      refine WL.run 1 [] [2, 3, 12] (fun _ => [(2, .int .i64 0), (3, .string r1), (12, .string r1)]) (fun _ => []) (fun _ => []) (fun _ => by kernel_rfl) (fun _ => ?_)
      obtain ⟨t4, h5, hM⟩ := bind_some hM
      refine WL.val (fun _ => run_catS (a := r1) (b := (⟨#[0]⟩ : ByteArray)) (by kernel_rfl) (by kernel_rfl) h5) (by kernel_rfl) (by kernel_rfl) rfl ?_
      refine WL.run 1 [] [2, 3] (fun _ => [(2, .int .i64 0), (3, .string t4)]) (fun _ => []) (fun _ => []) (fun _ => by kernel_rfl) (fun _ => ?_)
      refine WP.done ?_
      exact WP.sub [2, 3] (by kernel_rfl) (WP.pick [] (by kernel_rfl) (by kernel_rfl) (WP.lessF [0] (by kernel_rfl) (K2 t4 hM)))
    · replace hM := cond_f hM c3
      refine WP.skip ?_
      exact WP.sub [2, 3] (by kernel_rfl) (WP.pick [] (by kernel_rfl) (by kernel_rfl) (WP.lessF [0] (by kernel_rfl) (K2 r1 hM)))

end Go.Proofs.YtbodofjnfmjbpaaGreatDoor

namespace Go.Proofs.YtbodofjnfmjbpaaGreatDoor
open Go Eng
set_option linter.unusedVariables false
set_option linter.unusedSimpArgs false

/-! ### gangway/csum.Of: function 67 -/
def csum_Of.f (k : Nat) (a0 : (List ByteArray)) : Option (Int) :=
  (csum_total.f k a0).bind fun r1 =>
  some (i64 (65535 - r1))

set_option maxRecDepth 100000 in
theorem csum_Of_calls (k : Nat) (A00 : SkL Unit) (a0 : (List ByteArray)) (r : Int) (h : csum_Of.f k a0 = some r) : Pure Tryz.prog ([Row 1 (pl encS) noK A00 a0] ++ Glob) 67 #[slcV A00 a0.length] (.int .i64 r) := by
  intro w Z hS
  refine calls_of (args := [slcV A00 a0.length]) (L := [(0, slcV A00 a0.length)]) (N := 6) (S := Sat w Z [] [] ([Row 1 (pl encS) noK A00 a0] ++ Glob)) Tryz.func67 rfl rfl (Nat.le_of_ble_eq_true rfl) rfl hS ?_
  have hM := h
  clear h hS
  unfold csum_Of.f at hM
  refine WP.seq ?_
  refine WP.run [] [0, 2] (fun _ => [(0, slcV A00 a0.length), (2, .int .i64 0)]) (fun _ => []) (fun _ => []) (fun _ => by kernel_rfl) (fun _ => ?_)
  refine WP.seq ?_
  refine WP.region ?_
  refine WL.run 1 [] [2, 3] (fun _ => [(2, .int .i64 0), (3, slcV A00 a0.length)]) (fun _ => []) (fun _ => []) (fun _ => by kernel_rfl) (fun _ => ?_)
  obtain ⟨r1, h2, hM⟩ := bind_some hM
  refine WL.callP [] [] (csum_total_calls k A00 a0 _ h2) (sub_pick [0] (by kernel_rfl)) (by kernel_rfl) (by kernel_rfl) rfl ?_
  refine WL.run 2 [] [2] (fun _ => [(2, .int .i64 (i64 (65535 - r1)))]) (fun _ => []) (fun _ => []) (fun _ => by kernel_rfl) (fun _ => ?_)
  refine WP.done ?_
  obtain rfl := Option.some.inj hM
  exact WP.ret [] [] (.int .i64 (i64 (65535 - r1))) (by kernel_rfl) (fun w' hw => ⟨rfl, (hw.pick [] rfl).lessF [0] (by kernel_rfl)⟩)

end Go.Proofs.YtbodofjnfmjbpaaGreatDoor

namespace Go.Proofs.YtbodofjnfmjbpaaGreatDoor
open Go Eng
set_option linter.unusedVariables false
set_option linter.unusedSimpArgs false

/-! ### gangway/udp.Build: function 40 -/
def udp_Build.k1 (k : Nat) (t13 : ByteArray) (a2 : api_Udp) (x23 : Int) : Option (ByteArray × Int) :=
  (udp_word.f k x23).bind fun r24 =>
  (catS t13 r24).bind fun t26 =>
  (catS t26 a2.Body).bind fun t28 =>
  some (t28, 0)

def udp_Build.f (k : Nat) (a0 : Int) (a1 : Int) (a2 : api_Udp) : Option (ByteArray × Int) :=
  (udp_Check.f a2).bind fun r2 =>
  bif (r2 != 0) then
    some ((⟨#[]⟩ : ByteArray), r2)
  else
    (udp_word.f k a2.Src).bind fun r5 =>
    (udp_word.f k a2.Dst).bind fun r7 =>
    (catS r5 r7).bind fun t9 =>
    (udp_word.f k (i64 (8 + (a2.Body.size : Int)))).bind fun r11 =>
    (catS t9 r11).bind fun t13 =>
    bif !a2.NoSum then
      (csum_Head.f k a0 a1 17 (i64 (8 + (a2.Body.size : Int)))).bind fun r17 =>
      (csum_Of.f k ([r17, t13, a2.Body] : List ByteArray)).bind fun r20 =>
      bif (r20 == 0) then
        udp_Build.k1 k t13 a2 65535
      else
        udp_Build.k1 k t13 a2 r20
    else
      udp_Build.k1 k t13 a2 0

set_option maxRecDepth 100000 in
theorem udp_Build_calls (k : Nat) (a0 : Int) (a1 : Int) (a2 : api_Udp) (r : ByteArray × Int) (h : udp_Build.f k a0 a1 a2 = some r) : Pure Tryz.prog Glob 40 #[.int .u32 a0, .int .u32 a1, .agg #[.int .i64 a2.Src, .int .i64 a2.Dst, .bool a2.NoSum, .string a2.Body]] (.tuple #[.string r.1, .int .i64 r.2]) := by
  intro w Z hS
  refine calls_of (args := [.int .u32 a0, .int .u32 a1, .agg #[.int .i64 a2.Src, .int .i64 a2.Dst, .bool a2.NoSum, .string a2.Body]]) (L := [(0, .int .u32 a0), (1, .int .u32 a1), (2, .agg #[.int .i64 a2.Src, .int .i64 a2.Dst, .bool a2.NoSum, .string a2.Body])]) (N := 52) (S := Sat w Z [] [] Glob) Tryz.func40 rfl rfl (Nat.le_of_ble_eq_true rfl) rfl hS ?_
  have hM := h
  clear h hS
  unfold udp_Build.f at hM
  refine WP.less (Φ' := [] ++ Glob) (fun _ h => h) ?_
  refine WP.seq ?_
  refine WP.run [] [0, 1, 5, 6, 7] (fun b1 => [(0, .int .u32 a0), (1, .int .u32 a1), (5, .pointer (some ⟨b1, 0, none⟩)), (6, .string (⟨#[]⟩ : ByteArray)), (7, .int .i64 0)]) (fun b1 => [(b1, .cells #[.int .i64 a2.Src, .int .i64 a2.Dst, .bool a2.NoSum, .string a2.Body] 40 (0, 0))]) (fun b1 => []) (fun b1 => by kernel_rfl) (fun b1 => ?_)
  refine WP.seq ?_
  refine WP.seq ?_
  refine WP.region ?_
  refine WL.run 1 [0, 0, 0, 0] [0, 1, 5, 6, 7, 12] (fun _ => [(0, .int .u32 a0), (1, .int .u32 a1), (5, .pointer (some ⟨b1, 0, none⟩)), (6, .string (⟨#[]⟩ : ByteArray)), (7, .int .i64 0), (12, .agg #[.int .i64 a2.Src, .int .i64 a2.Dst, .bool a2.NoSum, .string a2.Body])]) (fun _ => [(b1, .cells #[.int .i64 a2.Src, .int .i64 a2.Dst, .bool a2.NoSum, .string a2.Body] 40 (0, 0))]) (fun _ => [b1, b1, b1, b1]) (fun _ => by kernel_rfl) (fun _ => ?_)
  obtain ⟨r2, h3, hM⟩ := bind_some hM
  refine WL.callP [] [] (udp_Check_calls a2 _ h3) (fun _ h => List.mem_append_right _ h) (by kernel_rfl) (by kernel_rfl) rfl ?_
  refine WL.run 1 [] [0, 1, 5, 6, 7, 8] (fun _ => [(0, .int .u32 a0), (1, .int .u32 a1), (5, .pointer (some ⟨b1, 0, none⟩)), (6, .string (⟨#[]⟩ : ByteArray)), (7, .int .i64 0), (8, .int .i64 r2)]) (fun _ => [(b1, .cells #[.int .i64 a2.Src, .int .i64 a2.Dst, .bool a2.NoSum, .string a2.Body] 40 (0, 0))]) (fun _ => []) (fun _ => by kernel_rfl) (fun _ => ?_)
  refine WP.done ?_
  refine WP.seq ?_
  refine WP.run [] [0, 1, 5, 6, 7, 8, 15] (fun _ => [(0, .int .u32 a0), (1, .int .u32 a1), (5, .pointer (some ⟨b1, 0, none⟩)), (6, .string (⟨#[]⟩ : ByteArray)), (7, .int .i64 0), (8, .int .i64 r2), (15, .bool (r2 != 0))]) (fun _ => [(b1, .cells #[.int .i64 a2.Src, .int .i64 a2.Dst, .bool a2.NoSum, .string a2.Body] 40 (0, 0))]) (fun _ => []) (fun _ => by kernel_rfl) (fun _ => ?_)
  refine WP.cond (r2 != 0) rfl rfl (fun c4 => ?_) (fun c4 => ?_)
  · replace hM := cond_t hM c4
    refine WP.seq ?_
    refine WP.run [] [0, 1, 5, 6, 7] (fun _ => [(0, .int .u32 a0), (1, .int .u32 a1), (5, .pointer (some ⟨b1, 0, none⟩)), (6, .string (⟨#[]⟩ : ByteArray)), (7, .int .i64 r2)]) (fun _ => [(b1, .cells #[.int .i64 a2.Src, .int .i64 a2.Dst, .bool a2.NoSum, .string a2.Body] 40 (0, 0))]) (fun _ => []) (fun _ => by kernel_rfl) (fun _ => ?_)
    obtain rfl := Option.some.inj hM
    exact WP.ret [] [] (.tuple #[.string (⟨#[]⟩ : ByteArray), .int .i64 r2]) (by kernel_rfl) (fun w' hw => ⟨rfl, (hw.pick [] rfl).less (fun _ h => List.mem_append_right _ h)⟩)
  · replace hM := cond_f hM c4
    refine WP.skip ?_
    refine WP.seq ?_
    refine WP.run [0] [0, 1, 5, 6, 7, 9] (fun _ => [(0, .int .u32 a0), (1, .int .u32 a1), (5, .pointer (some ⟨b1, 0, none⟩)), (6, .string (⟨#[]⟩ : ByteArray)), (7, .int .i64 0), (9, .int .i64 (i64 (8 + (a2.Body.size : Int))))]) (fun _ => [(b1, .cells #[.int .i64 a2.Src, .int .i64 a2.Dst, .bool a2.NoSum, .string a2.Body] 40 (0, 0))]) (fun _ => [b1]) (fun _ => by kernel_rfl) (fun _ => ?_)
    refine WP.seq ?_
    refine WP.quiet (by kernel_rfl) (by kernel_rfl) ?_
    refine QL.run 2 [0] [0, 1, 5, 6, 7, 9, 22] [b1] [(0, .int .u32 a0), (1, .int .u32 a1), (5, .pointer (some ⟨b1, 0, none⟩)), (6, .string (⟨#[]⟩ : ByteArray)), (7, .int .i64 0), (9, .int .i64 (i64 (8 + (a2.Body.size : Int)))), (22, .int .i64 a2.Src)] (by kernel_rfl) ?_
    obtain ⟨r5, h6, hM⟩ := bind_some hM
    refine QL.callP [] [] (udp_word_calls k a2.Src _ h6) (fun _ h => List.mem_append_right _ h) (by kernel_rfl) (by kernel_rfl) rfl ?_
    refine QL.run 2 [0] [0, 1, 5, 6, 7, 9, 23, 25] [b1] [(0, .int .u32 a0), (1, .int .u32 a1), (5, .pointer (some ⟨b1, 0, none⟩)), (6, .string (⟨#[]⟩ : ByteArray)), (7, .int .i64 0), (9, .int .i64 (i64 (8 + (a2.Body.size : Int)))), (23, .string r5), (25, .int .i64 a2.Dst)] (by kernel_rfl) ?_
    obtain ⟨r7, h8, hM⟩ := bind_some hM
    refine QL.callP [] [] (udp_word_calls k a2.Dst _ h8) (fun _ h => List.mem_append_right _ h) (by kernel_rfl) (by kernel_rfl) rfl ?_
    obtain ⟨t9, h10, hM⟩ := bind_some hM
    refine QL.val (fun _ => run_catS (a := r5) (b := r7) (by kernel_rfl) (by kernel_rfl) h10) (by kernel_rfl) (by kernel_rfl) rfl ?_
    refine QL.run 1 [] [0, 1, 5, 6, 7, 9, 27, 28] [] [(0, .int .u32 a0), (1, .int .u32 a1), (5, .pointer (some ⟨b1, 0, none⟩)), (6, .string (⟨#[]⟩ : ByteArray)), (7, .int .i64 0), (9, .int .i64 (i64 (8 + (a2.Body.size : Int)))), (27, .string t9), (28, .int .i64 (i64 (8 + (a2.Body.size : Int))))] (by kernel_rfl) ?_
    obtain ⟨r11, h12, hM⟩ := bind_some hM
    refine QL.callP [] [] (udp_word_calls k (i64 (8 + (a2.Body.size : Int))) _ h12) (fun _ h => List.mem_append_right _ h) (by kernel_rfl) (by kernel_rfl) rfl ?_
    obtain ⟨t13, h14, hM⟩ := bind_some hM
    refine QL.val (fun _ => run_catS (a := t9) (b := r11) (by kernel_rfl) (by kernel_rfl) h14) (by kernel_rfl) (by kernel_rfl) rfl ?_
    refine QL.run 1 [] [0, 1, 5, 6, 7, 9, 10] [] [(0, .int .u32 a0), (1, .int .u32 a1), (5, .pointer (some ⟨b1, 0, none⟩)), (6, .string (⟨#[]⟩ : ByteArray)), (7, .int .i64 0), (9, .int .i64 (i64 (8 + (a2.Body.size : Int)))), (10, .string t13)] (by kernel_rfl) ?_
    refine QL.done ?_
    refine WP.seq ?_
    refine WP.run [] [0, 1, 5, 6, 7, 9, 10, 11] (fun _ => [(0, .int .u32 a0), (1, .int .u32 a1), (5, .pointer (some ⟨b1, 0, none⟩)), (6, .string (⟨#[]⟩ : ByteArray)), (7, .int .i64 0), (9, .int .i64 (i64 (8 + (a2.Body.size : Int)))), (10, .string t13), (11, .int .i64 0)]) (fun _ => [(b1, .cells #[.int .i64 a2.Src, .int .i64 a2.Dst, .bool a2.NoSum, .string a2.Body] 40 (0, 0))]) (fun _ => []) (fun _ => by kernel_rfl) (fun _ => ?_)
    refine WP.seqJoin (σ := Int) (fun st => udp_Build.k1 k t13 a2 st = some r) (fun st => [(5, .pointer (some ⟨b1, 0, none⟩)), (6, .string (⟨#[]⟩ : ByteArray)), (7, .int .i64 0), (10, .string t13), (11, .int .i64 st)]) (fun st => Sat w Z [(b1, .cells #[.int .i64 a2.Src, .int .i64 a2.Dst, .bool a2.NoSum, .string a2.Body] 40 (0, 0))] [] ([] ++ Glob)) (fun st hM => ?_) (fun K1 => ?_)
    ·
      obtain ⟨x23, rfl⟩ : ∃ y, y = st := ⟨st, rfl⟩
      replace hM : udp_Build.k1 k t13 a2 x23 = some r := hM
      unfold udp_Build.k1 at hM
      show WP _ _ _ _ _ [(5, .pointer (some ⟨b1, 0, none⟩)), (6, .string (⟨#[]⟩ : ByteArray)), (7, .int .i64 0), (10, .string t13), (11, .int .i64 x23)] (Sat w Z [(b1, .cells #[.int .i64 a2.Src, .int .i64 a2.Dst, .bool a2.NoSum, .string a2.Body] 40 (0, 0))] [] ([] ++ Glob))
      refine WP.seq ?_
      refine WP.quiet (by kernel_rfl) (by kernel_rfl) ?_
      refine QL.run 2 [] [5, 6, 7, 45, 46] [] [(5, .pointer (some ⟨b1, 0, none⟩)), (6, .string (⟨#[]⟩ : ByteArray)), (7, .int .i64 0), (45, .string t13), (46, .int .i64 x23)] (by kernel_rfl) ?_
      obtain ⟨r24, h25, hM⟩ := bind_some hM
      refine QL.callP [] [] (udp_word_calls k x23 _ h25) (fun _ h => List.mem_append_right _ h) (by kernel_rfl) (by kernel_rfl) rfl ?_
      obtain ⟨t26, h27, hM⟩ := bind_some hM
      refine QL.val (fun _ => run_catS (a := t13) (b := r24) (by kernel_rfl) (by kernel_rfl) h27) (by kernel_rfl) (by kernel_rfl) rfl ?_
      refine QL.run 2 [0] [6, 7, 48, 50] [b1] [(6, .string (⟨#[]⟩ : ByteArray)), (7, .int .i64 0), (48, .string t26), (50, .string a2.Body)] (by kernel_rfl) ?_
      obtain ⟨t28, h29, hM⟩ := bind_some hM
      refine QL.val (fun _ => run_catS (a := t26) (b := a2.Body) (by kernel_rfl) (by kernel_rfl) h29) (by kernel_rfl) (by kernel_rfl) rfl ?_
      refine QL.run 2 [] [6, 7] [] [(6, .string t28), (7, .int .i64 0)] (by kernel_rfl) ?_
      refine QL.done ?_
      refine WP.keep [false] (by kernel_rfl : _ = []) ?_
      obtain rfl := Option.some.inj hM
      exact WP.ret [] [] (.tuple #[.string t28, .int .i64 0]) (by kernel_rfl) (fun w' hw => ⟨rfl, (hw.pick [] rfl).less (fun _ h => List.mem_append_right _ h)⟩)
    ·
      refine WP.seq ?_
      refine WP.run [0] [0, 1, 5, 6, 7, 9, 10, 11, 33] (fun _ => [(0, .int .u32 a0), (1, .int .u32 a1), (5, .pointer (some ⟨b1, 0, none⟩)), (6, .string (⟨#[]⟩ : ByteArray)), (7, .int .i64 0), (9, .int .i64 (i64 (8 + (a2.Body.size : Int)))), (10, .string t13), (11, .int .i64 0), (33, .bool (!a2.NoSum))]) (fun _ => [(b1, .cells #[.int .i64 a2.Src, .int .i64 a2.Dst, .bool a2.NoSum, .string a2.Body] 40 (0, 0))]) (fun _ => [b1]) (fun _ => by kernel_rfl) (fun _ => ?_)
      refine WP.cond (!a2.NoSum) rfl rfl (fun c15 => ?_) (fun c15 => ?_)
      · replace hM := cond_t hM c15
        refine WP.seq ?_
        obtain ⟨r17, h18, hM⟩ := bind_some hM
        refine WP.sub [0, 1, 5, 6, 7, 9, 10, 11] (L' := [(0, .int .u32 a0), (1, .int .u32 a1), (5, .pointer (some ⟨b1, 0, none⟩)), (6, .string (⟨#[]⟩ : ByteArray)), (7, .int .i64 0), (9, .int .i64 (i64 (8 + (a2.Body.size : Int)))), (10, .string t13), (11, .int .i64 0)]) (by kernel_rfl) ?_
        refine WP.mixed (X := Unit) 7 [.val (.int .u32 a0), .val (.int .u32 a1), .val (.int .i64 (i64 (8 + (a2.Body.size : Int)))), .val (.string r17), .val (.string t13), .val (.pointer (some ⟨b1, 3, none⟩)), .val (.string a2.Body)] [(b1, .cells #[.int .i64 a2.Src, .int .i64 a2.Dst, .bool a2.NoSum, .string a2.Body] 40 (0, 0))] [] (by kernel_rfl) (by kernel_rfl) (by kernel_rfl) (by kernel_rfl) (Heads.val (fun tt Ψ => OpV.run [] [] (by kernel_rfl) (fun _ => by kernel_rfl)) (Heads.val (fun tt Ψ => OpV.run [] [] (by kernel_rfl) (fun _ => by kernel_rfl)) (Heads.val (fun tt Ψ => OpV.run [] [] (by kernel_rfl) (fun _ => by kernel_rfl)) (Heads.val (fun tt Ψ => OpV.callF [] [] (fun _ h => (List.mem_append_right _ (List.mem_append_right _ h))) (csum_Head_calls k a0 a1 17 (i64 (8 + (a2.Body.size : Int))) _ h18)  (fun _ => by kernel_rfl)) (Heads.val (fun tt Ψ => OpV.run [] [] (by kernel_rfl) (fun _ => by kernel_rfl)) (Heads.val (fun tt Ψ => OpV.run [] [] (by kernel_rfl) (fun _ => by kernel_rfl)) (Heads.val (fun tt Ψ => OpV.run [0] [b1] (by kernel_rfl) (fun _ => by kernel_rfl)) Heads.nil))))))) (fun s16 tt => [(34, .int .u32 a0), (35, .int .u32 a1), (36, .int .i64 (i64 (8 + (a2.Body.size : Int)))), (37, .string r17), (38, .string t13), (39, .pointer (some ⟨b1, 3, none⟩)), (40, .string a2.Body), (0, .int .u32 a0), (1, .int .u32 a1), (5, .pointer (some ⟨b1, 0, none⟩)), (6, .string (⟨#[]⟩ : ByteArray)), (7, .int .i64 0), (9, .int .i64 (i64 (8 + (a2.Body.size : Int)))), (10, .string t13), (11, .int .i64 0)]) (fun s16 tt => [(b1, .cells #[.int .i64 a2.Src, .int .i64 a2.Dst, .bool a2.NoSum, .string a2.Body] 40 (0, 0))]) (fun tt => ([] ++ []) ++ Glob) (fun _ _ => by kernel_rfl) (fun _ _ => by kernel_rfl) (fun _ => by kernel_rfl) (fun s16 tt => ?_)
        refine WL.run 1 [] [5, 6, 7, 10, 11, 41] (fun b19 => [(5, .pointer (some ⟨b1, 0, none⟩)), (6, .string (⟨#[]⟩ : ByteArray)), (7, .int .i64 0), (10, .string t13), (11, .int .i64 0), (41, .slice (some ⟨b19, 0, none⟩) 3 3)]) (fun b19 => [(b1, .cells #[.int .i64 a2.Src, .int .i64 a2.Dst, .bool a2.NoSum, .string a2.Body] 40 (0, 0)), (b19, .cells #[.string r17, .string t13, .string a2.Body] 9 (0, 0))]) (fun b19 => []) (fun b19 => by kernel_rfl) (fun b19 => ?_)
        refine WL.ice (H' := [(b1, .cells #[.int .i64 a2.Src, .int .i64 a2.Dst, .bool a2.NoSum, .string a2.Body] 40 (0, 0))]) (Row 1 (pl encS) noK (SkL.at b19 3 (fun _ => ())) ([r17, t13, a2.Body] : List ByteArray)) 1 (b := b19) (ob := .cells #[.string r17, .string t13, .string a2.Body] 9 (0, 0)) (by kernel_rfl) [] [] (by kernel_rfl) (fun w hb hψ => row_of_block hb (fun _ _ => rfl) ⟨[], by kernel_rfl⟩ (Nat.le_of_ble_eq_true rfl) (InK.no _ _)) (by kernel_rfl) ?_
        obtain ⟨r20, h21, hM⟩ := bind_some hM
        refine WL.callP [] [] (csum_Of_calls k (SkL.at b19 3 (fun _ => ())) ([r17, t13, a2.Body] : List ByteArray) _ h21) (sub_pick [0] (by kernel_rfl)) (by kernel_rfl) (by kernel_rfl) rfl ?_
        refine WL.run 1 [] [5, 6, 7, 10, 11] (fun _ => [(5, .pointer (some ⟨b1, 0, none⟩)), (6, .string (⟨#[]⟩ : ByteArray)), (7, .int .i64 0), (10, .string t13), (11, .int .i64 r20)]) (fun _ => [(b1, .cells #[.int .i64 a2.Src, .int .i64 a2.Dst, .bool a2.NoSum, .string a2.Body] 40 (0, 0))]) (fun _ => []) (fun _ => by kernel_rfl) (fun _ => ?_)
        refine WP.done ?_
        refine WP.seq ?_
        refine WP.run [] [5, 6, 7, 10, 11, 44] (fun _ => [(5, .pointer (some ⟨b1, 0, none⟩)), (6, .string (⟨#[]⟩ : ByteArray)), (7, .int .i64 0), (10, .string t13), (11, .int .i64 r20), (44, .bool (r20 == 0))]) (fun _ => [(b1, .cells #[.int .i64 a2.Src, .int .i64 a2.Dst, .bool a2.NoSum, .string a2.Body] 40 (0, 0))]) (fun _ => []) (fun _ => by kernel_rfl) (fun _ => ?_)
        refine WP.cond (r20 == 0) rfl rfl (fun c22 => ?_) (fun c22 => ?_)
        · replace hM := cond_t hM c22
          refine WP.run [] [5, 6, 7, 10, 11] (fun _ => [(5, .pointer (some ⟨b1, 0, none⟩)), (6, .string (⟨#[]⟩ : ByteArray)), (7, .int .i64 0), (10, .string t13), (11, .int .i64 65535)]) (fun _ => [(b1, .cells #[.int .i64 a2.Src, .int .i64 a2.Dst, .bool a2.NoSum, .string a2.Body] 40 (0, 0))]) (fun _ => []) (fun _ => by kernel_rfl) (fun _ => ?_)
          exact WP.sub [5, 6, 7, 10, 11] (by kernel_rfl) (WP.pick [0] (by kernel_rfl) (by kernel_rfl) (WP.lessF [] (by kernel_rfl) (K1 65535 hM)))
        · replace hM := cond_f hM c22
          refine WP.skip ?_
          exact WP.sub [5, 6, 7, 10, 11] (by kernel_rfl) (WP.pick [0] (by kernel_rfl) (by kernel_rfl) (WP.lessF [] (by kernel_rfl) (K1 r20 hM)))
      · replace hM := cond_f hM c15
        refine WP.skip ?_
        exact WP.sub [5, 6, 7, 10, 11] (by kernel_rfl) (WP.pick [0] (by kernel_rfl) (by kernel_rfl) (WP.lessF [] (by kernel_rfl) (K1 0 hM)))

end Go.Proofs.YtbodofjnfmjbpaaGreatDoor

namespace Go.Proofs.YtbodofjnfmjbpaaGreatDoor
open Go Eng
set_option linter.unusedVariables false
set_option linter.unusedSimpArgs false

/-! ### gangway/inet.below: function 97 -/
def inet_below.f (a0 : Int) (a1 : Int) : Option (Bool) :=
  some ((decide (a0 ≥ 0)) && (decide (a0 < a1)))

set_option maxRecDepth 100000 in
theorem inet_below_calls (a0 : Int) (a1 : Int) (r : Bool) (h : inet_below.f a0 a1 = some r) : Pure Tryz.prog Glob 97 #[.int .i64 a0, .int .i64 a1] (.bool r) := by
  intro w Z hS
  refine calls_of (args := [.int .i64 a0, .int .i64 a1]) (L := [(0, .int .i64 a0), (1, .int .i64 a1)]) (N := 12) (S := Sat w Z [] [] Glob) Tryz.func97 rfl rfl (Nat.le_of_ble_eq_true rfl) rfl hS ?_
  have hM := h
  clear h hS
  unfold inet_below.f at hM
  refine WP.seq ?_
  refine WP.run [] [0, 1, 4] (fun _ => [(0, .int .i64 a0), (1, .int .i64 a1), (4, .bool false)]) (fun _ => []) (fun _ => []) (fun _ => by kernel_rfl) (fun _ => ?_)
  refine WP.seq ?_
  refine WP.region ?_
  refine WL.run 3 [] [0, 1, 4, 7] (fun _ => [(0, .int .i64 a0), (1, .int .i64 a1), (4, .bool false), (7, .bool (decide (a0 ≥ 0)))]) (fun _ => []) (fun _ => []) (fun _ => by kernel_rfl) (fun _ => ?_)
  refine WL.sub [0, 1, 4, 7] (L' := [(0, .int .i64 a0), (1, .int .i64 a1), (4, .bool false), (7, .bool (decide (a0 ≥ 0)))]) (by kernel_rfl) ?_
  refine WL.both (fun b' => [(0, .int .i64 a0), (1, .int .i64 a1), (4, .bool false), (7, .bool b')]) (decide (a0 ≥ 0)) 4 [] [] [4, 11] (fun b' => [(4, .bool false), (11, .bool (b' && (decide (a0 < a1))))]) [] [] (fun _ => by kernel_rfl) (fun _ => by kernel_rfl) ?_
  refine WL.run 1 [] [4] (fun _ => [(4, .bool ((decide (a0 ≥ 0)) && (decide (a0 < a1))))]) (fun _ => []) (fun _ => []) (fun _ => by kernel_rfl) (fun _ => ?_)
  refine WP.done ?_
  obtain rfl := Option.some.inj hM
  exact WP.ret [] [] (.bool ((decide (a0 ≥ 0)) && (decide (a0 < a1)))) (by kernel_rfl) (fun w' hw => ⟨rfl, hw.pick [] rfl⟩)

end Go.Proofs.YtbodofjnfmjbpaaGreatDoor

namespace Go.Proofs.YtbodofjnfmjbpaaGreatDoor
open Go Eng
set_option linter.unusedVariables false
set_option linter.unusedSimpArgs false

/-! ### gangway/inet.Check: function 69 -/
def inet_Check.k1 (a0 : api_Ip) (x19 : Bool) : Option (Int) :=
  bif (x19 && (decide ((a0.Body.size : Int) ≤ 65515))) then
    some 0
  else
    some 61

def inet_Check.k2 (a0 : api_Ip) (x15 : Bool) : Option (Int) :=
  bif x15 then
    (inet_below.f a0.Off 8192).bind fun r17 =>
    inet_Check.k1 a0 r17
  else
    inet_Check.k1 a0 false

def inet_Check.k3 (a0 : api_Ip) (x11 : Bool) : Option (Int) :=
  bif x11 then
    (inet_below.f a0.Id 65536).bind fun r13 =>
    inet_Check.k2 a0 r13
  else
    inet_Check.k2 a0 false

def inet_Check.k4 (a0 : api_Ip) (x7 : Bool) : Option (Int) :=
  bif x7 then
    (inet_below.f a0.Proto 256).bind fun r9 =>
    inet_Check.k3 a0 r9
  else
    inet_Check.k3 a0 false

def inet_Check.f (a0 : api_Ip) : Option (Int) :=
  (inet_below.f a0.Tos 256).bind fun r2 =>
  bif r2 then
    (inet_below.f a0.Ttl 256).bind fun r5 =>
    inet_Check.k4 a0 r5
  else
    inet_Check.k4 a0 false

set_option maxRecDepth 100000 in
theorem inet_Check_calls (a0 : api_Ip) (r : Int) (h : inet_Check.f a0 = some r) : Pure Tryz.prog Glob 69 #[.agg #[.int .i64 a0.Tos, .int .i64 a0.Id, .bool a0.Whole, .bool a0.More, .int .i64 a0.Off, .int .i64 a0.Ttl, .int .i64 a0.Proto, .int .u32 a0.Src, .int .u32 a0.Dst, .string a0.Body]] (.int .i64 r) := by
  intro w Z hS
  refine calls_of (args := [.agg #[.int .i64 a0.Tos, .int .i64 a0.Id, .bool a0.Whole, .bool a0.More, .int .i64 a0.Off, .int .i64 a0.Ttl, .int .i64 a0.Proto, .int .u32 a0.Src, .int .u32 a0.Dst, .string a0.Body]]) (L := [(0, .agg #[.int .i64 a0.Tos, .int .i64 a0.Id, .bool a0.Whole, .bool a0.More, .int .i64 a0.Off, .int .i64 a0.Ttl, .int .i64 a0.Proto, .int .u32 a0.Src, .int .u32 a0.Dst, .string a0.Body])]) (N := 32) (S := Sat w Z [] [] Glob) Tryz.func69 rfl rfl (Nat.le_of_ble_eq_true rfl) rfl hS ?_
  have hM := h
  clear h hS
  unfold inet_Check.f at hM
  refine WP.seq ?_
  refine WP.run [] [1, 2] (fun b1 => [(1, .pointer (some ⟨b1, 0, none⟩)), (2, .int .i64 0)]) (fun b1 => [(b1, .cells #[.int .i64 a0.Tos, .int .i64 a0.Id, .bool a0.Whole, .bool a0.More, .int .i64 a0.Off, .int .i64 a0.Ttl, .int .i64 a0.Proto, .int .u32 a0.Src, .int .u32 a0.Dst, .string a0.Body] 91 (0, 0))]) (fun b1 => []) (fun b1 => by kernel_rfl) (fun b1 => ?_)
  refine WP.seq ?_
  refine WP.seq ?_
  refine WP.region ?_
  refine WL.run 2 [0] [1, 2, 4] (fun _ => [(1, .pointer (some ⟨b1, 0, none⟩)), (2, .int .i64 0), (4, .int .i64 a0.Tos)]) (fun _ => [(b1, .cells #[.int .i64 a0.Tos, .int .i64 a0.Id, .bool a0.Whole, .bool a0.More, .int .i64 a0.Off, .int .i64 a0.Ttl, .int .i64 a0.Proto, .int .u32 a0.Src, .int .u32 a0.Dst, .string a0.Body] 91 (0, 0))]) (fun _ => [b1]) (fun _ => by kernel_rfl) (fun _ => ?_)
  obtain ⟨r2, h3, hM⟩ := bind_some hM
  refine WL.callP [] [] (inet_below_calls a0.Tos 256 _ h3) (fun _ h => h) (by kernel_rfl) (by kernel_rfl) rfl ?_
  refine WL.run 1 [] [1, 2, 6] (fun _ => [(1, .pointer (some ⟨b1, 0, none⟩)), (2, .int .i64 0), (6, .bool r2)]) (fun _ => [(b1, .cells #[.int .i64 a0.Tos, .int .i64 a0.Id, .bool a0.Whole, .bool a0.More, .int .i64 a0.Off, .int .i64 a0.Ttl, .int .i64 a0.Proto, .int .u32 a0.Src, .int .u32 a0.Dst, .string a0.Body] 91 (0, 0))]) (fun _ => []) (fun _ => by kernel_rfl) (fun _ => ?_)
  refine WL.sub [1, 2, 6] (L' := [(1, .pointer (some ⟨b1, 0, none⟩)), (2, .int .i64 0), (6, .bool r2)]) (by kernel_rfl) ?_
  refine WL.join (σ := Bool) 4 (fun st => inet_Check.k4 a0 st = some r) (fun st => [(1, .pointer (some ⟨b1, 0, none⟩)), (2, .int .i64 0), (10, .bool st)]) (fun st => Sat w Z [(b1, .cells #[.int .i64 a0.Tos, .int .i64 a0.Id, .bool a0.Whole, .bool a0.More, .int .i64 a0.Off, .int .i64 a0.Ttl, .int .i64 a0.Proto, .int .u32 a0.Src, .int .u32 a0.Dst, .string a0.Body] 91 (0, 0))] [] Glob) (fun st hM => ?_) (fun K4 => ?_)
  ·
    obtain ⟨x7, rfl⟩ : ∃ y, y = st := ⟨st, rfl⟩
    replace hM : inet_Check.k4 a0 x7 = some r := hM
    unfold inet_Check.k4 at hM
    show WL _ _ _ _ _ [(1, .pointer (some ⟨b1, 0, none⟩)), (2, .int .i64 0), (10, .bool x7)] (Sat w Z [(b1, .cells #[.int .i64 a0.Tos, .int .i64 a0.Id, .bool a0.Whole, .bool a0.More, .int .i64 a0.Off, .int .i64 a0.Ttl, .int .i64 a0.Proto, .int .u32 a0.Src, .int .u32 a0.Dst, .string a0.Body] 91 (0, 0))] [] Glob)
    refine WL.run 1 [] [1, 2, 11] (fun _ => [(1, .pointer (some ⟨b1, 0, none⟩)), (2, .int .i64 0), (11, .bool x7)]) (fun _ => [(b1, .cells #[.int .i64 a0.Tos, .int .i64 a0.Id, .bool a0.Whole, .bool a0.More, .int .i64 a0.Off, .int .i64 a0.Ttl, .int .i64 a0.Proto, .int .u32 a0.Src, .int .u32 a0.Dst, .string a0.Body] 91 (0, 0))]) (fun _ => []) (fun _ => by kernel_rfl) (fun _ => ?_)
    refine WL.sub [1, 2, 11] (L' := [(1, .pointer (some ⟨b1, 0, none⟩)), (2, .int .i64 0), (11, .bool x7)]) (by kernel_rfl) ?_
    refine WL.join (σ := Bool) 4 (fun st => inet_Check.k3 a0 st = some r) (fun st => [(1, .pointer (some ⟨b1, 0, none⟩)), (2, .int .i64 0), (15, .bool st)]) (fun st => Sat w Z [(b1, .cells #[.int .i64 a0.Tos, .int .i64 a0.Id, .bool a0.Whole, .bool a0.More, .int .i64 a0.Off, .int .i64 a0.Ttl, .int .i64 a0.Proto, .int .u32 a0.Src, .int .u32 a0.Dst, .string a0.Body] 91 (0, 0))] [] Glob) (fun st hM => ?_) (fun K3 => ?_)
    ·
      obtain ⟨x11, rfl⟩ : ∃ y, y = st := ⟨st, rfl⟩
      replace hM : inet_Check.k3 a0 x11 = some r := hM
      unfold inet_Check.k3 at hM
      show WL _ _ _ _ _ [(1, .pointer (some ⟨b1, 0, none⟩)), (2, .int .i64 0), (15, .bool x11)] (Sat w Z [(b1, .cells #[.int .i64 a0.Tos, .int .i64 a0.Id, .bool a0.Whole, .bool a0.More, .int .i64 a0.Off, .int .i64 a0.Ttl, .int .i64 a0.Proto, .int .u32 a0.Src, .int .u32 a0.Dst, .string a0.Body] 91 (0, 0))] [] Glob)
      refine WL.run 1 [] [1, 2, 16] (fun _ => [(1, .pointer (some ⟨b1, 0, none⟩)), (2, .int .i64 0), (16, .bool x11)]) (fun _ => [(b1, .cells #[.int .i64 a0.Tos, .int .i64 a0.Id, .bool a0.Whole, .bool a0.More, .int .i64 a0.Off, .int .i64 a0.Ttl, .int .i64 a0.Proto, .int .u32 a0.Src, .int .u32 a0.Dst, .string a0.Body] 91 (0, 0))]) (fun _ => []) (fun _ => by kernel_rfl) (fun _ => ?_)
      refine WL.sub [1, 2, 16] (L' := [(1, .pointer (some ⟨b1, 0, none⟩)), (2, .int .i64 0), (16, .bool x11)]) (by kernel_rfl) ?_
      refine WL.join (σ := Bool) 4 (fun st => inet_Check.k2 a0 st = some r) (fun st => [(1, .pointer (some ⟨b1, 0, none⟩)), (2, .int .i64 0), (20, .bool st)]) (fun st => Sat w Z [(b1, .cells #[.int .i64 a0.Tos, .int .i64 a0.Id, .bool a0.Whole, .bool a0.More, .int .i64 a0.Off, .int .i64 a0.Ttl, .int .i64 a0.Proto, .int .u32 a0.Src, .int .u32 a0.Dst, .string a0.Body] 91 (0, 0))] [] Glob) (fun st hM => ?_) (fun K2 => ?_)
      ·
        obtain ⟨x15, rfl⟩ : ∃ y, y = st := ⟨st, rfl⟩
        replace hM : inet_Check.k2 a0 x15 = some r := hM
        unfold inet_Check.k2 at hM
        show WL _ _ _ _ _ [(1, .pointer (some ⟨b1, 0, none⟩)), (2, .int .i64 0), (20, .bool x15)] (Sat w Z [(b1, .cells #[.int .i64 a0.Tos, .int .i64 a0.Id, .bool a0.Whole, .bool a0.More, .int .i64 a0.Off, .int .i64 a0.Ttl, .int .i64 a0.Proto, .int .u32 a0.Src, .int .u32 a0.Dst, .string a0.Body] 91 (0, 0))] [] Glob)
        refine WL.run 1 [] [1, 2, 21] (fun _ => [(1, .pointer (some ⟨b1, 0, none⟩)), (2, .int .i64 0), (21, .bool x15)]) (fun _ => [(b1, .cells #[.int .i64 a0.Tos, .int .i64 a0.Id, .bool a0.Whole, .bool a0.More, .int .i64 a0.Off, .int .i64 a0.Ttl, .int .i64 a0.Proto, .int .u32 a0.Src, .int .u32 a0.Dst, .string a0.Body] 91 (0, 0))]) (fun _ => []) (fun _ => by kernel_rfl) (fun _ => ?_)
        refine WL.sub [1, 2, 21] (L' := [(1, .pointer (some ⟨b1, 0, none⟩)), (2, .int .i64 0), (21, .bool x15)]) (by kernel_rfl) ?_
        refine WL.join (σ := Bool) 4 (fun st => inet_Check.k1 a0 st = some r) (fun st => [(1, .pointer (some ⟨b1, 0, none⟩)), (2, .int .i64 0), (25, .bool st)]) (fun st => Sat w Z [(b1, .cells #[.int .i64 a0.Tos, .int .i64 a0.Id, .bool a0.Whole, .bool a0.More, .int .i64 a0.Off, .int .i64 a0.Ttl, .int .i64 a0.Proto, .int .u32 a0.Src, .int .u32 a0.Dst, .string a0.Body] 91 (0, 0))] [] Glob) (fun st hM => ?_) (fun K1 => ?_)
        ·
          obtain ⟨x19, rfl⟩ : ∃ y, y = st := ⟨st, rfl⟩
          replace hM : inet_Check.k1 a0 x19 = some r := hM
          unfold inet_Check.k1 at hM
          show WL _ _ _ _ _ [(1, .pointer (some ⟨b1, 0, none⟩)), (2, .int .i64 0), (25, .bool x19)] (Sat w Z [(b1, .cells #[.int .i64 a0.Tos, .int .i64 a0.Id, .bool a0.Whole, .bool a0.More, .int .i64 a0.Off, .int .i64 a0.Ttl, .int .i64 a0.Proto, .int .u32 a0.Src, .int .u32 a0.Dst, .string a0.Body] 91 (0, 0))] [] Glob)
          refine WL.run 1 [] [1, 2, 26] (fun _ => [(1, .pointer (some ⟨b1, 0, none⟩)), (2, .int .i64 0), (26, .bool x19)]) (fun _ => [(b1, .cells #[.int .i64 a0.Tos, .int .i64 a0.Id, .bool a0.Whole, .bool a0.More, .int .i64 a0.Off, .int .i64 a0.Ttl, .int .i64 a0.Proto, .int .u32 a0.Src, .int .u32 a0.Dst, .string a0.Body] 91 (0, 0))]) (fun _ => []) (fun _ => by kernel_rfl) (fun _ => ?_)
          refine WL.sub [1, 2, 26] (L' := [(1, .pointer (some ⟨b1, 0, none⟩)), (2, .int .i64 0), (26, .bool x19)]) (by kernel_rfl) ?_
          refine WL.both (fun b' => [(1, .pointer (some ⟨b1, 0, none⟩)), (2, .int .i64 0), (26, .bool b')]) x19 5 [0] [] [2, 31] (fun b' => [(2, .int .i64 0), (31, .bool (b' && (decide ((a0.Body.size : Int) ≤ 65515))))]) [b1] [] (fun _ => by kernel_rfl) (fun _ => by kernel_rfl) ?_
          refine WP.done ?_
          refine WP.keep [false] (by kernel_rfl : _ = []) ?_
          refine WP.cond (x19 && (decide ((a0.Body.size : Int) ≤ 65515))) rfl rfl (fun c20 => ?_) (fun c20 => ?_)
          · replace hM := cond_t hM c20
            refine WP.seq ?_
            refine WP.run [] [2] (fun _ => [(2, .int .i64 0)]) (fun _ => []) (fun _ => []) (fun _ => by kernel_rfl) (fun _ => ?_)
            obtain rfl := Option.some.inj hM
            exact WP.ret [] [] (.int .i64 0) (by kernel_rfl) (fun w' hw => ⟨rfl, hw.pick [] rfl⟩)
          · replace hM := cond_f hM c20
            refine WP.skip ?_
            refine WP.seq ?_
            refine WP.run [] [2] (fun _ => [(2, .int .i64 61)]) (fun _ => []) (fun _ => []) (fun _ => by kernel_rfl) (fun _ => ?_)
            obtain rfl := Option.some.inj hM
            exact WP.ret [] [] (.int .i64 61) (by kernel_rfl) (fun w' hw => ⟨rfl, hw.pick [] rfl⟩)
        ·
          refine WL.split (fun b' => [(1, .pointer (some ⟨b1, 0, none⟩)), (2, .int .i64 0), (21, .bool b')]) x15 (fun c16 => ?_) (fun c16 => ?_)
          · replace hM := cond_t hM c16
            refine WL.run 2 [0] [1, 2, 21, 23] (fun _ => [(1, .pointer (some ⟨b1, 0, none⟩)), (2, .int .i64 0), (21, .bool true), (23, .int .i64 a0.Off)]) (fun _ => [(b1, .cells #[.int .i64 a0.Tos, .int .i64 a0.Id, .bool a0.Whole, .bool a0.More, .int .i64 a0.Off, .int .i64 a0.Ttl, .int .i64 a0.Proto, .int .u32 a0.Src, .int .u32 a0.Dst, .string a0.Body] 91 (0, 0))]) (fun _ => [b1]) (fun _ => by kernel_rfl) (fun _ => ?_)
            obtain ⟨r17, h18, hM⟩ := bind_some hM
            refine WL.callP [] [] (inet_below_calls a0.Off 8192 _ h18) (fun _ h => h) (by kernel_rfl) (by kernel_rfl) rfl ?_
            refine WL.run 1 [] [1, 2, 25] (fun _ => [(1, .pointer (some ⟨b1, 0, none⟩)), (2, .int .i64 0), (25, .bool r17)]) (fun _ => [(b1, .cells #[.int .i64 a0.Tos, .int .i64 a0.Id, .bool a0.Whole, .bool a0.More, .int .i64 a0.Off, .int .i64 a0.Ttl, .int .i64 a0.Proto, .int .u32 a0.Src, .int .u32 a0.Dst, .string a0.Body] 91 (0, 0))]) (fun _ => []) (fun _ => by kernel_rfl) (fun _ => ?_)
            exact WL.sub [1, 2, 25] (by kernel_rfl) (WL.pick [0] (by kernel_rfl) (by kernel_rfl) (K1 r17 hM))
          · replace hM := cond_f hM c16
            refine WL.run 4 [] [1, 2, 25] (fun _ => [(1, .pointer (some ⟨b1, 0, none⟩)), (2, .int .i64 0), (25, .bool false)]) (fun _ => [(b1, .cells #[.int .i64 a0.Tos, .int .i64 a0.Id, .bool a0.Whole, .bool a0.More, .int .i64 a0.Off, .int .i64 a0.Ttl, .int .i64 a0.Proto, .int .u32 a0.Src, .int .u32 a0.Dst, .string a0.Body] 91 (0, 0))]) (fun _ => []) (fun _ => by kernel_rfl) (fun _ => ?_)
            exact WL.sub [1, 2, 25] (by kernel_rfl) (WL.pick [0] (by kernel_rfl) (by kernel_rfl) (K1 false hM))
      ·
        refine WL.split (fun b' => [(1, .pointer (some ⟨b1, 0, none⟩)), (2, .int .i64 0), (16, .bool b')]) x11 (fun c12 => ?_) (fun c12 => ?_)
        · replace hM := cond_t hM c12
          refine WL.run 2 [0] [1, 2, 16, 18] (fun _ => [(1, .pointer (some ⟨b1, 0, none⟩)), (2, .int .i64 0), (16, .bool true), (18, .int .i64 a0.Id)]) (fun _ => [(b1, .cells #[.int .i64 a0.Tos, .int .i64 a0.Id, .bool a0.Whole, .bool a0.More, .int .i64 a0.Off, .int .i64 a0.Ttl, .int .i64 a0.Proto, .int .u32 a0.Src, .int .u32 a0.Dst, .string a0.Body] 91 (0, 0))]) (fun _ => [b1]) (fun _ => by kernel_rfl) (fun _ => ?_)
          obtain ⟨r13, h14, hM⟩ := bind_some hM
          refine WL.callP [] [] (inet_below_calls a0.Id 65536 _ h14) (fun _ h => h) (by kernel_rfl) (by kernel_rfl) rfl ?_
          refine WL.run 1 [] [1, 2, 20] (fun _ => [(1, .pointer (some ⟨b1, 0, none⟩)), (2, .int .i64 0), (20, .bool r13)]) (fun _ => [(b1, .cells #[.int .i64 a0.Tos, .int .i64 a0.Id, .bool a0.Whole, .bool a0.More, .int .i64 a0.Off, .int .i64 a0.Ttl, .int .i64 a0.Proto, .int .u32 a0.Src, .int .u32 a0.Dst, .string a0.Body] 91 (0, 0))]) (fun _ => []) (fun _ => by kernel_rfl) (fun _ => ?_)
          exact WL.sub [1, 2, 20] (by kernel_rfl) (WL.pick [0] (by kernel_rfl) (by kernel_rfl) (K2 r13 hM))
        · replace hM := cond_f hM c12
          refine WL.run 4 [] [1, 2, 20] (fun _ => [(1, .pointer (some ⟨b1, 0, none⟩)), (2, .int .i64 0), (20, .bool false)]) (fun _ => [(b1, .cells #[.int .i64 a0.Tos, .int .i64 a0.Id, .bool a0.Whole, .bool a0.More, .int .i64 a0.Off, .int .i64 a0.Ttl, .int .i64 a0.Proto, .int .u32 a0.Src, .int .u32 a0.Dst, .string a0.Body] 91 (0, 0))]) (fun _ => []) (fun _ => by kernel_rfl) (fun _ => ?_)
          exact WL.sub [1, 2, 20] (by kernel_rfl) (WL.pick [0] (by kernel_rfl) (by kernel_rfl) (K2 false hM))
    ·
      refine WL.split (fun b' => [(1, .pointer (some ⟨b1, 0, none⟩)), (2, .int .i64 0), (11, .bool b')]) x7 (fun c8 => ?_) (fun c8 => ?_)
      · replace hM := cond_t hM c8
        refine WL.run 2 [0] [1, 2, 11, 13] (fun _ => [(1, .pointer (some ⟨b1, 0, none⟩)), (2, .int .i64 0), (11, .bool true), (13, .int .i64 a0.Proto)]) (fun _ => [(b1, .cells #[.int .i64 a0.Tos, .int .i64 a0.Id, .bool a0.Whole, .bool a0.More, .int .i64 a0.Off, .int .i64 a0.Ttl, .int .i64 a0.Proto, .int .u32 a0.Src, .int .u32 a0.Dst, .string a0.Body] 91 (0, 0))]) (fun _ => [b1]) (fun _ => by kernel_rfl) (fun _ => ?_)
        obtain ⟨r9, h10, hM⟩ := bind_some hM
        refine WL.callP [] [] (inet_below_calls a0.Proto 256 _ h10) (fun _ h => h) (by kernel_rfl) (by kernel_rfl) rfl ?_
        refine WL.run 1 [] [1, 2, 15] (fun _ => [(1, .pointer (some ⟨b1, 0, none⟩)), (2, .int .i64 0), (15, .bool r9)]) (fun _ => [(b1, .cells #[.int .i64 a0.Tos, .int .i64 a0.Id, .bool a0.Whole, .bool a0.More, .int .i64 a0.Off, .int .i64 a0.Ttl, .int .i64 a0.Proto, .int .u32 a0.Src, .int .u32 a0.Dst, .string a0.Body] 91 (0, 0))]) (fun _ => []) (fun _ => by kernel_rfl) (fun _ => ?_)
        exact WL.sub [1, 2, 15] (by kernel_rfl) (WL.pick [0] (by kernel_rfl) (by kernel_rfl) (K3 r9 hM))
      · replace hM := cond_f hM c8
        refine WL.run 4 [] [1, 2, 15] (fun _ => [(1, .pointer (some ⟨b1, 0, none⟩)), (2, .int .i64 0), (15, .bool false)]) (fun _ => [(b1, .cells #[.int .i64 a0.Tos, .int .i64 a0.Id, .bool a0.Whole, .bool a0.More, .int .i64 a0.Off, .int .i64 a0.Ttl, .int .i64 a0.Proto, .int .u32 a0.Src, .int .u32 a0.Dst, .string a0.Body] 91 (0, 0))]) (fun _ => []) (fun _ => by kernel_rfl) (fun _ => ?_)
        exact WL.sub [1, 2, 15] (by kernel_rfl) (WL.pick [0] (by kernel_rfl) (by kernel_rfl) (K3 false hM))
  ·
    refine WL.split (fun b' => [(1, .pointer (some ⟨b1, 0, none⟩)), (2, .int .i64 0), (6, .bool b')]) r2 (fun c4 => ?_) (fun c4 => ?_)
    · replace hM := cond_t hM c4
      refine WL.run 2 [0] [1, 2, 6, 8] (fun _ => [(1, .pointer (some ⟨b1, 0, none⟩)), (2, .int .i64 0), (6, .bool true), (8, .int .i64 a0.Ttl)]) (fun _ => [(b1, .cells #[.int .i64 a0.Tos, .int .i64 a0.Id, .bool a0.Whole, .bool a0.More, .int .i64 a0.Off, .int .i64 a0.Ttl, .int .i64 a0.Proto, .int .u32 a0.Src, .int .u32 a0.Dst, .string a0.Body] 91 (0, 0))]) (fun _ => [b1]) (fun _ => by kernel_rfl) (fun _ => ?_)
      obtain ⟨r5, h6, hM⟩ := bind_some hM
      refine WL.callP [] [] (inet_below_calls a0.Ttl 256 _ h6) (fun _ h => h) (by kernel_rfl) (by kernel_rfl) rfl ?_
      refine WL.run 1 [] [1, 2, 10] (fun _ => [(1, .pointer (some ⟨b1, 0, none⟩)), (2, .int .i64 0), (10, .bool r5)]) (fun _ => [(b1, .cells #[.int .i64 a0.Tos, .int .i64 a0.Id, .bool a0.Whole, .bool a0.More, .int .i64 a0.Off, .int .i64 a0.Ttl, .int .i64 a0.Proto, .int .u32 a0.Src, .int .u32 a0.Dst, .string a0.Body] 91 (0, 0))]) (fun _ => []) (fun _ => by kernel_rfl) (fun _ => ?_)
      exact WL.sub [1, 2, 10] (by kernel_rfl) (WL.pick [0] (by kernel_rfl) (by kernel_rfl) (K4 r5 hM))
    · replace hM := cond_f hM c4
      refine WL.run 4 [] [1, 2, 10] (fun _ => [(1, .pointer (some ⟨b1, 0, none⟩)), (2, .int .i64 0), (10, .bool false)]) (fun _ => [(b1, .cells #[.int .i64 a0.Tos, .int .i64 a0.Id, .bool a0.Whole, .bool a0.More, .int .i64 a0.Off, .int .i64 a0.Ttl, .int .i64 a0.Proto, .int .u32 a0.Src, .int .u32 a0.Dst, .string a0.Body] 91 (0, 0))]) (fun _ => []) (fun _ => by kernel_rfl) (fun _ => ?_)
      exact WL.sub [1, 2, 10] (by kernel_rfl) (WL.pick [0] (by kernel_rfl) (by kernel_rfl) (K4 false hM))

end Go.Proofs.YtbodofjnfmjbpaaGreatDoor

namespace Go.Proofs.YtbodofjnfmjbpaaGreatDoor
open Go Eng
set_option linter.unusedVariables false
set_option linter.unusedSimpArgs false

/-! ### gangway/inet.word: function 70 -/
def inet_word.f (k : Nat) (a0 : Int) : Option (ByteArray) :=
  (octets_Put.f k (u64 a0) 2).bind fun (r1, r2) =>
  some r1

set_option maxRecDepth 100000 in
theorem inet_word_calls (k : Nat) (a0 : Int) (r : ByteArray) (h : inet_word.f k a0 = some r) : Pure Tryz.prog Glob 70 #[.int .i64 a0] (.string r) := by
  intro w Z hS
  refine calls_of (args := [.int .i64 a0]) (L := [(0, .int .i64 a0)]) (N := 12) (S := Sat w Z [] [] Glob) Tryz.func70 rfl rfl (Nat.le_of_ble_eq_true rfl) rfl hS ?_
  have hM := h
  clear h hS
  unfold inet_word.f at hM
  refine WP.seq ?_
  refine WP.run [] [0, 2] (fun _ => [(0, .int .i64 a0), (2, .string (⟨#[]⟩ : ByteArray))]) (fun _ => []) (fun _ => []) (fun _ => by kernel_rfl) (fun _ => ?_)
  refine WP.seq ?_
  refine WP.region ?_
  refine WL.run 2 [] [2, 7] (fun _ => [(2, .string (⟨#[]⟩ : ByteArray)), (7, .int .u64 (u64 a0))]) (fun _ => []) (fun _ => []) (fun _ => by kernel_rfl) (fun _ => ?_)
  obtain ⟨⟨r1, r2⟩, h3, hM⟩ := bind_some hM
  dsimp only at hM
  refine WL.callP [] [] (octets_Put_calls k (u64 a0) 2 _ h3) (fun _ h => h) (by kernel_rfl) (by kernel_rfl) rfl ?_
  refine WL.run 5 [] [2, 3] (fun _ => [(2, .string (⟨#[]⟩ : ByteArray)), (3, .string r1)]) (fun _ => []) (fun _ => []) (fun _ => by kernel_rfl) (fun _ => ?_)
  refine WP.done ?_
  refine WP.seq ?_
  refine WP.run [] [2] (fun _ => [(2, .string r1)]) (fun _ => []) (fun _ => []) (fun _ => by kernel_rfl) (fun _ => ?_)
  obtain rfl := Option.some.inj hM
  exact WP.ret [] [] (.string r1) (by kernel_rfl) (fun w' hw => ⟨rfl, hw.pick [] rfl⟩)

end Go.Proofs.YtbodofjnfmjbpaaGreatDoor

namespace Go.Proofs.YtbodofjnfmjbpaaGreatDoor
open Go Eng
set_option linter.unusedVariables false
set_option linter.unusedSimpArgs false

/-! ### gangway/inet.flags: function 71 -/
def inet_flags.k1 (x5 : Int) : Option (Int) :=
  some x5

def inet_flags.k2 (a0 : api_Ip) (x3 : Int) : Option (Int) :=
  bif a0.More then
    inet_flags.k1 (bOr .i64 x3 8192)
  else
    inet_flags.k1 x3

def inet_flags.f (a0 : api_Ip) : Option (Int) :=
  bif a0.Whole then
    inet_flags.k2 a0 (bOr .i64 a0.Off 16384)
  else
    inet_flags.k2 a0 a0.Off

set_option maxRecDepth 100000 in
theorem inet_flags_calls (a0 : api_Ip) (r : Int) (h : inet_flags.f a0 = some r) : Pure Tryz.prog Glob 71 #[.agg #[.int .i64 a0.Tos, .int .i64 a0.Id, .bool a0.Whole, .bool a0.More, .int .i64 a0.Off, .int .i64 a0.Ttl, .int .i64 a0.Proto, .int .u32 a0.Src, .int .u32 a0.Dst, .string a0.Body]] (.int .i64 r) := by
  intro w Z hS
  refine calls_of (args := [.agg #[.int .i64 a0.Tos, .int .i64 a0.Id, .bool a0.Whole, .bool a0.More, .int .i64 a0.Off, .int .i64 a0.Ttl, .int .i64 a0.Proto, .int .u32 a0.Src, .int .u32 a0.Dst, .string a0.Body]]) (L := [(0, .agg #[.int .i64 a0.Tos, .int .i64 a0.Id, .bool a0.Whole, .bool a0.More, .int .i64 a0.Off, .int .i64 a0.Ttl, .int .i64 a0.Proto, .int .u32 a0.Src, .int .u32 a0.Dst, .string a0.Body])]) (N := 15) (S := Sat w Z [] [] Glob) Tryz.func71 rfl rfl (Nat.le_of_ble_eq_true rfl) rfl hS ?_
  have hM := h
  clear h hS
  unfold inet_flags.f at hM
  refine WP.seq ?_
  refine WP.run [] [1, 2] (fun b1 => [(1, .pointer (some ⟨b1, 0, none⟩)), (2, .int .i64 0)]) (fun b1 => [(b1, .cells #[.int .i64 a0.Tos, .int .i64 a0.Id, .bool a0.Whole, .bool a0.More, .int .i64 a0.Off, .int .i64 a0.Ttl, .int .i64 a0.Proto, .int .u32 a0.Src, .int .u32 a0.Dst, .string a0.Body] 91 (0, 0))]) (fun b1 => []) (fun b1 => by kernel_rfl) (fun b1 => ?_)
  refine WP.seq ?_
  refine WP.run [0] [1, 2, 3] (fun _ => [(1, .pointer (some ⟨b1, 0, none⟩)), (2, .int .i64 0), (3, .int .i64 a0.Off)]) (fun _ => [(b1, .cells #[.int .i64 a0.Tos, .int .i64 a0.Id, .bool a0.Whole, .bool a0.More, .int .i64 a0.Off, .int .i64 a0.Ttl, .int .i64 a0.Proto, .int .u32 a0.Src, .int .u32 a0.Dst, .string a0.Body] 91 (0, 0))]) (fun _ => [b1]) (fun _ => by kernel_rfl) (fun _ => ?_)
  refine WP.seqJoin (σ := Int) (fun st => inet_flags.k2 a0 st = some r) (fun st => [(1, .pointer (some ⟨b1, 0, none⟩)), (2, .int .i64 0), (3, .int .i64 st)]) (fun st => Sat w Z [(b1, .cells #[.int .i64 a0.Tos, .int .i64 a0.Id, .bool a0.Whole, .bool a0.More, .int .i64 a0.Off, .int .i64 a0.Ttl, .int .i64 a0.Proto, .int .u32 a0.Src, .int .u32 a0.Dst, .string a0.Body] 91 (0, 0))] [] Glob) (fun st hM => ?_) (fun K2 => ?_)
  ·
    obtain ⟨x3, rfl⟩ : ∃ y, y = st := ⟨st, rfl⟩
    replace hM : inet_flags.k2 a0 x3 = some r := hM
    unfold inet_flags.k2 at hM
    show WP _ _ _ _ _ [(1, .pointer (some ⟨b1, 0, none⟩)), (2, .int .i64 0), (3, .int .i64 x3)] (Sat w Z [(b1, .cells #[.int .i64 a0.Tos, .int .i64 a0.Id, .bool a0.Whole, .bool a0.More, .int .i64 a0.Off, .int .i64 a0.Ttl, .int .i64 a0.Proto, .int .u32 a0.Src, .int .u32 a0.Dst, .string a0.Body] 91 (0, 0))] [] Glob)
    refine WP.seqJoin (σ := Int) (fun st => inet_flags.k1 st = some r) (fun st => [(2, .int .i64 0), (3, .int .i64 st)]) (fun st => Sat w Z [] [] Glob) (fun st hM => ?_) (fun K1 => ?_)
    ·
      obtain ⟨x5, rfl⟩ : ∃ y, y = st := ⟨st, rfl⟩
      replace hM : inet_flags.k1 x5 = some r := hM
      unfold inet_flags.k1 at hM
      show WP _ _ _ _ _ [(2, .int .i64 0), (3, .int .i64 x5)] (Sat w Z [] [] Glob)
      refine WP.seq ?_
      refine WP.run [] [2] (fun _ => [(2, .int .i64 x5)]) (fun _ => []) (fun _ => []) (fun _ => by kernel_rfl) (fun _ => ?_)
      obtain rfl := Option.some.inj hM
      exact WP.ret [] [] (.int .i64 x5) (by kernel_rfl) (fun w' hw => ⟨rfl, hw.pick [] rfl⟩)
    ·
      refine WP.seq ?_
      refine WP.run [0] [2, 3, 11] (fun _ => [(2, .int .i64 0), (3, .int .i64 x3), (11, .bool a0.More)]) (fun _ => [(b1, .cells #[.int .i64 a0.Tos, .int .i64 a0.Id, .bool a0.Whole, .bool a0.More, .int .i64 a0.Off, .int .i64 a0.Ttl, .int .i64 a0.Proto, .int .u32 a0.Src, .int .u32 a0.Dst, .string a0.Body] 91 (0, 0))]) (fun _ => [b1]) (fun _ => by kernel_rfl) (fun _ => ?_)
      refine WP.keep [false] (by kernel_rfl : _ = []) ?_
      refine WP.cond a0.More rfl rfl (fun c4 => ?_) (fun c4 => ?_)
      · replace hM := cond_t hM c4
        refine WP.run [] [2, 3] (fun _ => [(2, .int .i64 0), (3, .int .i64 (bOr .i64 x3 8192))]) (fun _ => []) (fun _ => []) (fun _ => by kernel_rfl) (fun _ => ?_)
        exact WP.sub [2, 3] (by kernel_rfl) (WP.pick [] (by kernel_rfl) (by kernel_rfl) (K1 (bOr .i64 x3 8192) hM))
      · replace hM := cond_f hM c4
        refine WP.skip ?_
        exact WP.sub [2, 3] (by kernel_rfl) (WP.pick [] (by kernel_rfl) (by kernel_rfl) (K1 x3 hM))
  ·
    refine WP.seq ?_
    refine WP.run [0] [1, 2, 3, 7] (fun _ => [(1, .pointer (some ⟨b1, 0, none⟩)), (2, .int .i64 0), (3, .int .i64 a0.Off), (7, .bool a0.Whole)]) (fun _ => [(b1, .cells #[.int .i64 a0.Tos, .int .i64 a0.Id, .bool a0.Whole, .bool a0.More, .int .i64 a0.Off, .int .i64 a0.Ttl, .int .i64 a0.Proto, .int .u32 a0.Src, .int .u32 a0.Dst, .string a0.Body] 91 (0, 0))]) (fun _ => [b1]) (fun _ => by kernel_rfl) (fun _ => ?_)
    refine WP.cond a0.Whole rfl rfl (fun c2 => ?_) (fun c2 => ?_)
    · replace hM := cond_t hM c2
      refine WP.run [] [1, 2, 3] (fun _ => [(1, .pointer (some ⟨b1, 0, none⟩)), (2, .int .i64 0), (3, .int .i64 (bOr .i64 a0.Off 16384))]) (fun _ => [(b1, .cells #[.int .i64 a0.Tos, .int .i64 a0.Id, .bool a0.Whole, .bool a0.More, .int .i64 a0.Off, .int .i64 a0.Ttl, .int .i64 a0.Proto, .int .u32 a0.Src, .int .u32 a0.Dst, .string a0.Body] 91 (0, 0))]) (fun _ => []) (fun _ => by kernel_rfl) (fun _ => ?_)
      exact WP.sub [1, 2, 3] (by kernel_rfl) (WP.pick [0] (by kernel_rfl) (by kernel_rfl) (K2 (bOr .i64 a0.Off 16384) hM))
    · replace hM := cond_f hM c2
      refine WP.skip ?_
      exact WP.sub [1, 2, 3] (by kernel_rfl) (WP.pick [0] (by kernel_rfl) (by kernel_rfl) (K2 a0.Off hM))

end Go.Proofs.YtbodofjnfmjbpaaGreatDoor

namespace Go.Proofs.YtbodofjnfmjbpaaGreatDoor
open Go Eng
set_option linter.unusedVariables false
set_option linter.unusedSimpArgs false

/-! ### gangway/inet.Build: function 41 -/
def inet_Build.f (k : Nat) (a0 : api_Ip) : Option (ByteArray × Int) :=
  (inet_Check.f a0).bind fun r2 =>
  bif (r2 != 0) then
    some ((⟨#[]⟩ : ByteArray), r2)
  else
    (octets_Put.f k (u64 a0.Src) 4).bind fun (r5, r6) =>
    (octets_Put.f k (u64 a0.Dst) 4).bind fun (r8, r9) =>
    (inet_word.f k (i64 (20 + (a0.Body.size : Int)))).bind fun r13 =>
    (catS (ByteArray.push (ByteArray.push ByteArray.empty (UInt8.ofNat (Int.toNat 69))) (UInt8.ofNat (Int.toNat (u8 a0.Tos)))) r13).bind fun t15 =>
    (inet_word.f k a0.Id).bind fun r17 =>
    (catS t15 r17).bind fun t19 =>
    (inet_flags.f a0).bind fun r21 =>
    (inet_word.f k r21).bind fun r23 =>
    (catS t19 r23).bind fun t25 =>
    (catS t25 (ByteArray.push (ByteArray.push ByteArray.empty (UInt8.ofNat (Int.toNat (u8 a0.Ttl)))) (UInt8.ofNat (Int.toNat (u8 a0.Proto))))).bind fun t28 =>
    (catS r5 r8).bind fun t30 =>
    (inet_word.f k 0).bind fun r33 =>
    (csum_Of.f k ([t28, r33, t30] : List ByteArray)).bind fun r36 =>
    (inet_word.f k r36).bind fun r38 =>
    (catS t28 r38).bind fun t40 =>
    (catS t40 t30).bind fun t42 =>
    (catS t42 a0.Body).bind fun t44 =>
    some (t44, 0)

set_option maxRecDepth 100000 in
theorem inet_Build_calls (k : Nat) (a0 : api_Ip) (r : ByteArray × Int) (h : inet_Build.f k a0 = some r) : Pure Tryz.prog Glob 41 #[.agg #[.int .i64 a0.Tos, .int .i64 a0.Id, .bool a0.Whole, .bool a0.More, .int .i64 a0.Off, .int .i64 a0.Ttl, .int .i64 a0.Proto, .int .u32 a0.Src, .int .u32 a0.Dst, .string a0.Body]] (.tuple #[.string r.1, .int .i64 r.2]) := by
  intro w Z hS
  refine calls_of (args := [.agg #[.int .i64 a0.Tos, .int .i64 a0.Id, .bool a0.Whole, .bool a0.More, .int .i64 a0.Off, .int .i64 a0.Ttl, .int .i64 a0.Proto, .int .u32 a0.Src, .int .u32 a0.Dst, .string a0.Body]]) (L := [(0, .agg #[.int .i64 a0.Tos, .int .i64 a0.Id, .bool a0.Whole, .bool a0.More, .int .i64 a0.Off, .int .i64 a0.Ttl, .int .i64 a0.Proto, .int .u32 a0.Src, .int .u32 a0.Dst, .string a0.Body])]) (N := 74) (S := Sat w Z [] [] Glob) Tryz.func41 rfl rfl (Nat.le_of_ble_eq_true rfl) rfl hS ?_
  have hM := h
  clear h hS
  unfold inet_Build.f at hM
  refine WP.less (Φ' := [] ++ Glob) (fun _ h => h) ?_
  refine WP.seq ?_
  refine WP.run [] [1, 2, 3] (fun b1 => [(1, .pointer (some ⟨b1, 0, none⟩)), (2, .string (⟨#[]⟩ : ByteArray)), (3, .int .i64 0)]) (fun b1 => [(b1, .cells #[.int .i64 a0.Tos, .int .i64 a0.Id, .bool a0.Whole, .bool a0.More, .int .i64 a0.Off, .int .i64 a0.Ttl, .int .i64 a0.Proto, .int .u32 a0.Src, .int .u32 a0.Dst, .string a0.Body] 91 (0, 0))]) (fun b1 => []) (fun b1 => by kernel_rfl) (fun b1 => ?_)
  refine WP.seq ?_
  refine WP.seq ?_
  refine WP.region ?_
  refine WL.run 1 [0, 0, 0, 0, 0, 0, 0, 0, 0, 0] [1, 2, 3, 11] (fun _ => [(1, .pointer (some ⟨b1, 0, none⟩)), (2, .string (⟨#[]⟩ : ByteArray)), (3, .int .i64 0), (11, .agg #[.int .i64 a0.Tos, .int .i64 a0.Id, .bool a0.Whole, .bool a0.More, .int .i64 a0.Off, .int .i64 a0.Ttl, .int .i64 a0.Proto, .int .u32 a0.Src, .int .u32 a0.Dst, .string a0.Body])]) (fun _ => [(b1, .cells #[.int .i64 a0.Tos, .int .i64 a0.Id, .bool a0.Whole, .bool a0.More, .int .i64 a0.Off, .int .i64 a0.Ttl, .int .i64 a0.Proto, .int .u32 a0.Src, .int .u32 a0.Dst, .string a0.Body] 91 (0, 0))]) (fun _ => [b1, b1, b1, b1, b1, b1, b1, b1, b1, b1]) (fun _ => by kernel_rfl) (fun _ => ?_)
  obtain ⟨r2, h3, hM⟩ := bind_some hM
  refine WL.callP [] [] (inet_Check_calls a0 _ h3) (fun _ h => List.mem_append_right _ h) (by kernel_rfl) (by kernel_rfl) rfl ?_
  refine WL.run 1 [] [1, 2, 3, 4] (fun _ => [(1, .pointer (some ⟨b1, 0, none⟩)), (2, .string (⟨#[]⟩ : ByteArray)), (3, .int .i64 0), (4, .int .i64 r2)]) (fun _ => [(b1, .cells #[.int .i64 a0.Tos, .int .i64 a0.Id, .bool a0.Whole, .bool a0.More, .int .i64 a0.Off, .int .i64 a0.Ttl, .int .i64 a0.Proto, .int .u32 a0.Src, .int .u32 a0.Dst, .string a0.Body] 91 (0, 0))]) (fun _ => []) (fun _ => by kernel_rfl) (fun _ => ?_)
  refine WP.done ?_
  refine WP.seq ?_
  refine WP.run [] [1, 2, 3, 4, 14] (fun _ => [(1, .pointer (some ⟨b1, 0, none⟩)), (2, .string (⟨#[]⟩ : ByteArray)), (3, .int .i64 0), (4, .int .i64 r2), (14, .bool (r2 != 0))]) (fun _ => [(b1, .cells #[.int .i64 a0.Tos, .int .i64 a0.Id, .bool a0.Whole, .bool a0.More, .int .i64 a0.Off, .int .i64 a0.Ttl, .int .i64 a0.Proto, .int .u32 a0.Src, .int .u32 a0.Dst, .string a0.Body] 91 (0, 0))]) (fun _ => []) (fun _ => by kernel_rfl) (fun _ => ?_)
  refine WP.cond (r2 != 0) rfl rfl (fun c4 => ?_) (fun c4 => ?_)
  · replace hM := cond_t hM c4
    refine WP.seq ?_
    refine WP.run [] [1, 2, 3] (fun _ => [(1, .pointer (some ⟨b1, 0, none⟩)), (2, .string (⟨#[]⟩ : ByteArray)), (3, .int .i64 r2)]) (fun _ => [(b1, .cells #[.int .i64 a0.Tos, .int .i64 a0.Id, .bool a0.Whole, .bool a0.More, .int .i64 a0.Off, .int .i64 a0.Ttl, .int .i64 a0.Proto, .int .u32 a0.Src, .int .u32 a0.Dst, .string a0.Body] 91 (0, 0))]) (fun _ => []) (fun _ => by kernel_rfl) (fun _ => ?_)
    obtain rfl := Option.some.inj hM
    exact WP.ret [] [] (.tuple #[.string (⟨#[]⟩ : ByteArray), .int .i64 r2]) (by kernel_rfl) (fun w' hw => ⟨rfl, (hw.pick [] rfl).less (fun _ h => List.mem_append_right _ h)⟩)
  · replace hM := cond_f hM c4
    refine WP.skip ?_
    refine WP.seq ?_
    refine WP.region ?_
    refine WL.run 3 [0] [1, 2, 3, 19] (fun _ => [(1, .pointer (some ⟨b1, 0, none⟩)), (2, .string (⟨#[]⟩ : ByteArray)), (3, .int .i64 0), (19, .int .u64 (u64 a0.Src))]) (fun _ => [(b1, .cells #[.int .i64 a0.Tos, .int .i64 a0.Id, .bool a0.Whole, .bool a0.More, .int .i64 a0.Off, .int .i64 a0.Ttl, .int .i64 a0.Proto, .int .u32 a0.Src, .int .u32 a0.Dst, .string a0.Body] 91 (0, 0))]) (fun _ => [b1]) (fun _ => by kernel_rfl) (fun _ => ?_)
    obtain ⟨⟨r5, r6⟩, h7, hM⟩ := bind_some hM
    dsimp only at hM
    refine WL.callP [] [] (octets_Put_calls k (u64 a0.Src) 4 _ h7) (fun _ h => List.mem_append_right _ h) (by kernel_rfl) (by kernel_rfl) rfl ?_
    refine WL.run 5 [] [1, 2, 3, 5] (fun _ => [(1, .pointer (some ⟨b1, 0, none⟩)), (2, .string (⟨#[]⟩ : ByteArray)), (3, .int .i64 0), (5, .string r5)]) (fun _ => [(b1, .cells #[.int .i64 a0.Tos, .int .i64 a0.Id, .bool a0.Whole, .bool a0.More, .int .i64 a0.Off, .int .i64 a0.Ttl, .int .i64 a0.Proto, .int .u32 a0.Src, .int .u32 a0.Dst, .string a0.Body] 91 (0, 0))]) (fun _ => []) (fun _ => by kernel_rfl) (fun _ => ?_)
    refine WP.done ?_
    refine WP.seq ?_
    refine WP.region ?_
    refine WL.run 3 [0] [1, 2, 3, 5, 26] (fun _ => [(1, .pointer (some ⟨b1, 0, none⟩)), (2, .string (⟨#[]⟩ : ByteArray)), (3, .int .i64 0), (5, .string r5), (26, .int .u64 (u64 a0.Dst))]) (fun _ => [(b1, .cells #[.int .i64 a0.Tos, .int .i64 a0.Id, .bool a0.Whole, .bool a0.More, .int .i64 a0.Off, .int .i64 a0.Ttl, .int .i64 a0.Proto, .int .u32 a0.Src, .int .u32 a0.Dst, .string a0.Body] 91 (0, 0))]) (fun _ => [b1]) (fun _ => by kernel_rfl) (fun _ => ?_)
    obtain ⟨⟨r8, r9⟩, h10, hM⟩ := bind_some hM
    dsimp only at hM
    refine WL.callP [] [] (octets_Put_calls k (u64 a0.Dst) 4 _ h10) (fun _ h => List.mem_append_right _ h) (by kernel_rfl) (by kernel_rfl) rfl ?_
    refine WL.run 5 [] [1, 2, 3, 5, 7] (fun _ => [(1, .pointer (some ⟨b1, 0, none⟩)), (2, .string (⟨#[]⟩ : ByteArray)), (3, .int .i64 0), (5, .string r5), (7, .string r8)]) (fun _ => [(b1, .cells #[.int .i64 a0.Tos, .int .i64 a0.Id, .bool a0.Whole, .bool a0.More, .int .i64 a0.Off, .int .i64 a0.Ttl, .int .i64 a0.Proto, .int .u32 a0.Src, .int .u32 a0.Dst, .string a0.Body] 91 (0, 0))]) (fun _ => []) (fun _ => by kernel_rfl) (fun _ => ?_)
    refine WP.done ?_
    refine WP.seq ?_
    obtain ⟨r13, h14, hM⟩ := bind_some hM
    obtain ⟨t15, h16, hM⟩ := bind_some hM
    obtain ⟨r17, h18, hM⟩ := bind_some hM
    obtain ⟨t19, h20, hM⟩ := bind_some hM
    obtain ⟨r21, h22, hM⟩ := bind_some hM
    obtain ⟨r23, h24, hM⟩ := bind_some hM
    obtain ⟨t25, h26, hM⟩ := bind_some hM
    refine WP.sub [1, 2, 3, 5, 7] (L' := [(1, .pointer (some ⟨b1, 0, none⟩)), (2, .string (⟨#[]⟩ : ByteArray)), (3, .int .i64 0), (5, .string r5), (7, .string r8)]) (by kernel_rfl) ?_
    refine WP.mixed (X := Unit) 27 [.val (.pointer (some ⟨b1, 0, none⟩)), .val (.int .i64 a0.Tos), .val (.int .u8 (u8 a0.Tos)), .alloc (.cells #[.int .u8 69, .int .u8 (u8 a0.Tos)] 5 (0, 0)) (fun b => .slice (some ⟨b, 0, none⟩) 2 2), .use 3 (.string (ByteArray.push (ByteArray.push ByteArray.empty (UInt8.ofNat (Int.toNat 69))) (UInt8.ofNat (Int.toNat (u8 a0.Tos))))), .val (.pointer (some ⟨b1, 9, none⟩)), .val (.string a0.Body), .val (.int .i64 (a0.Body.size : Int)), .val (.int .i64 (i64 (20 + (a0.Body.size : Int)))), .val (.string r13), .val (.string t15), .val (.pointer (some ⟨b1, 1, none⟩)), .val (.int .i64 a0.Id), .val (.string r17), .val (.string t19), .val (.agg #[.int .i64 a0.Tos, .int .i64 a0.Id, .bool a0.Whole, .bool a0.More, .int .i64 a0.Off, .int .i64 a0.Ttl, .int .i64 a0.Proto, .int .u32 a0.Src, .int .u32 a0.Dst, .string a0.Body]), .val (.int .i64 r21), .val (.string r23), .val (.string t25), .val (.pointer (some ⟨b1, 5, none⟩)), .val (.int .i64 a0.Ttl), .val (.int .u8 (u8 a0.Ttl)), .val (.pointer (some ⟨b1, 6, none⟩)), .val (.int .i64 a0.Proto), .val (.int .u8 (u8 a0.Proto)), .alloc (.cells #[.int .u8 (u8 a0.Ttl), .int .u8 (u8 a0.Proto)] 5 (0, 0)) (fun b => .slice (some ⟨b, 0, none⟩) 2 2), .use 25 (.string (ByteArray.push (ByteArray.push ByteArray.empty (UInt8.ofNat (Int.toNat (u8 a0.Ttl)))) (UInt8.ofNat (Int.toNat (u8 a0.Proto)))))] [(b1, .cells #[.int .i64 a0.Tos, .int .i64 a0.Id, .bool a0.Whole, .bool a0.More, .int .i64 a0.Off, .int .i64 a0.Ttl, .int .i64 a0.Proto, .int .u32 a0.Src, .int .u32 a0.Dst, .string a0.Body] 91 (0, 0))] [] (by kernel_rfl) (by kernel_rfl) (by kernel_rfl) (by kernel_rfl) (Heads.val (fun tt Ψ => OpV.run [] [] (by kernel_rfl) (fun _ => by kernel_rfl)) (Heads.val (fun tt Ψ => OpV.run [0] [b1] (by kernel_rfl) (fun _ => by kernel_rfl)) (Heads.val (fun tt Ψ => OpV.run [] [] (by kernel_rfl) (fun _ => by kernel_rfl)) (Heads.alloc (fun _ => by kernel_rfl) (fun _ _ => by kernel_rfl) (Heads.use 33 (fun b => .slice (some ⟨b, 0, none⟩) 2 2) (.cells #[.int .u8 69, .int .u8 (u8 a0.Tos)] 5 (0, 0)) rfl rfl (fun _ _ => OpU.run [1, 1] (fun b => [b, b]) (fun _ => by kernel_rfl) (fun _ _ => by kernel_rfl)) (Heads.val (fun tt Ψ => OpV.run [] [] (by kernel_rfl) (fun _ => by kernel_rfl)) (Heads.val (fun tt Ψ => OpV.run [0] [b1] (by kernel_rfl) (fun _ => by kernel_rfl)) (Heads.val (fun tt Ψ => OpV.run [] [] (by kernel_rfl) (fun _ => by kernel_rfl)) (Heads.val (fun tt Ψ => OpV.run [] [] (by kernel_rfl) (fun _ => by kernel_rfl)) (Heads.val (fun tt Ψ => OpV.callF [] [] (fun _ h => (List.mem_append_right _ (List.mem_append_right _ h))) (inet_word_calls k (i64 (20 + (a0.Body.size : Int))) _ h14)  (fun _ => by kernel_rfl)) (Heads.val (fun tt Ψ => OpV.val (fun _ => run_catS (a := (ByteArray.push (ByteArray.push ByteArray.empty (UInt8.ofNat (Int.toNat 69))) (UInt8.ofNat (Int.toNat (u8 a0.Tos))))) (b := r13) (by kernel_rfl) (by kernel_rfl) h16) (by kernel_rfl)) (Heads.val (fun tt Ψ => OpV.run [] [] (by kernel_rfl) (fun _ => by kernel_rfl)) (Heads.val (fun tt Ψ => OpV.run [0] [b1] (by kernel_rfl) (fun _ => by kernel_rfl)) (Heads.val (fun tt Ψ => OpV.callF [] [] (fun _ h => (List.mem_append_right _ (List.mem_append_right _ h))) (inet_word_calls k a0.Id _ h18)  (fun _ => by kernel_rfl)) (Heads.val (fun tt Ψ => OpV.val (fun _ => run_catS (a := t15) (b := r17) (by kernel_rfl) (by kernel_rfl) h20) (by kernel_rfl)) (Heads.val (fun tt Ψ => OpV.run [0, 0, 0, 0, 0, 0, 0, 0, 0, 0] [b1, b1, b1, b1, b1, b1, b1, b1, b1, b1] (by kernel_rfl) (fun _ => by kernel_rfl)) (Heads.val (fun tt Ψ => OpV.callF [] [] (fun _ h => (List.mem_append_right _ (List.mem_append_right _ h))) (inet_flags_calls a0 _ h22)  (fun _ => by kernel_rfl)) (Heads.val (fun tt Ψ => OpV.callF [] [] (fun _ h => (List.mem_append_right _ (List.mem_append_right _ h))) (inet_word_calls k r21 _ h24)  (fun _ => by kernel_rfl)) (Heads.val (fun tt Ψ => OpV.val (fun _ => run_catS (a := t19) (b := r23) (by kernel_rfl) (by kernel_rfl) h26) (by kernel_rfl)) (Heads.val (fun tt Ψ => OpV.run [] [] (by kernel_rfl) (fun _ => by kernel_rfl)) (Heads.val (fun tt Ψ => OpV.run [0] [b1] (by kernel_rfl) (fun _ => by kernel_rfl)) (Heads.val (fun tt Ψ => OpV.run [] [] (by kernel_rfl) (fun _ => by kernel_rfl)) (Heads.val (fun tt Ψ => OpV.run [] [] (by kernel_rfl) (fun _ => by kernel_rfl)) (Heads.val (fun tt Ψ => OpV.run [0] [b1] (by kernel_rfl) (fun _ => by kernel_rfl)) (Heads.val (fun tt Ψ => OpV.run [] [] (by kernel_rfl) (fun _ => by kernel_rfl)) (Heads.alloc (fun _ => by kernel_rfl) (fun _ _ => by kernel_rfl) (Heads.use 55 (fun b => .slice (some ⟨b, 0, none⟩) 2 2) (.cells #[.int .u8 (u8 a0.Ttl), .int .u8 (u8 a0.Proto)] 5 (0, 0)) rfl rfl (fun _ _ => OpU.run [1, 1] (fun b => [b, b]) (fun _ => by kernel_rfl) (fun _ _ => by kernel_rfl)) Heads.nil))))))))))))))))))))))))))) (fun s11 tt => [(30, .pointer (some ⟨b1, 0, none⟩)), (31, .int .i64 a0.Tos), (32, .int .u8 (u8 a0.Tos)), (33, .slice (some ⟨(s11 3), 0, none⟩) 2 2), (34, .string (ByteArray.push (ByteArray.push ByteArray.empty (UInt8.ofNat (Int.toNat 69))) (UInt8.ofNat (Int.toNat (u8 a0.Tos))))), (35, .pointer (some ⟨b1, 9, none⟩)), (36, .string a0.Body), (37, .int .i64 (a0.Body.size : Int)), (38, .int .i64 (i64 (20 + (a0.Body.size : Int)))), (39, .string r13), (40, .string t15), (41, .pointer (some ⟨b1, 1, none⟩)), (42, .int .i64 a0.Id), (43, .string r17), (44, .string t19), (45, .agg #[.int .i64 a0.Tos, .int .i64 a0.Id, .bool a0.Whole, .bool a0.More, .int .i64 a0.Off, .int .i64 a0.Ttl, .int .i64 a0.Proto, .int .u32 a0.Src, .int .u32 a0.Dst, .string a0.Body]), (46, .int .i64 r21), (47, .string r23), (48, .string t25), (49, .pointer (some ⟨b1, 5, none⟩)), (50, .int .i64 a0.Ttl), (51, .int .u8 (u8 a0.Ttl)), (52, .pointer (some ⟨b1, 6, none⟩)), (53, .int .i64 a0.Proto), (54, .int .u8 (u8 a0.Proto)), (55, .slice (some ⟨(s11 25), 0, none⟩) 2 2), (56, .string (ByteArray.push (ByteArray.push ByteArray.empty (UInt8.ofNat (Int.toNat (u8 a0.Ttl)))) (UInt8.ofNat (Int.toNat (u8 a0.Proto))))), (1, .pointer (some ⟨b1, 0, none⟩)), (2, .string (⟨#[]⟩ : ByteArray)), (3, .int .i64 0), (5, .string r5), (7, .string r8)]) (fun s11 tt => [(b1, .cells #[.int .i64 a0.Tos, .int .i64 a0.Id, .bool a0.Whole, .bool a0.More, .int .i64 a0.Off, .int .i64 a0.Ttl, .int .i64 a0.Proto, .int .u32 a0.Src, .int .u32 a0.Dst, .string a0.Body] 91 (0, 0)), ((s11 3), .cells #[.int .u8 69, .int .u8 (u8 a0.Tos)] 5 (0, 0)), ((s11 25), .cells #[.int .u8 (u8 a0.Ttl), .int .u8 (u8 a0.Proto)] 5 (0, 0))]) (fun tt => ([] ++ []) ++ Glob) (fun _ _ => by kernel_rfl) (fun _ _ => by kernel_rfl) (fun _ => by kernel_rfl) (fun s11 tt => ?_)
    generalize s11 3 = b12
    generalize s11 25 = b27
    obtain ⟨t28, h29, hM⟩ := bind_some hM
    refine WL.val (fun _ => run_catS (a := t25) (b := (ByteArray.push (ByteArray.push ByteArray.empty (UInt8.ofNat (Int.toNat (u8 a0.Ttl)))) (UInt8.ofNat (Int.toNat (u8 a0.Proto))))) (by kernel_rfl) (by kernel_rfl) h29) (by kernel_rfl) (by kernel_rfl) rfl ?_
    refine WL.run 1 [] [1, 2, 3, 5, 7, 9] (fun _ => [(1, .pointer (some ⟨b1, 0, none⟩)), (2, .string (⟨#[]⟩ : ByteArray)), (3, .int .i64 0), (5, .string r5), (7, .string r8), (9, .string t28)]) (fun _ => [(b1, .cells #[.int .i64 a0.Tos, .int .i64 a0.Id, .bool a0.Whole, .bool a0.More, .int .i64 a0.Off, .int .i64 a0.Ttl, .int .i64 a0.Proto, .int .u32 a0.Src, .int .u32 a0.Dst, .string a0.Body] 91 (0, 0)), (b12, .cells #[.int .u8 69, .int .u8 (u8 a0.Tos)] 5 (0, 0)), (b27, .cells #[.int .u8 (u8 a0.Ttl), .int .u8 (u8 a0.Proto)] 5 (0, 0))]) (fun _ => []) (fun _ => by kernel_rfl) (fun _ => ?_)
    refine WP.done ?_
    refine WP.keep [true, false, false] (by kernel_rfl : _ = [(b1, .cells #[.int .i64 a0.Tos, .int .i64 a0.Id, .bool a0.Whole, .bool a0.More, .int .i64 a0.Off, .int .i64 a0.Ttl, .int .i64 a0.Proto, .int .u32 a0.Src, .int .u32 a0.Dst, .string a0.Body] 91 (0, 0))]) ?_
    refine WP.seq ?_
    refine WP.region ?_
    refine WL.run 2 [] [1, 2, 3, 9, 58, 59] (fun _ => [(1, .pointer (some ⟨b1, 0, none⟩)), (2, .string (⟨#[]⟩ : ByteArray)), (3, .int .i64 0), (9, .string t28), (58, .string r5), (59, .string r8)]) (fun _ => [(b1, .cells #[.int .i64 a0.Tos, .int .i64 a0.Id, .bool a0.Whole, .bool a0.More, .int .i64 a0.Off, .int .i64 a0.Ttl, .int .i64 a0.Proto, .int .u32 a0.Src, .int .u32 a0.Dst, .string a0.Body] 91 (0, 0))]) (fun _ => []) (fun _ => by kernel_rfl) (fun _ => ?_)
    obtain ⟨t30, h31, hM⟩ := bind_some hM
    refine WL.val (fun _ => run_catS (a := r5) (b := r8) (by kernel_rfl) (by kernel_rfl) h31) (by kernel_rfl) (by kernel_rfl) rfl ?_
    refine WL.run 1 [] [1, 2, 3, 9, 10] (fun _ => [(1, .pointer (some ⟨b1, 0, none⟩)), (2, .string (⟨#[]⟩ : ByteArray)), (3, .int .i64 0), (9, .string t28), (10, .string t30)]) (fun _ => [(b1, .cells #[.int .i64 a0.Tos, .int .i64 a0.Id, .bool a0.Whole, .bool a0.More, .int .i64 a0.Off, .int .i64 a0.Ttl, .int .i64 a0.Proto, .int .u32 a0.Src, .int .u32 a0.Dst, .string a0.Body] 91 (0, 0))]) (fun _ => []) (fun _ => by kernel_rfl) (fun _ => ?_)
    refine WP.done ?_
    refine WP.seq ?_
    obtain ⟨r33, h34, hM⟩ := bind_some hM
    obtain ⟨r36, h37, hM⟩ := bind_some hM
    obtain ⟨r38, h39, hM⟩ := bind_some hM
    obtain ⟨t40, h41, hM⟩ := bind_some hM
    obtain ⟨t42, h43, hM⟩ := bind_some hM
    refine WP.sub [1, 2, 3, 9, 10] (L' := [(1, .pointer (some ⟨b1, 0, none⟩)), (2, .string (⟨#[]⟩ : ByteArray)), (3, .int .i64 0), (9, .string t28), (10, .string t30)]) (by kernel_rfl) ?_
    refine WP.mixed (X := Unit) 12 [.val (.string t28), .val (.string t28), .val (.string r33), .val (.string t30), .alloc (.cells #[.string t28, .string r33, .string t30] 9 (0, 0)) (fun b => .slice (some ⟨b, 0, none⟩) 3 3), .use 4 (.int .i64 r36), .val (.string r38), .val (.string t40), .val (.string t30), .val (.string t42), .val (.pointer (some ⟨b1, 9, none⟩)), .val (.string a0.Body)] [(b1, .cells #[.int .i64 a0.Tos, .int .i64 a0.Id, .bool a0.Whole, .bool a0.More, .int .i64 a0.Off, .int .i64 a0.Ttl, .int .i64 a0.Proto, .int .u32 a0.Src, .int .u32 a0.Dst, .string a0.Body] 91 (0, 0))] [] (by kernel_rfl) (by kernel_rfl) (by kernel_rfl) (by kernel_rfl) (Heads.val (fun tt Ψ => OpV.run [] [] (by kernel_rfl) (fun _ => by kernel_rfl)) (Heads.val (fun tt Ψ => OpV.run [] [] (by kernel_rfl) (fun _ => by kernel_rfl)) (Heads.val (fun tt Ψ => OpV.callF [] [] (fun _ h => (List.mem_append_right _ (List.mem_append_right _ h))) (inet_word_calls k 0 _ h34)  (fun _ => by kernel_rfl)) (Heads.val (fun tt Ψ => OpV.run [] [] (by kernel_rfl) (fun _ => by kernel_rfl)) (Heads.alloc (fun _ => by kernel_rfl) (fun _ _ => by kernel_rfl) (Heads.use 65 (fun b => .slice (some ⟨b, 0, none⟩) 3 3) (.cells #[.string t28, .string r33, .string t30] 9 (0, 0)) rfl rfl (fun tt Ψ => OpU.callL (fun b => Row 1 (pl encS) noK (SkL.at b 3 (fun _ => ())) ([t28, r33, t30] : List ByteArray)) [] (fun _ => []) (fun b w hb => row_of_block hb (fun _ _ => rfl) ⟨[], by kernel_rfl⟩ (Nat.le_of_ble_eq_true rfl) (InK.no _ _)) (fun b => (lent2 (lent lent0) (fun _ h => (List.mem_append_right _ (List.mem_append_right _ h))))) (fun b => (csum_Of_calls k (SkL.at b 3 (fun _ => ())) ([t28, r33, t30] : List ByteArray) _ h37)) (fun _ _ => by kernel_rfl)) (Heads.val (fun tt Ψ => OpV.callF [] [] (fun _ h => (List.mem_append_right _ (List.mem_append_right _ h))) (inet_word_calls k r36 _ h39)  (fun _ => by kernel_rfl)) (Heads.val (fun tt Ψ => OpV.val (fun _ => run_catS (a := t28) (b := r38) (by kernel_rfl) (by kernel_rfl) h41) (by kernel_rfl)) (Heads.val (fun tt Ψ => OpV.run [] [] (by kernel_rfl) (fun _ => by kernel_rfl)) (Heads.val (fun tt Ψ => OpV.val (fun _ => run_catS (a := t40) (b := t30) (by kernel_rfl) (by kernel_rfl) h43) (by kernel_rfl)) (Heads.val (fun tt Ψ => OpV.run [] [] (by kernel_rfl) (fun _ => by kernel_rfl)) (Heads.val (fun tt Ψ => OpV.run [0] [b1] (by kernel_rfl) (fun _ => by kernel_rfl)) Heads.nil)))))))))))) (fun s32 tt => [(61, .string t28), (62, .string t28), (63, .string r33), (64, .string t30), (65, .slice (some ⟨(s32 4), 0, none⟩) 3 3), (66, .int .i64 r36), (67, .string r38), (68, .string t40), (69, .string t30), (70, .string t42), (71, .pointer (some ⟨b1, 9, none⟩)), (72, .string a0.Body), (1, .pointer (some ⟨b1, 0, none⟩)), (2, .string (⟨#[]⟩ : ByteArray)), (3, .int .i64 0), (9, .string t28), (10, .string t30)]) (fun s32 tt => [(b1, .cells #[.int .i64 a0.Tos, .int .i64 a0.Id, .bool a0.Whole, .bool a0.More, .int .i64 a0.Off, .int .i64 a0.Ttl, .int .i64 a0.Proto, .int .u32 a0.Src, .int .u32 a0.Dst, .string a0.Body] 91 (0, 0)), ((s32 4), .cells #[.string t28, .string r33, .string t30] 9 (0, 0))]) (fun tt => ([] ++ []) ++ Glob) (fun _ _ => by kernel_rfl) (fun _ _ => by kernel_rfl) (fun _ => by kernel_rfl) (fun s32 tt => ?_)
    generalize s32 4 = b35
    obtain ⟨t44, h45, hM⟩ := bind_some hM
    refine WL.val (fun _ => run_catS (a := t42) (b := a0.Body) (by kernel_rfl) (by kernel_rfl) h45) (by kernel_rfl) (by kernel_rfl) rfl ?_
    refine WL.run 2 [] [2, 3] (fun _ => [(2, .string t44), (3, .int .i64 0)]) (fun _ => [(b1, .cells #[.int .i64 a0.Tos, .int .i64 a0.Id, .bool a0.Whole, .bool a0.More, .int .i64 a0.Off, .int .i64 a0.Ttl, .int .i64 a0.Proto, .int .u32 a0.Src, .int .u32 a0.Dst, .string a0.Body] 91 (0, 0)), (b35, .cells #[.string t28, .string r33, .string t30] 9 (0, 0))]) (fun _ => []) (fun _ => by kernel_rfl) (fun _ => ?_)
    refine WP.done ?_
    refine WP.keep [false, false] (by kernel_rfl : _ = []) ?_
    obtain rfl := Option.some.inj hM
    exact WP.ret [] [] (.tuple #[.string t44, .int .i64 0]) (by kernel_rfl) (fun w' hw => ⟨rfl, (hw.pick [] rfl).less (fun _ h => List.mem_append_right _ h)⟩)

end Go.Proofs.YtbodofjnfmjbpaaGreatDoor

namespace Go.Proofs.YtbodofjnfmjbpaaGreatDoor
open Go Eng
set_option linter.unusedVariables false
set_option linter.unusedSimpArgs false

/-! ### gangway/station.Make: function 20 -/
def station_Make.f (k : Nat) (a0 : Int) (a1 : Int) (a2 : api_Udp) (a3 : Int) (a4 : Int) : Option (ByteArray × Int) :=
  (udp_Build.f k a0 a1 a2).bind fun (r2, r3) =>
  bif (r3 != 0) then
    some ((⟨#[]⟩ : ByteArray), r3)
  else
    (inet_Build.f k (api_Ip.mk 0 (bAnd .i64 a3 65535) true false 0 64 17 a0 a1 r2)).bind fun (r7, r8) =>
    bif ((r8 != 0) || (decide ((r7.size : Int) > a4))) then
      some ((⟨#[]⟩ : ByteArray), 201)
    else
      some (r7, 0)

set_option maxRecDepth 100000 in
theorem station_Make_calls (k : Nat) (a0 : Int) (a1 : Int) (a2 : api_Udp) (a3 : Int) (a4 : Int) (r : ByteArray × Int) (h : station_Make.f k a0 a1 a2 a3 a4 = some r) : Pure Tryz.prog Glob 20 #[.int .u32 a0, .int .u32 a1, .agg #[.int .i64 a2.Src, .int .i64 a2.Dst, .bool a2.NoSum, .string a2.Body], .int .i64 a3, .int .i64 a4] (.tuple #[.string r.1, .int .i64 r.2]) := by
  intro w Z hS
  refine calls_of (args := [.int .u32 a0, .int .u32 a1, .agg #[.int .i64 a2.Src, .int .i64 a2.Dst, .bool a2.NoSum, .string a2.Body], .int .i64 a3, .int .i64 a4]) (L := [(0, .int .u32 a0), (1, .int .u32 a1), (2, .agg #[.int .i64 a2.Src, .int .i64 a2.Dst, .bool a2.NoSum, .string a2.Body]), (3, .int .i64 a3), (4, .int .i64 a4)]) (N := 46) (S := Sat w Z [] [] Glob) Tryz.func20 rfl rfl (Nat.le_of_ble_eq_true rfl) rfl hS ?_
  have hM := h
  clear h hS
  unfold station_Make.f at hM
  refine WP.seq ?_
  refine WP.run [] [0, 1, 3, 4, 7, 10, 11] (fun b1 => [(0, .int .u32 a0), (1, .int .u32 a1), (3, .int .i64 a3), (4, .int .i64 a4), (7, .pointer (some ⟨b1, 0, none⟩)), (10, .string (⟨#[]⟩ : ByteArray)), (11, .int .i64 0)]) (fun b1 => [(b1, .cells #[.int .i64 a2.Src, .int .i64 a2.Dst, .bool a2.NoSum, .string a2.Body] 40 (0, 0))]) (fun b1 => []) (fun b1 => by kernel_rfl) (fun b1 => ?_)
  refine WP.seq ?_
  refine WP.region ?_
  refine WL.run 3 [0, 0, 0, 0] [0, 1, 3, 4, 10, 11, 17, 18, 19] (fun _ => [(0, .int .u32 a0), (1, .int .u32 a1), (3, .int .i64 a3), (4, .int .i64 a4), (10, .string (⟨#[]⟩ : ByteArray)), (11, .int .i64 0), (17, .int .u32 a0), (18, .int .u32 a1), (19, .agg #[.int .i64 a2.Src, .int .i64 a2.Dst, .bool a2.NoSum, .string a2.Body])]) (fun _ => [(b1, .cells #[.int .i64 a2.Src, .int .i64 a2.Dst, .bool a2.NoSum, .string a2.Body] 40 (0, 0))]) (fun _ => [b1, b1, b1, b1]) (fun _ => by kernel_rfl) (fun _ => ?_)
  obtain ⟨⟨r2, r3⟩, h4, hM⟩ := bind_some hM
  dsimp only at hM
  refine WL.callP [] [] (udp_Build_calls k a0 a1 a2 _ h4) (fun _ h => h) (by kernel_rfl) (by kernel_rfl) rfl ?_
  refine WL.run 5 [] [0, 1, 3, 4, 10, 11, 12, 13] (fun _ => [(0, .int .u32 a0), (1, .int .u32 a1), (3, .int .i64 a3), (4, .int .i64 a4), (10, .string (⟨#[]⟩ : ByteArray)), (11, .int .i64 0), (12, .string r2), (13, .int .i64 r3)]) (fun _ => [(b1, .cells #[.int .i64 a2.Src, .int .i64 a2.Dst, .bool a2.NoSum, .string a2.Body] 40 (0, 0))]) (fun _ => []) (fun _ => by kernel_rfl) (fun _ => ?_)
  refine WP.done ?_
  refine WP.keep [false] (by kernel_rfl : _ = []) ?_
  refine WP.seq ?_
  refine WP.seq ?_
  refine WP.run [] [0, 1, 3, 4, 10, 11, 12, 13, 24] (fun _ => [(0, .int .u32 a0), (1, .int .u32 a1), (3, .int .i64 a3), (4, .int .i64 a4), (10, .string (⟨#[]⟩ : ByteArray)), (11, .int .i64 0), (12, .string r2), (13, .int .i64 r3), (24, .bool (r3 != 0))]) (fun _ => []) (fun _ => []) (fun _ => by kernel_rfl) (fun _ => ?_)
  refine WP.cond (r3 != 0) rfl rfl (fun c5 => ?_) (fun c5 => ?_)
  · replace hM := cond_t hM c5
    refine WP.seq ?_
    refine WP.run [] [0, 1, 3, 4, 10, 11, 12, 13] (fun _ => [(0, .int .u32 a0), (1, .int .u32 a1), (3, .int .i64 a3), (4, .int .i64 a4), (10, .string (⟨#[]⟩ : ByteArray)), (11, .int .i64 r3), (12, .string r2), (13, .int .i64 r3)]) (fun _ => []) (fun _ => []) (fun _ => by kernel_rfl) (fun _ => ?_)
    obtain rfl := Option.some.inj hM
    exact WP.ret [] [] (.tuple #[.string (⟨#[]⟩ : ByteArray), .int .i64 r3]) (by kernel_rfl) (fun w' hw => ⟨rfl, hw.pick [] rfl⟩)
  · replace hM := cond_f hM c5
    refine WP.skip ?_
    refine WP.seq ?_
    refine WP.run [0, 0, 0, 0, 0, 0, 0, 0, 0, 0] [4, 10, 11, 13, 14] (fun b6 => [(4, .int .i64 a4), (10, .string (⟨#[]⟩ : ByteArray)), (11, .int .i64 0), (13, .int .i64 r3), (14, .pointer (some ⟨b6, 0, none⟩))]) (fun b6 => [(b6, .cells #[.int .i64 0, .int .i64 (bAnd .i64 a3 65535), .bool true, .bool false, .int .i64 0, .int .i64 64, .int .i64 17, .int .u32 a0, .int .u32 a1, .string r2] 91 (0, 0))]) (fun b6 => [b6, b6, b6, b6, b6, b6, b6, b6, b6, b6]) (fun b6 => by kernel_rfl) (fun b6 => ?_)
    refine WP.seq ?_
    refine WP.region ?_
    refine WL.run 1 [0, 0, 0, 0, 0, 0, 0, 0, 0, 0] [4, 10, 11, 13, 33] (fun _ => [(4, .int .i64 a4), (10, .string (⟨#[]⟩ : ByteArray)), (11, .int .i64 0), (13, .int .i64 r3), (33, .agg #[.int .i64 0, .int .i64 (bAnd .i64 a3 65535), .bool true, .bool false, .int .i64 0, .int .i64 64, .int .i64 17, .int .u32 a0, .int .u32 a1, .string r2])]) (fun _ => [(b6, .cells #[.int .i64 0, .int .i64 (bAnd .i64 a3 65535), .bool true, .bool false, .int .i64 0, .int .i64 64, .int .i64 17, .int .u32 a0, .int .u32 a1, .string r2] 91 (0, 0))]) (fun _ => [b6, b6, b6, b6, b6, b6, b6, b6, b6, b6]) (fun _ => by kernel_rfl) (fun _ => ?_)
    obtain ⟨⟨r7, r8⟩, h9, hM⟩ := bind_some hM
    dsimp only at hM
    refine WL.callP [] [] (inet_Build_calls k (api_Ip.mk 0 (bAnd .i64 a3 65535) true false 0 64 17 a0 a1 r2) _ h9) (fun _ h => h) (by kernel_rfl) (by kernel_rfl) rfl ?_
    refine WL.run 5 [] [4, 10, 11, 13, 15] (fun _ => [(4, .int .i64 a4), (10, .string (⟨#[]⟩ : ByteArray)), (11, .int .i64 0), (13, .int .i64 r8), (15, .string r7)]) (fun _ => [(b6, .cells #[.int .i64 0, .int .i64 (bAnd .i64 a3 65535), .bool true, .bool false, .int .i64 0, .int .i64 64, .int .i64 17, .int .u32 a0, .int .u32 a1, .string r2] 91 (0, 0))]) (fun _ => []) (fun _ => by kernel_rfl) (fun _ => ?_)
    refine WP.done ?_
    refine WP.keep [false] (by kernel_rfl : _ = []) ?_
    refine WP.seq ?_
    refine WP.seq ?_
    refine WP.region ?_
    refine WL.run 3 [] [4, 10, 11, 15, 39] (fun _ => [(4, .int .i64 a4), (10, .string (⟨#[]⟩ : ByteArray)), (11, .int .i64 0), (15, .string r7), (39, .bool (r8 != 0))]) (fun _ => []) (fun _ => []) (fun _ => by kernel_rfl) (fun _ => ?_)
    refine WL.sub [4, 10, 11, 15, 39] (L' := [(4, .int .i64 a4), (10, .string (⟨#[]⟩ : ByteArray)), (11, .int .i64 0), (15, .string r7), (39, .bool (r8 != 0))]) (by kernel_rfl) ?_
    refine WL.both (fun b' => [(4, .int .i64 a4), (10, .string (⟨#[]⟩ : ByteArray)), (11, .int .i64 0), (15, .string r7), (39, .bool b')]) (r8 != 0) 5 [] [] [10, 11, 15, 44] (fun b' => [(10, .string (⟨#[]⟩ : ByteArray)), (11, .int .i64 0), (15, .string r7), (44, .bool (b' || (decide ((r7.size : Int) > a4))))]) [] [] (fun _ => by kernel_rfl) (fun _ => by kernel_rfl) ?_
    refine WP.done ?_
    refine WP.cond ((r8 != 0) || (decide ((r7.size : Int) > a4))) rfl rfl (fun c10 => ?_) (fun c10 => ?_)
    · replace hM := cond_t hM c10
      refine WP.seq ?_
      refine WP.run [] [10, 11, 15] (fun _ => [(10, .string (⟨#[]⟩ : ByteArray)), (11, .int .i64 201), (15, .string r7)]) (fun _ => []) (fun _ => []) (fun _ => by kernel_rfl) (fun _ => ?_)
      obtain rfl := Option.some.inj hM
      exact WP.ret [] [] (.tuple #[.string (⟨#[]⟩ : ByteArray), .int .i64 201]) (by kernel_rfl) (fun w' hw => ⟨rfl, hw.pick [] rfl⟩)
    · replace hM := cond_f hM c10
      refine WP.skip ?_
      refine WP.seq ?_
      refine WP.run [] [10, 11] (fun _ => [(10, .string r7), (11, .int .i64 0)]) (fun _ => []) (fun _ => []) (fun _ => by kernel_rfl) (fun _ => ?_)
      obtain rfl := Option.some.inj hM
      exact WP.ret [] [] (.tuple #[.string r7, .int .i64 0]) (by kernel_rfl) (fun w' hw => ⟨rfl, hw.pick [] rfl⟩)

end Go.Proofs.YtbodofjnfmjbpaaGreatDoor

namespace Go.Proofs.YtbodofjnfmjbpaaGreatDoor
open Go Eng
set_option linter.unusedVariables false
set_option linter.unusedSimpArgs false

/-! ### gangway/tunnel.Wrap: function 8 -/
def tunnel_Wrap.f (k : Nat) (a0 : Int) (a1 : Int) (a2 : Int) (a2_1 : Int) (a2_2 : (List Int)) (a3 : api_Frame) (a4 : Int) (a5 : Int) : Option (ByteArray × Int) :=
  (ether_Bare.f a3).bind fun r2 =>
  (ether_Build.f k r2).bind fun (r4, r5) =>
  bif (r5 != 0) then
    some ((⟨#[]⟩ : ByteArray), 220)
  else
    (vxlan_Build.f k a2_1 r4).bind fun (r8, r9) =>
    bif (r9 != 0) then
      some ((⟨#[]⟩ : ByteArray), r9)
    else
      (vxlan_Port.f k r4).bind fun r12 =>
      (station_Make.f k a0 a1 (api_Udp.mk r12 4789 true r8) a4 a5).bind fun (r15, r16) =>
      some (r15, r16)

set_option maxRecDepth 100000 in
theorem tunnel_Wrap_calls (k : Nat) (A00 : SkL Unit) (a0 : Int) (a1 : Int) (a2 : Int) (a2_1 : Int) (a2_2 : (List Int)) (a3 : api_Frame) (a4 : Int) (a5 : Int) (r : ByteArray × Int) (h : tunnel_Wrap.f k a0 a1 a2 a2_1 a2_2 a3 a4 a5 = some r) : Pure Tryz.prog ([Row 1 (pl (encI .u32)) noK A00 a2_2] ++ Glob) 8 #[.int .u32 a0, .int .u32 a1, .agg #[.int .i64 a2, .int .i64 a2_1, slcV A00 a2_2.length], .agg #[.int .u64 a3.Dst, .int .u64 a3.Src, .bool a3.Tag.Has, .int .i64 a3.Tag.Pri, .bool a3.Tag.Dei, .int .i64 a3.Tag.Vid, .int .i64 a3.Type_, .string a3.Body], .int .i64 a4, .int .i64 a5] (.tuple #[.string r.1, .int .i64 r.2]) := by
  intro w Z hS
  refine calls_of (args := [.int .u32 a0, .int .u32 a1, .agg #[.int .i64 a2, .int .i64 a2_1, slcV A00 a2_2.length], .agg #[.int .u64 a3.Dst, .int .u64 a3.Src, .bool a3.Tag.Has, .int .i64 a3.Tag.Pri, .bool a3.Tag.Dei, .int .i64 a3.Tag.Vid, .int .i64 a3.Type_, .string a3.Body], .int .i64 a4, .int .i64 a5]) (L := [(0, .int .u32 a0), (1, .int .u32 a1), (2, .agg #[.int .i64 a2, .int .i64 a2_1, slcV A00 a2_2.length]), (3, .agg #[.int .u64 a3.Dst, .int .u64 a3.Src, .bool a3.Tag.Has, .int .i64 a3.Tag.Pri, .bool a3.Tag.Dei, .int .i64 a3.Tag.Vid, .int .i64 a3.Type_, .string a3.Body]), (4, .int .i64 a4), (5, .int .i64 a5)]) (N := 48) (S := Sat w Z [] [] ([Row 1 (pl (encI .u32)) noK A00 a2_2] ++ Glob)) Tryz.func8 rfl rfl (Nat.le_of_ble_eq_true rfl) rfl hS ?_
  have hM := h
  clear h hS
  unfold tunnel_Wrap.f at hM
  refine WP.seq ?_
  refine WP.run [] [0, 1, 4, 5, 8, 9, 12, 13] (fun b1 => [(0, .int .u32 a0), (1, .int .u32 a1), (4, .int .i64 a4), (5, .int .i64 a5), (8, .pointer (some ⟨b1, 0, none⟩)), (9, .pointer (some ⟨(b1 + 1), 0, none⟩)), (12, .string (⟨#[]⟩ : ByteArray)), (13, .int .i64 0)]) (fun b1 => [(b1, .cells #[.int .i64 a2, .int .i64 a2_1, slcV A00 a2_2.length] 35 (0, 0)), ((b1 + 1), .cells #[.int .u64 a3.Dst, .int .u64 a3.Src, .bool a3.Tag.Has, .int .i64 a3.Tag.Pri, .bool a3.Tag.Dei, .int .i64 a3.Tag.Vid, .int .i64 a3.Type_, .string a3.Body] 29 (0, 0))]) (fun b1 => []) (fun b1 => by kernel_rfl) (fun b1 => ?_)
  refine WP.seq ?_
  refine WP.region ?_
  refine WL.run 1 [1, 1, 1, 1, 1, 1, 1, 1] [0, 1, 4, 5, 8, 12, 13, 19] (fun _ => [(0, .int .u32 a0), (1, .int .u32 a1), (4, .int .i64 a4), (5, .int .i64 a5), (8, .pointer (some ⟨b1, 0, none⟩)), (12, .string (⟨#[]⟩ : ByteArray)), (13, .int .i64 0), (19, .agg #[.int .u64 a3.Dst, .int .u64 a3.Src, .bool a3.Tag.Has, .int .i64 a3.Tag.Pri, .bool a3.Tag.Dei, .int .i64 a3.Tag.Vid, .int .i64 a3.Type_, .string a3.Body])]) (fun _ => [(b1, .cells #[.int .i64 a2, .int .i64 a2_1, slcV A00 a2_2.length] 35 (0, 0)), ((b1 + 1), .cells #[.int .u64 a3.Dst, .int .u64 a3.Src, .bool a3.Tag.Has, .int .i64 a3.Tag.Pri, .bool a3.Tag.Dei, .int .i64 a3.Tag.Vid, .int .i64 a3.Type_, .string a3.Body] 29 (0, 0))]) (fun _ => [(b1 + 1), (b1 + 1), (b1 + 1), (b1 + 1), (b1 + 1), (b1 + 1), (b1 + 1), (b1 + 1)]) (fun _ => by kernel_rfl) (fun _ => ?_)
  obtain ⟨r2, h3, hM⟩ := bind_some hM
  refine WL.callP [] [] (ether_Bare_calls a3 _ h3) (fun _ h => List.mem_append_right _ h) (by kernel_rfl) (by kernel_rfl) rfl ?_
  obtain ⟨⟨r4, r5⟩, h6, hM⟩ := bind_some hM
  dsimp only at hM
  refine WL.callP [] [] (ether_Build_calls k r2 _ h6) (fun _ h => List.mem_append_right _ h) (by kernel_rfl) (by kernel_rfl) rfl ?_
  refine WL.run 5 [] [0, 1, 4, 5, 8, 12, 13, 14, 15] (fun _ => [(0, .int .u32 a0), (1, .int .u32 a1), (4, .int .i64 a4), (5, .int .i64 a5), (8, .pointer (some ⟨b1, 0, none⟩)), (12, .string (⟨#[]⟩ : ByteArray)), (13, .int .i64 0), (14, .string r4), (15, .int .i64 r5)]) (fun _ => [(b1, .cells #[.int .i64 a2, .int .i64 a2_1, slcV A00 a2_2.length] 35 (0, 0)), ((b1 + 1), .cells #[.int .u64 a3.Dst, .int .u64 a3.Src, .bool a3.Tag.Has, .int .i64 a3.Tag.Pri, .bool a3.Tag.Dei, .int .i64 a3.Tag.Vid, .int .i64 a3.Type_, .string a3.Body] 29 (0, 0))]) (fun _ => []) (fun _ => by kernel_rfl) (fun _ => ?_)
  refine WP.done ?_
  refine WP.keep [true, false] (by kernel_rfl : _ = [(b1, .cells #[.int .i64 a2, .int .i64 a2_1, slcV A00 a2_2.length] 35 (0, 0))]) ?_
  refine WP.seq ?_
  refine WP.seq ?_
  refine WP.run [] [0, 1, 4, 5, 8, 12, 13, 14, 15, 25] (fun _ => [(0, .int .u32 a0), (1, .int .u32 a1), (4, .int .i64 a4), (5, .int .i64 a5), (8, .pointer (some ⟨b1, 0, none⟩)), (12, .string (⟨#[]⟩ : ByteArray)), (13, .int .i64 0), (14, .string r4), (15, .int .i64 r5), (25, .bool (r5 != 0))]) (fun _ => [(b1, .cells #[.int .i64 a2, .int .i64 a2_1, slcV A00 a2_2.length] 35 (0, 0))]) (fun _ => []) (fun _ => by kernel_rfl) (fun _ => ?_)
  refine WP.cond (r5 != 0) rfl rfl (fun c7 => ?_) (fun c7 => ?_)
  · replace hM := cond_t hM c7
    refine WP.seq ?_
    refine WP.run [] [0, 1, 4, 5, 8, 12, 13, 14, 15] (fun _ => [(0, .int .u32 a0), (1, .int .u32 a1), (4, .int .i64 a4), (5, .int .i64 a5), (8, .pointer (some ⟨b1, 0, none⟩)), (12, .string (⟨#[]⟩ : ByteArray)), (13, .int .i64 220), (14, .string r4), (15, .int .i64 r5)]) (fun _ => [(b1, .cells #[.int .i64 a2, .int .i64 a2_1, slcV A00 a2_2.length] 35 (0, 0))]) (fun _ => []) (fun _ => by kernel_rfl) (fun _ => ?_)
    obtain rfl := Option.some.inj hM
    exact WP.ret [] [] (.tuple #[.string (⟨#[]⟩ : ByteArray), .int .i64 220]) (by kernel_rfl) (fun w' hw => ⟨rfl, (hw.pick [] rfl).lessF [0] (by kernel_rfl)⟩)
  · replace hM := cond_f hM c7
    refine WP.skip ?_
    refine WP.seq ?_
    refine WP.region ?_
    refine WL.run 3 [0] [0, 1, 4, 5, 12, 13, 14, 15, 28, 29] (fun _ => [(0, .int .u32 a0), (1, .int .u32 a1), (4, .int .i64 a4), (5, .int .i64 a5), (12, .string (⟨#[]⟩ : ByteArray)), (13, .int .i64 0), (14, .string r4), (15, .int .i64 r5), (28, .int .i64 a2_1), (29, .string r4)]) (fun _ => [(b1, .cells #[.int .i64 a2, .int .i64 a2_1, slcV A00 a2_2.length] 35 (0, 0))]) (fun _ => [b1]) (fun _ => by kernel_rfl) (fun _ => ?_)
    obtain ⟨⟨r8, r9⟩, h10, hM⟩ := bind_some hM
    dsimp only at hM
    refine WL.callP [] [] (vxlan_Build_calls k a2_1 r4 _ h10) (fun _ h => List.mem_append_right _ h) (by kernel_rfl) (by kernel_rfl) rfl ?_
    refine WL.run 5 [] [0, 1, 4, 5, 12, 13, 14, 15, 16] (fun _ => [(0, .int .u32 a0), (1, .int .u32 a1), (4, .int .i64 a4), (5, .int .i64 a5), (12, .string (⟨#[]⟩ : ByteArray)), (13, .int .i64 0), (14, .string r4), (15, .int .i64 r9), (16, .string r8)]) (fun _ => [(b1, .cells #[.int .i64 a2, .int .i64 a2_1, slcV A00 a2_2.length] 35 (0, 0))]) (fun _ => []) (fun _ => by kernel_rfl) (fun _ => ?_)
    refine WP.done ?_
    refine WP.keep [false] (by kernel_rfl : _ = []) ?_
    refine WP.seq ?_
    refine WP.seq ?_
    refine WP.run [] [0, 1, 4, 5, 12, 13, 14, 15, 16, 34] (fun _ => [(0, .int .u32 a0), (1, .int .u32 a1), (4, .int .i64 a4), (5, .int .i64 a5), (12, .string (⟨#[]⟩ : ByteArray)), (13, .int .i64 0), (14, .string r4), (15, .int .i64 r9), (16, .string r8), (34, .bool (r9 != 0))]) (fun _ => []) (fun _ => []) (fun _ => by kernel_rfl) (fun _ => ?_)
    refine WP.cond (r9 != 0) rfl rfl (fun c11 => ?_) (fun c11 => ?_)
    · replace hM := cond_t hM c11
      refine WP.seq ?_
      refine WP.run [] [0, 1, 4, 5, 12, 13, 14, 16] (fun _ => [(0, .int .u32 a0), (1, .int .u32 a1), (4, .int .i64 a4), (5, .int .i64 a5), (12, .string (⟨#[]⟩ : ByteArray)), (13, .int .i64 r9), (14, .string r4), (16, .string r8)]) (fun _ => []) (fun _ => []) (fun _ => by kernel_rfl) (fun _ => ?_)
      obtain rfl := Option.some.inj hM
      exact WP.ret [] [] (.tuple #[.string (⟨#[]⟩ : ByteArray), .int .i64 r9]) (by kernel_rfl) (fun w' hw => ⟨rfl, (hw.pick [] rfl).lessF [0] (by kernel_rfl)⟩)
    · replace hM := cond_f hM c11
      refine WP.skip ?_
      refine WP.seq ?_
      refine WP.region ?_
      refine WL.run 1 [] [0, 1, 4, 5, 12, 13, 16, 36] (fun _ => [(0, .int .u32 a0), (1, .int .u32 a1), (4, .int .i64 a4), (5, .int .i64 a5), (12, .string (⟨#[]⟩ : ByteArray)), (13, .int .i64 0), (16, .string r8), (36, .string r4)]) (fun _ => []) (fun _ => []) (fun _ => by kernel_rfl) (fun _ => ?_)
      obtain ⟨r12, h13, hM⟩ := bind_some hM
      refine WL.callP [] [] (vxlan_Port_calls k r4 _ h13) (fun _ h => List.mem_append_right _ h) (by kernel_rfl) (by kernel_rfl) rfl ?_
      refine WL.run 4 [0, 0, 0, 0] [0, 1, 4, 5, 12, 13, 17] (fun b14 => [(0, .int .u32 a0), (1, .int .u32 a1), (4, .int .i64 a4), (5, .int .i64 a5), (12, .string (⟨#[]⟩ : ByteArray)), (13, .int .i64 0), (17, .pointer (some ⟨b14, 0, none⟩))]) (fun b14 => [(b14, .cells #[.int .i64 r12, .int .i64 4789, .bool true, .string r8] 40 (0, 0))]) (fun b14 => [b14, b14, b14, b14]) (fun b14 => by kernel_rfl) (fun b14 => ?_)
      refine WP.done ?_
      refine WP.seq ?_
      refine WP.region ?_
      refine WL.run 5 [0, 0, 0, 0] [12, 13, 40, 41, 42, 43, 44] (fun _ => [(12, .string (⟨#[]⟩ : ByteArray)), (13, .int .i64 0), (40, .int .u32 a0), (41, .int .u32 a1), (42, .agg #[.int .i64 r12, .int .i64 4789, .bool true, .string r8]), (43, .int .i64 a4), (44, .int .i64 a5)]) (fun _ => [(b14, .cells #[.int .i64 r12, .int .i64 4789, .bool true, .string r8] 40 (0, 0))]) (fun _ => [b14, b14, b14, b14]) (fun _ => by kernel_rfl) (fun _ => ?_)
      obtain ⟨⟨r15, r16⟩, h17, hM⟩ := bind_some hM
      dsimp only at hM
      refine WL.callP [] [] (station_Make_calls k a0 a1 (api_Udp.mk r12 4789 true r8) a4 a5 _ h17) (fun _ h => List.mem_append_right _ h) (by kernel_rfl) (by kernel_rfl) rfl ?_
      refine WL.run 4 [] [12, 13] (fun _ => [(12, .string r15), (13, .int .i64 r16)]) (fun _ => [(b14, .cells #[.int .i64 r12, .int .i64 4789, .bool true, .string r8] 40 (0, 0))]) (fun _ => []) (fun _ => by kernel_rfl) (fun _ => ?_)
      refine WP.done ?_
      refine WP.keep [false] (by kernel_rfl : _ = []) ?_
      obtain rfl := Option.some.inj hM
      exact WP.ret [] [] (.tuple #[.string r15, .int .i64 r16]) (by kernel_rfl) (fun w' hw => ⟨rfl, (hw.pick [] rfl).lessF [0] (by kernel_rfl)⟩)

end Go.Proofs.YtbodofjnfmjbpaaGreatDoor

namespace Go.Proofs.YtbodofjnfmjbpaaGreatDoor
open Go Eng
set_option linter.unusedVariables false
set_option linter.unusedSimpArgs false

/-! ### gangway/station.not: function 54 -/
def station_not.f (a0 : ByteArray) (a1 : Int) : Option ((ByteArray × station_why)) :=
  some (a0, (station_why.mk a1))

set_option maxRecDepth 100000 in
theorem station_not_calls (a0 : ByteArray) (a1 : Int) (r : (ByteArray × station_why)) (h : station_not.f a0 a1 = some r) : Pure Tryz.prog Glob 54 #[.string a0, .int .i64 a1] (.iface 138 (.agg #[.string r.1, .iface 80 (.agg #[.int .i64 r.2.n])])) := by
  intro w Z hS
  refine calls_of (args := [.string a0, .int .i64 a1]) (L := [(0, .string a0), (1, .int .i64 a1)]) (N := 11) (S := Sat w Z [] [] Glob) Tryz.func54 rfl rfl (Nat.le_of_ble_eq_true rfl) rfl hS ?_
  have hM := h
  clear h hS
  unfold station_not.f at hM
  refine WP.seq ?_
  refine WP.run [] [0, 1, 4] (fun _ => [(0, .string a0), (1, .int .i64 a1), (4, .nilIface)]) (fun _ => []) (fun _ => []) (fun _ => by kernel_rfl) (fun _ => ?_)
  refine WP.seq ?_
  refine WP.run [] [4] (fun _ => [(4, .iface 138 (.agg #[.string a0, .iface 80 (.agg #[.int .i64 a1])]))]) (fun _ => []) (fun _ => []) (fun _ => by kernel_rfl) (fun _ => ?_)
  obtain rfl := Option.some.inj hM
  exact WP.ret [] [] (.iface 138 (.agg #[.string a0, .iface 80 (.agg #[.int .i64 a1])])) (by kernel_rfl) (fun w' hw => ⟨rfl, hw.pick [] rfl⟩)

end Go.Proofs.YtbodofjnfmjbpaaGreatDoor

namespace Go.Proofs.YtbodofjnfmjbpaaGreatDoor
open Go Eng
set_option linter.unusedVariables false
set_option linter.unusedSimpArgs false

/-! ### gangway/addrs.Group: function 85 -/
def addrs_Group.f (a0 : Int) : Option (Bool) :=
  some ((bAnd .u64 a0 1099511627776) != 0)

set_option maxRecDepth 100000 in
theorem addrs_Group_calls (a0 : Int) (r : Bool) (h : addrs_Group.f a0 = some r) : Pure Tryz.prog Glob 85 #[.int .u64 a0] (.bool r) := by
  intro w Z hS
  refine calls_of (args := [.int .u64 a0]) (L := [(0, .int .u64 a0)]) (N := 6) (S := Sat w Z [] [] Glob) Tryz.func85 rfl rfl (Nat.le_of_ble_eq_true rfl) rfl hS ?_
  have hM := h
  clear h hS
  unfold addrs_Group.f at hM
  refine WP.seq ?_
  refine WP.run [] [0, 2] (fun _ => [(0, .int .u64 a0), (2, .bool false)]) (fun _ => []) (fun _ => []) (fun _ => by kernel_rfl) (fun _ => ?_)
  refine WP.seq ?_
  refine WP.run [] [2] (fun _ => [(2, .bool ((bAnd .u64 a0 1099511627776) != 0))]) (fun _ => []) (fun _ => []) (fun _ => by kernel_rfl) (fun _ => ?_)
  obtain rfl := Option.some.inj hM
  exact WP.ret [] [] (.bool ((bAnd .u64 a0 1099511627776) != 0)) (by kernel_rfl) (fun w' hw => ⟨rfl, hw.pick [] rfl⟩)

end Go.Proofs.YtbodofjnfmjbpaaGreatDoor

namespace Go.Proofs.YtbodofjnfmjbpaaGreatDoor
open Go Eng
set_option linter.unusedVariables false
set_option linter.unusedSimpArgs false

/-! ### gangway/addrs.Own: function 55 -/
def addrs_Own.k1 (x4 : Bool) : Option (Bool) :=
  some x4

def addrs_Own.f (a0 : Int) : Option (Bool) :=
  bif ((a0 != 0) && (decide (a0 < 281474976710656))) then
    (addrs_Group.f a0).bind fun r2 =>
    addrs_Own.k1 (!r2)
  else
    addrs_Own.k1 false

set_option maxRecDepth 100000 in
theorem addrs_Own_calls (a0 : Int) (r : Bool) (h : addrs_Own.f a0 = some r) : Pure Tryz.prog Glob 55 #[.int .u64 a0] (.bool r) := by
  intro w Z hS
  refine calls_of (args := [.int .u64 a0]) (L := [(0, .int .u64 a0)]) (N := 14) (S := Sat w Z [] [] Glob) Tryz.func55 rfl rfl (Nat.le_of_ble_eq_true rfl) rfl hS ?_
  have hM := h
  clear h hS
  unfold addrs_Own.f at hM
  refine WP.seq ?_
  refine WP.run [] [0, 2] (fun _ => [(0, .int .u64 a0), (2, .bool false)]) (fun _ => []) (fun _ => []) (fun _ => by kernel_rfl) (fun _ => ?_)
  refine WP.seq ?_
  refine WP.region ?_
  refine WL.run 3 [] [0, 2, 5] (fun _ => [(0, .int .u64 a0), (2, .bool false), (5, .bool (a0 != 0))]) (fun _ => []) (fun _ => []) (fun _ => by kernel_rfl) (fun _ => ?_)
  refine WL.sub [0, 2, 5] (L' := [(0, .int .u64 a0), (2, .bool false), (5, .bool (a0 != 0))]) (by kernel_rfl) ?_
  refine WL.both (fun b' => [(0, .int .u64 a0), (2, .bool false), (5, .bool b')]) (a0 != 0) 3 [] [] [0, 2, 8] (fun b' => [(0, .int .u64 a0), (2, .bool false), (8, .bool (b' && (decide (a0 < 281474976710656))))]) [] [] (fun _ => by kernel_rfl) (fun _ => by kernel_rfl) ?_
  refine WL.run 1 [] [0, 2, 9] (fun _ => [(0, .int .u64 a0), (2, .bool false), (9, .bool ((a0 != 0) && (decide (a0 < 281474976710656))))]) (fun _ => []) (fun _ => []) (fun _ => by kernel_rfl) (fun _ => ?_)
  refine WL.sub [0, 2, 9] (L' := [(0, .int .u64 a0), (2, .bool false), (9, .bool ((a0 != 0) && (decide (a0 < 281474976710656))))]) (by kernel_rfl) ?_
  refine WL.join (σ := Bool) 4 (fun st => addrs_Own.k1 st = some r) (fun st => [(2, .bool false), (13, .bool st)]) (fun st => Sat w Z [] [] Glob) (fun st hM => ?_) (fun K1 => ?_)
  ·
    obtain ⟨x4, rfl⟩ : ∃ y, y = st := ⟨st, rfl⟩
    replace hM : addrs_Own.k1 x4 = some r := hM
    unfold addrs_Own.k1 at hM
    show WL _ _ _ _ _ [(2, .bool false), (13, .bool x4)] (Sat w Z [] [] Glob)
    refine WL.run 1 [] [2] (fun _ => [(2, .bool x4)]) (fun _ => []) (fun _ => []) (fun _ => by kernel_rfl) (fun _ => ?_)
    refine WP.done ?_
    obtain rfl := Option.some.inj hM
    exact WP.ret [] [] (.bool x4) (by kernel_rfl) (fun w' hw => ⟨rfl, hw.pick [] rfl⟩)
  ·
    refine WL.split (fun b' => [(0, .int .u64 a0), (2, .bool false), (9, .bool b')]) ((a0 != 0) && (decide (a0 < 281474976710656))) (fun c1 => ?_) (fun c1 => ?_)
    · replace hM := cond_t hM c1
      refine WL.run 1 [] [2, 9, 10] (fun _ => [(2, .bool false), (9, .bool true), (10, .int .u64 a0)]) (fun _ => []) (fun _ => []) (fun _ => by kernel_rfl) (fun _ => ?_)
      obtain ⟨r2, h3, hM⟩ := bind_some hM
      refine WL.callP [] [] (addrs_Group_calls a0 _ h3) (fun _ h => h) (by kernel_rfl) (by kernel_rfl) rfl ?_
      refine WL.run 2 [] [2, 13] (fun _ => [(2, .bool false), (13, .bool (!r2))]) (fun _ => []) (fun _ => []) (fun _ => by kernel_rfl) (fun _ => ?_)
      exact WL.sub [2, 13] (by kernel_rfl) (WL.pick [] (by kernel_rfl) (by kernel_rfl) (K1 (!r2) hM))
    · replace hM := cond_f hM c1
      refine WL.run 4 [] [2, 13] (fun _ => [(2, .bool false), (13, .bool false)]) (fun _ => []) (fun _ => []) (fun _ => by kernel_rfl) (fun _ => ?_)
      exact WL.sub [2, 13] (by kernel_rfl) (WL.pick [] (by kernel_rfl) (by kernel_rfl) (K1 false hM))

end Go.Proofs.YtbodofjnfmjbpaaGreatDoor

namespace Go.Proofs.YtbodofjnfmjbpaaGreatDoor
open Go Eng
set_option linter.unusedVariables false
set_option linter.unusedSimpArgs false

/-! ### gangway/station.framed: function 31 -/
def station_framed.k1 (x10 : Bool) : Option (Un2) :=
  bif x10 then
    (station_not.f (⟨#[102, 114, 97, 109, 101]⟩ : ByteArray) 3).bind fun r12 =>
    some (some (r12.1, r12.2))
  else
    some none

def station_framed.k2 (a1 : api_Frame) (x8 : Bool) : Option (Un2) :=
  bif x8 then
    station_framed.k1 true
  else
    station_framed.k1 ((a1.Type_ != 2048) && (a1.Type_ != 2054))

def station_framed.f (a0 : Int) (a1 : api_Frame) : Option (Un2) :=
  bif ((a1.Dst != a0) && (a1.Dst != 281474976710655)) then
    (station_not.f (⟨#[102, 114, 97, 109, 101]⟩ : ByteArray) 2).bind fun r3 =>
    some (some (r3.1, r3.2))
  else
    bif a1.Tag.Has then
      station_framed.k2 a1 true
    else
      (addrs_Own.f a1.Src).bind fun r6 =>
      station_framed.k2 a1 (!r6)

set_option maxRecDepth 100000 in
theorem station_framed_calls (a0 : Int) (a1 : api_Frame) (r : Un2) (h : station_framed.f a0 a1 = some r) : Pure Tryz.prog Glob 31 #[.int .u64 a0, .agg #[.int .u64 a1.Dst, .int .u64 a1.Src, .bool a1.Tag.Has, .int .i64 a1.Tag.Pri, .bool a1.Tag.Dei, .int .i64 a1.Tag.Vid, .int .i64 a1.Type_, .string a1.Body]] (Un2.v r) := by
  intro w Z hS
  refine calls_of (args := [.int .u64 a0, .agg #[.int .u64 a1.Dst, .int .u64 a1.Src, .bool a1.Tag.Has, .int .i64 a1.Tag.Pri, .bool a1.Tag.Dei, .int .i64 a1.Tag.Vid, .int .i64 a1.Type_, .string a1.Body]]) (L := [(0, .int .u64 a0), (1, .agg #[.int .u64 a1.Dst, .int .u64 a1.Src, .bool a1.Tag.Has, .int .i64 a1.Tag.Pri, .bool a1.Tag.Dei, .int .i64 a1.Tag.Vid, .int .i64 a1.Type_, .string a1.Body])]) (N := 37) (S := Sat w Z [] [] Glob) Tryz.func31 rfl rfl (Nat.le_of_ble_eq_true rfl) rfl hS ?_
  have hM := h
  clear h hS
  unfold station_framed.f at hM
  refine WP.seq ?_
  refine WP.run [] [0, 3, 4] (fun b1 => [(0, .int .u64 a0), (3, .pointer (some ⟨b1, 0, none⟩)), (4, .nilIface)]) (fun b1 => [(b1, .cells #[.int .u64 a1.Dst, .int .u64 a1.Src, .bool a1.Tag.Has, .int .i64 a1.Tag.Pri, .bool a1.Tag.Dei, .int .i64 a1.Tag.Vid, .int .i64 a1.Type_, .string a1.Body] 29 (0, 0))]) (fun b1 => []) (fun b1 => by kernel_rfl) (fun b1 => ?_)
  refine WP.seq ?_
  refine WP.block ?_
  refine WP.seq ?_
  refine WP.region ?_
  refine WL.run 5 [0] [3, 4, 10] (fun _ => [(3, .pointer (some ⟨b1, 0, none⟩)), (4, .nilIface), (10, .bool (a1.Dst != a0))]) (fun _ => [(b1, .cells #[.int .u64 a1.Dst, .int .u64 a1.Src, .bool a1.Tag.Has, .int .i64 a1.Tag.Pri, .bool a1.Tag.Dei, .int .i64 a1.Tag.Vid, .int .i64 a1.Type_, .string a1.Body] 29 (0, 0))]) (fun _ => [b1]) (fun _ => by kernel_rfl) (fun _ => ?_)
  refine WL.sub [3, 4, 10] (L' := [(3, .pointer (some ⟨b1, 0, none⟩)), (4, .nilIface), (10, .bool (a1.Dst != a0))]) (by kernel_rfl) ?_
  refine WL.both (fun b' => [(3, .pointer (some ⟨b1, 0, none⟩)), (4, .nilIface), (10, .bool b')]) (a1.Dst != a0) 4 [0] [] [3, 4, 14] (fun b' => [(3, .pointer (some ⟨b1, 0, none⟩)), (4, .nilIface), (14, .bool (b' && (a1.Dst != 281474976710655)))]) [b1] [] (fun _ => by kernel_rfl) (fun _ => by kernel_rfl) ?_
  refine WL.run 1 [] [3, 4, 5] (fun _ => [(3, .pointer (some ⟨b1, 0, none⟩)), (4, .nilIface), (5, .bool ((a1.Dst != a0) && (a1.Dst != 281474976710655)))]) (fun _ => [(b1, .cells #[.int .u64 a1.Dst, .int .u64 a1.Src, .bool a1.Tag.Has, .int .i64 a1.Tag.Pri, .bool a1.Tag.Dei, .int .i64 a1.Tag.Vid, .int .i64 a1.Type_, .string a1.Body] 29 (0, 0))]) (fun _ => []) (fun _ => by kernel_rfl) (fun _ => ?_)
  refine WP.done ?_
  refine WP.cond ((a1.Dst != a0) && (a1.Dst != 281474976710655)) rfl rfl (fun c2 => ?_) (fun c2 => ?_)
  · replace hM := cond_t hM c2
    refine WP.seq ?_
    refine WP.region ?_
    obtain ⟨r3, h4, hM⟩ := bind_some hM
    refine WL.callP [] [] (station_not_calls (⟨#[102, 114, 97, 109, 101]⟩ : ByteArray) 2 _ h4) (fun _ h => h) (by kernel_rfl) (by kernel_rfl) rfl ?_
    refine WL.run 1 [] [4] (fun _ => [(4, .iface 138 (.agg #[.string r3.1, .iface 80 (.agg #[.int .i64 r3.2.n])]))]) (fun _ => [(b1, .cells #[.int .u64 a1.Dst, .int .u64 a1.Src, .bool a1.Tag.Has, .int .i64 a1.Tag.Pri, .bool a1.Tag.Dei, .int .i64 a1.Tag.Vid, .int .i64 a1.Type_, .string a1.Body] 29 (0, 0))]) (fun _ => []) (fun _ => by kernel_rfl) (fun _ => ?_)
    refine WP.done ?_
    refine WP.keep [false] (by kernel_rfl : _ = []) ?_
    obtain rfl := Option.some.inj hM
    exact WP.ret [] [] (.iface 138 (.agg #[.string r3.1, .iface 80 (.agg #[.int .i64 r3.2.n])])) (by kernel_rfl) (fun w' hw => ⟨rfl, hw.pick [] rfl⟩)
  · replace hM := cond_f hM c2
    refine WP.seq ?_
    refine WP.region ?_
    refine WL.run 4 [0] [3, 4, 20] (fun _ => [(3, .pointer (some ⟨b1, 0, none⟩)), (4, .nilIface), (20, .bool a1.Tag.Has)]) (fun _ => [(b1, .cells #[.int .u64 a1.Dst, .int .u64 a1.Src, .bool a1.Tag.Has, .int .i64 a1.Tag.Pri, .bool a1.Tag.Dei, .int .i64 a1.Tag.Vid, .int .i64 a1.Type_, .string a1.Body] 29 (0, 0))]) (fun _ => [b1]) (fun _ => by kernel_rfl) (fun _ => ?_)
    refine WL.sub [3, 4, 20] (L' := [(3, .pointer (some ⟨b1, 0, none⟩)), (4, .nilIface), (20, .bool a1.Tag.Has)]) (by kernel_rfl) ?_
    refine WL.join (σ := Bool) 5 (fun st => station_framed.k2 a1 st = some r) (fun st => [(3, .pointer (some ⟨b1, 0, none⟩)), (4, .nilIface), (25, .bool st)]) (fun st => Sat w Z [(b1, .cells #[.int .u64 a1.Dst, .int .u64 a1.Src, .bool a1.Tag.Has, .int .i64 a1.Tag.Pri, .bool a1.Tag.Dei, .int .i64 a1.Tag.Vid, .int .i64 a1.Type_, .string a1.Body] 29 (0, 0))] [] Glob) (fun st hM => ?_) (fun K2 => ?_)
    ·
      obtain ⟨x8, rfl⟩ : ∃ y, y = st := ⟨st, rfl⟩
      replace hM : station_framed.k2 a1 x8 = some r := hM
      unfold station_framed.k2 at hM
      show WL _ _ _ _ _ [(3, .pointer (some ⟨b1, 0, none⟩)), (4, .nilIface), (25, .bool x8)] (Sat w Z [(b1, .cells #[.int .u64 a1.Dst, .int .u64 a1.Src, .bool a1.Tag.Has, .int .i64 a1.Tag.Pri, .bool a1.Tag.Dei, .int .i64 a1.Tag.Vid, .int .i64 a1.Type_, .string a1.Body] 29 (0, 0))] [] Glob)
      refine WL.run 1 [] [3, 4, 26] (fun _ => [(3, .pointer (some ⟨b1, 0, none⟩)), (4, .nilIface), (26, .bool x8)]) (fun _ => [(b1, .cells #[.int .u64 a1.Dst, .int .u64 a1.Src, .bool a1.Tag.Has, .int .i64 a1.Tag.Pri, .bool a1.Tag.Dei, .int .i64 a1.Tag.Vid, .int .i64 a1.Type_, .string a1.Body] 29 (0, 0))]) (fun _ => []) (fun _ => by kernel_rfl) (fun _ => ?_)
      refine WL.sub [3, 4, 26] (L' := [(3, .pointer (some ⟨b1, 0, none⟩)), (4, .nilIface), (26, .bool x8)]) (by kernel_rfl) ?_
      refine WL.join (σ := Bool) 9 (fun st => station_framed.k1 st = some r) (fun st => [(4, .nilIface), (35, .bool st)]) (fun st => Sat w Z [] [] Glob) (fun st hM => ?_) (fun K1 => ?_)
      ·
        obtain ⟨x10, rfl⟩ : ∃ y, y = st := ⟨st, rfl⟩
        replace hM : station_framed.k1 x10 = some r := hM
        unfold station_framed.k1 at hM
        show WL _ _ _ _ _ [(4, .nilIface), (35, .bool x10)] (Sat w Z [] [] Glob)
        refine WL.run 1 [] [4, 16] (fun _ => [(4, .nilIface), (16, .bool x10)]) (fun _ => []) (fun _ => []) (fun _ => by kernel_rfl) (fun _ => ?_)
        refine WP.done ?_
        refine WP.cond x10 rfl rfl (fun c11 => ?_) (fun c11 => ?_)
        · replace hM := cond_t hM c11
          refine WP.seq ?_
          refine WP.region ?_
          obtain ⟨r12, h13, hM⟩ := bind_some hM
          refine WL.callP [] [] (station_not_calls (⟨#[102, 114, 97, 109, 101]⟩ : ByteArray) 3 _ h13) (fun _ h => h) (by kernel_rfl) (by kernel_rfl) rfl ?_
          refine WL.run 1 [] [4] (fun _ => [(4, .iface 138 (.agg #[.string r12.1, .iface 80 (.agg #[.int .i64 r12.2.n])]))]) (fun _ => []) (fun _ => []) (fun _ => by kernel_rfl) (fun _ => ?_)
          refine WP.done ?_
          obtain rfl := Option.some.inj hM
          exact WP.ret [] [] (.iface 138 (.agg #[.string r12.1, .iface 80 (.agg #[.int .i64 r12.2.n])])) (by kernel_rfl) (fun w' hw => ⟨rfl, hw.pick [] rfl⟩)
        · replace hM := cond_f hM c11
          refine WP.skip ?_
          refine WP.leave ?_
          refine WP.seq ?_
          refine WP.run [] [4] (fun _ => [(4, .nilIface)]) (fun _ => []) (fun _ => []) (fun _ => by kernel_rfl) (fun _ => ?_)
          obtain rfl := Option.some.inj hM
          exact WP.ret [] [] (.nilIface) (by kernel_rfl) (fun w' hw => ⟨rfl, hw.pick [] rfl⟩)
      ·
        refine WL.split (fun b' => [(3, .pointer (some ⟨b1, 0, none⟩)), (4, .nilIface), (26, .bool b')]) x8 (fun c9 => ?_) (fun c9 => ?_)
        · replace hM := cond_t hM c9
          refine WL.run 9 [] [4, 35] (fun _ => [(4, .nilIface), (35, .bool true)]) (fun _ => [(b1, .cells #[.int .u64 a1.Dst, .int .u64 a1.Src, .bool a1.Tag.Has, .int .i64 a1.Tag.Pri, .bool a1.Tag.Dei, .int .i64 a1.Tag.Vid, .int .i64 a1.Type_, .string a1.Body] 29 (0, 0))]) (fun _ => []) (fun _ => by kernel_rfl) (fun _ => ?_)
          exact WL.sub [4, 35] (by kernel_rfl) (WL.pick [] (by kernel_rfl) (by kernel_rfl) (K1 true hM))
        · replace hM := cond_f hM c9
          refine WL.run 4 [0] [3, 4, 26, 30] (fun _ => [(3, .pointer (some ⟨b1, 0, none⟩)), (4, .nilIface), (26, .bool false), (30, .bool (a1.Type_ != 2048))]) (fun _ => [(b1, .cells #[.int .u64 a1.Dst, .int .u64 a1.Src, .bool a1.Tag.Has, .int .i64 a1.Tag.Pri, .bool a1.Tag.Dei, .int .i64 a1.Tag.Vid, .int .i64 a1.Type_, .string a1.Body] 29 (0, 0))]) (fun _ => [b1]) (fun _ => by kernel_rfl) (fun _ => ?_)
          refine WL.sub [3, 4, 26, 30] (L' := [(3, .pointer (some ⟨b1, 0, none⟩)), (4, .nilIface), (26, .bool false), (30, .bool (a1.Type_ != 2048))]) (by kernel_rfl) ?_
          refine WL.both (fun b' => [(3, .pointer (some ⟨b1, 0, none⟩)), (4, .nilIface), (26, .bool false), (30, .bool b')]) (a1.Type_ != 2048) 4 [0] [] [4, 26, 34] (fun b' => [(4, .nilIface), (26, .bool false), (34, .bool (b' && (a1.Type_ != 2054)))]) [b1] [] (fun _ => by kernel_rfl) (fun _ => by kernel_rfl) ?_
          refine WL.run 1 [] [4, 35] (fun _ => [(4, .nilIface), (35, .bool ((a1.Type_ != 2048) && (a1.Type_ != 2054)))]) (fun _ => [(b1, .cells #[.int .u64 a1.Dst, .int .u64 a1.Src, .bool a1.Tag.Has, .int .i64 a1.Tag.Pri, .bool a1.Tag.Dei, .int .i64 a1.Tag.Vid, .int .i64 a1.Type_, .string a1.Body] 29 (0, 0))]) (fun _ => []) (fun _ => by kernel_rfl) (fun _ => ?_)
          exact WL.sub [4, 35] (by kernel_rfl) (WL.pick [] (by kernel_rfl) (by kernel_rfl) (K1 ((a1.Type_ != 2048) && (a1.Type_ != 2054)) hM))
    ·
      refine WL.split (fun b' => [(3, .pointer (some ⟨b1, 0, none⟩)), (4, .nilIface), (20, .bool b')]) a1.Tag.Has (fun c5 => ?_) (fun c5 => ?_)
      · replace hM := cond_t hM c5
        refine WL.run 5 [] [3, 4, 25] (fun _ => [(3, .pointer (some ⟨b1, 0, none⟩)), (4, .nilIface), (25, .bool true)]) (fun _ => [(b1, .cells #[.int .u64 a1.Dst, .int .u64 a1.Src, .bool a1.Tag.Has, .int .i64 a1.Tag.Pri, .bool a1.Tag.Dei, .int .i64 a1.Tag.Vid, .int .i64 a1.Type_, .string a1.Body] 29 (0, 0))]) (fun _ => []) (fun _ => by kernel_rfl) (fun _ => ?_)
        exact WL.sub [3, 4, 25] (by kernel_rfl) (WL.pick [0] (by kernel_rfl) (by kernel_rfl) (K2 true hM))
      · replace hM := cond_f hM c5
        refine WL.run 2 [0] [3, 4, 20, 22] (fun _ => [(3, .pointer (some ⟨b1, 0, none⟩)), (4, .nilIface), (20, .bool false), (22, .int .u64 a1.Src)]) (fun _ => [(b1, .cells #[.int .u64 a1.Dst, .int .u64 a1.Src, .bool a1.Tag.Has, .int .i64 a1.Tag.Pri, .bool a1.Tag.Dei, .int .i64 a1.Tag.Vid, .int .i64 a1.Type_, .string a1.Body] 29 (0, 0))]) (fun _ => [b1]) (fun _ => by kernel_rfl) (fun _ => ?_)
        obtain ⟨r6, h7, hM⟩ := bind_some hM
        refine WL.callP [] [] (addrs_Own_calls a1.Src _ h7) (fun _ h => h) (by kernel_rfl) (by kernel_rfl) rfl ?_
        refine WL.run 2 [] [3, 4, 25] (fun _ => [(3, .pointer (some ⟨b1, 0, none⟩)), (4, .nilIface), (25, .bool (!r6))]) (fun _ => [(b1, .cells #[.int .u64 a1.Dst, .int .u64 a1.Src, .bool a1.Tag.Has, .int .i64 a1.Tag.Pri, .bool a1.Tag.Dei, .int .i64 a1.Tag.Vid, .int .i64 a1.Type_, .string a1.Body] 29 (0, 0))]) (fun _ => []) (fun _ => by kernel_rfl) (fun _ => ?_)
        exact WL.sub [3, 4, 25] (by kernel_rfl) (WL.pick [0] (by kernel_rfl) (by kernel_rfl) (K2 (!r6) hM))

end Go.Proofs.YtbodofjnfmjbpaaGreatDoor

namespace Go.Proofs.YtbodofjnfmjbpaaGreatDoor
open Go Eng
set_option linter.unusedVariables false
set_option linter.unusedSimpArgs false

/-! ### gangway/arp.Parse$1: function 86 -/
def arp_Parse_1.f (k : Nat) (a0 : Int) (a1 : ByteArray) (a2 : Int) : Option (Int × Int) :=
  (octets_Get.f k a1 a2 a0).bind fun (r1, r2) =>
  some (r1, i64 (a2 + a0))

set_option maxRecDepth 100000 in
theorem arp_Parse_1_calls (k : Nat) (b_0 : Nat) (b_1 : Nat) (a0 : Int) (a1 : ByteArray) (a2 : Int) (r : Int × Int) (h : arp_Parse_1.f k a0 a1 a2 = some r) : Does Tryz.prog 86 #[.int .i64 a0, .pointer (some ⟨b_0, 0, none⟩), .pointer (some ⟨b_1, 0, none⟩)] [(b_0, .cells #[.string a1] 9 (0, 0)), (b_1, .cells #[.int .i64 a2] 3 (0, 0))] Glob (fun _ : Unit => .int .u64 r.1) (fun _ => [(b_0, .cells #[.string a1] 9 (0, 0)), (b_1, .cells #[.int .i64 r.2] 3 (0, 0))]) (fun _ => []) (fun _ => Glob) := by
  intro w Z hS
  refine calls_of (args := [.int .i64 a0, .pointer (some ⟨b_0, 0, none⟩), .pointer (some ⟨b_1, 0, none⟩)]) (L := [(0, .int .i64 a0), (1, .pointer (some ⟨b_0, 0, none⟩)), (2, .pointer (some ⟨b_1, 0, none⟩))]) (N := 18) (S := Sat w Z [(b_0, .cells #[.string a1] 9 (0, 0)), (b_1, .cells #[.int .i64 a2] 3 (0, 0))] [] Glob) Tryz.func86 rfl rfl (Nat.le_of_ble_eq_true rfl) rfl hS ?_
  have hM := h
  clear h hS
  unfold arp_Parse_1.f at hM
  refine WP.seq ?_
  refine WP.run [] [0, 1, 2, 4] (fun _ => [(0, .int .i64 a0), (1, .pointer (some ⟨b_0, 0, none⟩)), (2, .pointer (some ⟨b_1, 0, none⟩)), (4, .int .u64 0)]) (fun _ => [(b_0, .cells #[.string a1] 9 (0, 0)), (b_1, .cells #[.int .i64 a2] 3 (0, 0))]) (fun _ => []) (fun _ => by kernel_rfl) (fun _ => ?_)
  refine WP.seq ?_
  refine WP.region ?_
  refine WL.run 3 [0, 1] [0, 2, 4, 8, 9, 10] (fun _ => [(0, .int .i64 a0), (2, .pointer (some ⟨b_1, 0, none⟩)), (4, .int .u64 0), (8, .string a1), (9, .int .i64 a2), (10, .int .i64 a0)]) (fun _ => [(b_0, .cells #[.string a1] 9 (0, 0)), (b_1, .cells #[.int .i64 a2] 3 (0, 0))]) (fun _ => [b_1, b_0]) (fun _ => by kernel_rfl) (fun _ => ?_)
  obtain ⟨⟨r1, r2⟩, h3, hM⟩ := bind_some hM
  dsimp only at hM
  refine WL.callP [] [] (octets_Get_calls k a1 a2 a0 _ h3) (fun _ h => h) (by kernel_rfl) (by kernel_rfl) rfl ?_
  refine WL.run 5 [] [0, 2, 4, 5] (fun _ => [(0, .int .i64 a0), (2, .pointer (some ⟨b_1, 0, none⟩)), (4, .int .u64 0), (5, .int .u64 r1)]) (fun _ => [(b_0, .cells #[.string a1] 9 (0, 0)), (b_1, .cells #[.int .i64 a2] 3 (0, 0))]) (fun _ => []) (fun _ => by kernel_rfl) (fun _ => ?_)
  refine WP.done ?_
  refine WP.seq ?_
  refine WP.run [1, 1] [4, 5] (fun _ => [(4, .int .u64 0), (5, .int .u64 r1)]) (fun _ => [(b_0, .cells #[.string a1] 9 (0, 0)), (b_1, .cells #[.int .i64 (i64 (a2 + a0))] 3 (0, 0))]) (fun _ => [b_1, b_1]) (fun _ => by kernel_rfl) (fun _ => ?_)
  refine WP.seq ?_
  refine WP.run [] [4] (fun _ => [(4, .int .u64 r1)]) (fun _ => [(b_0, .cells #[.string a1] 9 (0, 0)), (b_1, .cells #[.int .i64 (i64 (a2 + a0))] 3 (0, 0))]) (fun _ => []) (fun _ => by kernel_rfl) (fun _ => ?_)
  obtain rfl := Option.some.inj hM
  exact WP.ret [] [] (.int .u64 r1) (by kernel_rfl) (fun w' hw => ⟨(), rfl, hw.pick [0, 1] (by kernel_rfl)⟩)

end Go.Proofs.YtbodofjnfmjbpaaGreatDoor

namespace Go.Proofs.YtbodofjnfmjbpaaGreatDoor
open Go Eng
set_option linter.unusedVariables false
set_option linter.unusedSimpArgs false

/-! ### internal/stringslite.HasPrefix: function 110 -/
def stringslite_HasPrefix.k1 (x4 : Bool) : Option (Bool) :=
  some x4

def stringslite_HasPrefix.f (a0 : ByteArray) (a1 : ByteArray) : Option (Bool) :=
  bif decide ((a0.size : Int) ≥ (a1.size : Int)) then
    (sliceS a0 0 (a1.size : Int)).bind fun t2 =>
    stringslite_HasPrefix.k1 (t2.toList == a1.toList)
  else
    stringslite_HasPrefix.k1 false

set_option maxRecDepth 100000 in
theorem stringslite_HasPrefix_calls (a0 : ByteArray) (a1 : ByteArray) (r : Bool) (h : stringslite_HasPrefix.f a0 a1 = some r) : Pure Tryz.prog Glob 110 #[.string a0, .string a1] (.bool r) := by
  intro w Z hS
  refine calls_of (args := [.string a0, .string a1]) (L := [(0, .string a0), (1, .string a1)]) (N := 18) (S := Sat w Z [] [] Glob) Tryz.func110 rfl rfl (Nat.le_of_ble_eq_true rfl) rfl hS ?_
  have hM := h
  clear h hS
  unfold stringslite_HasPrefix.f at hM
  refine WP.seq ?_
  refine WP.run [] [0, 1, 4] (fun _ => [(0, .string a0), (1, .string a1), (4, .bool false)]) (fun _ => []) (fun _ => []) (fun _ => by kernel_rfl) (fun _ => ?_)
  refine WP.seq ?_
  refine WP.region ?_
  refine WL.run 6 [] [0, 1, 4, 10] (fun _ => [(0, .string a0), (1, .string a1), (4, .bool false), (10, .bool (decide ((a0.size : Int) ≥ (a1.size : Int))))]) (fun _ => []) (fun _ => []) (fun _ => by kernel_rfl) (fun _ => ?_)
  refine WL.sub [0, 1, 4, 10] (L' := [(0, .string a0), (1, .string a1), (4, .bool false), (10, .bool (decide ((a0.size : Int) ≥ (a1.size : Int))))]) (by kernel_rfl) ?_
  refine WL.join (σ := Bool) 7 (fun st => stringslite_HasPrefix.k1 st = some r) (fun st => [(4, .bool false), (17, .bool st)]) (fun st => Sat w Z [] [] Glob) (fun st hM => ?_) (fun K1 => ?_)
  ·
    obtain ⟨x4, rfl⟩ : ∃ y, y = st := ⟨st, rfl⟩
    replace hM : stringslite_HasPrefix.k1 x4 = some r := hM
    unfold stringslite_HasPrefix.k1 at hM
    show WL _ _ _ _ _ [(4, .bool false), (17, .bool x4)] (Sat w Z [] [] Glob)
    refine WL.run 1 [] [4] (fun _ => [(4, .bool x4)]) (fun _ => []) (fun _ => []) (fun _ => by kernel_rfl) (fun _ => ?_)
    refine WP.done ?_
    obtain rfl := Option.some.inj hM
    exact WP.ret [] [] (.bool x4) (by kernel_rfl) (fun w' hw => ⟨rfl, hw.pick [] rfl⟩)
  ·
    refine WL.split (fun b' => [(0, .string a0), (1, .string a1), (4, .bool false), (10, .bool b')]) (decide ((a0.size : Int) ≥ (a1.size : Int))) (fun c1 => ?_) (fun c1 => ?_)
    · replace hM := cond_t hM c1
      refine WL.run 3 [] [1, 4, 10, 11, 13] (fun _ => [(1, .string a1), (4, .bool false), (10, .bool true), (11, .string a0), (13, .int .i64 (a1.size : Int))]) (fun _ => []) (fun _ => []) (fun _ => by kernel_rfl) (fun _ => ?_)
      obtain ⟨t2, h3, hM⟩ := bind_some hM
      refine WL.val (fun _ => run_sliceS_hi (s := a0) (kh := .i64) (h := (a1.size : Int)) (by kernel_rfl) (by kernel_rfl) (by kernel_rfl) h3) (by kernel_rfl) (by kernel_rfl) rfl ?_
      refine WL.run 3 [] [4, 17] (fun _ => [(4, .bool false), (17, .bool (t2.toList == a1.toList))]) (fun _ => []) (fun _ => []) (fun _ => by kernel_rfl) (fun _ => ?_)
      exact WL.sub [4, 17] (by kernel_rfl) (WL.pick [] (by kernel_rfl) (by kernel_rfl) (K1 (t2.toList == a1.toList) hM))
    · replace hM := cond_f hM c1
      refine WL.run 7 [] [4, 17] (fun _ => [(4, .bool false), (17, .bool false)]) (fun _ => []) (fun _ => []) (fun _ => by kernel_rfl) (fun _ => ?_)
      exact WL.sub [4, 17] (by kernel_rfl) (WL.pick [] (by kernel_rfl) (by kernel_rfl) (K1 false hM))

end Go.Proofs.YtbodofjnfmjbpaaGreatDoor

namespace Go.Proofs.YtbodofjnfmjbpaaGreatDoor
open Go Eng
set_option linter.unusedVariables false
set_option linter.unusedSimpArgs false

/-! ### strings.HasPrefix: function 87 -/
def strings_HasPrefix.f (a0 : ByteArray) (a1 : ByteArray) : Option (Bool) :=
  (stringslite_HasPrefix.f a0 a1).bind fun r1 =>
  some r1

set_option maxRecDepth 100000 in
theorem strings_HasPrefix_calls (a0 : ByteArray) (a1 : ByteArray) (r : Bool) (h : strings_HasPrefix.f a0 a1 = some r) : Pure Tryz.prog Glob 87 #[.string a0, .string a1] (.bool r) := by
  intro w Z hS
  refine calls_of (args := [.string a0, .string a1]) (L := [(0, .string a0), (1, .string a1)]) (N := 8) (S := Sat w Z [] [] Glob) Tryz.func87 rfl rfl (Nat.le_of_ble_eq_true rfl) rfl hS ?_
  have hM := h
  clear h hS
  unfold strings_HasPrefix.f at hM
  refine WP.seq ?_
  refine WP.run [] [0, 1, 4] (fun _ => [(0, .string a0), (1, .string a1), (4, .bool false)]) (fun _ => []) (fun _ => []) (fun _ => by kernel_rfl) (fun _ => ?_)
  refine WP.seq ?_
  refine WP.region ?_
  refine WL.run 2 [] [4, 5, 6] (fun _ => [(4, .bool false), (5, .string a0), (6, .string a1)]) (fun _ => []) (fun _ => []) (fun _ => by kernel_rfl) (fun _ => ?_)
  obtain ⟨r1, h2, hM⟩ := bind_some hM
  refine WL.callP [] [] (stringslite_HasPrefix_calls a0 a1 _ h2) (fun _ h => h) (by kernel_rfl) (by kernel_rfl) rfl ?_
  refine WL.run 1 [] [4] (fun _ => [(4, .bool r1)]) (fun _ => []) (fun _ => []) (fun _ => by kernel_rfl) (fun _ => ?_)
  refine WP.done ?_
  obtain rfl := Option.some.inj hM
  exact WP.ret [] [] (.bool r1) (by kernel_rfl) (fun w' hw => ⟨rfl, hw.pick [] rfl⟩)

end Go.Proofs.YtbodofjnfmjbpaaGreatDoor

namespace Go.Proofs.YtbodofjnfmjbpaaGreatDoor
open Go Eng
set_option linter.unusedVariables false
set_option linter.unusedSimpArgs false

/-! ### gangway/arp.Check: function 88 -/
def arp_Check.k1 (a0 : api_Arp) (x5 : Bool) : Option (Int) :=
  bif (x5 || (decide (a0.TMac ≥ 281474976710656))) then
    some 51
  else
    some 0

def arp_Check.f (a0 : api_Arp) : Option (Int) :=
  bif ((a0.Op != 1) && (a0.Op != 2)) then
    arp_Check.k1 a0 true
  else
    (addrs_Own.f a0.SMac).bind fun r3 =>
    arp_Check.k1 a0 (!r3)

set_option maxRecDepth 100000 in
theorem arp_Check_calls (a0 : api_Arp) (r : Int) (h : arp_Check.f a0 = some r) : Pure Tryz.prog Glob 88 #[.agg #[.int .i64 a0.Op, .int .u64 a0.SMac, .int .u32 a0.SIp, .int .u64 a0.TMac, .int .u32 a0.TIp]] (.int .i64 r) := by
  intro w Z hS
  refine calls_of (args := [.agg #[.int .i64 a0.Op, .int .u64 a0.SMac, .int .u32 a0.SIp, .int .u64 a0.TMac, .int .u32 a0.TIp]]) (L := [(0, .agg #[.int .i64 a0.Op, .int .u64 a0.SMac, .int .u32 a0.SIp, .int .u64 a0.TMac, .int .u32 a0.TIp])]) (N := 22) (S := Sat w Z [] [] Glob) Tryz.func88 rfl rfl (Nat.le_of_ble_eq_true rfl) rfl hS ?_
  have hM := h
  clear h hS
  unfold arp_Check.f at hM
  refine WP.seq ?_
  refine WP.run [] [1, 2] (fun b1 => [(1, .pointer (some ⟨b1, 0, none⟩)), (2, .int .i64 0)]) (fun b1 => [(b1, .cells #[.int .i64 a0.Op, .int .u64 a0.SMac, .int .u32 a0.SIp, .int .u64 a0.TMac, .int .u32 a0.TIp] 49 (0, 0))]) (fun b1 => []) (fun b1 => by kernel_rfl) (fun b1 => ?_)
  refine WP.seq ?_
  refine WP.seq ?_
  refine WP.region ?_
  refine WL.run 4 [0] [1, 2, 6] (fun _ => [(1, .pointer (some ⟨b1, 0, none⟩)), (2, .int .i64 0), (6, .bool (a0.Op != 1))]) (fun _ => [(b1, .cells #[.int .i64 a0.Op, .int .u64 a0.SMac, .int .u32 a0.SIp, .int .u64 a0.TMac, .int .u32 a0.TIp] 49 (0, 0))]) (fun _ => [b1]) (fun _ => by kernel_rfl) (fun _ => ?_)
  refine WL.sub [1, 2, 6] (L' := [(1, .pointer (some ⟨b1, 0, none⟩)), (2, .int .i64 0), (6, .bool (a0.Op != 1))]) (by kernel_rfl) ?_
  refine WL.both (fun b' => [(1, .pointer (some ⟨b1, 0, none⟩)), (2, .int .i64 0), (6, .bool b')]) (a0.Op != 1) 4 [0] [] [1, 2, 10] (fun b' => [(1, .pointer (some ⟨b1, 0, none⟩)), (2, .int .i64 0), (10, .bool (b' && (a0.Op != 2)))]) [b1] [] (fun _ => by kernel_rfl) (fun _ => by kernel_rfl) ?_
  refine WL.run 1 [] [1, 2, 11] (fun _ => [(1, .pointer (some ⟨b1, 0, none⟩)), (2, .int .i64 0), (11, .bool ((a0.Op != 1) && (a0.Op != 2)))]) (fun _ => [(b1, .cells #[.int .i64 a0.Op, .int .u64 a0.SMac, .int .u32 a0.SIp, .int .u64 a0.TMac, .int .u32 a0.TIp] 49 (0, 0))]) (fun _ => []) (fun _ => by kernel_rfl) (fun _ => ?_)
  refine WL.sub [1, 2, 11] (L' := [(1, .pointer (some ⟨b1, 0, none⟩)), (2, .int .i64 0), (11, .bool ((a0.Op != 1) && (a0.Op != 2)))]) (by kernel_rfl) ?_
  refine WL.join (σ := Bool) 5 (fun st => arp_Check.k1 a0 st = some r) (fun st => [(1, .pointer (some ⟨b1, 0, none⟩)), (2, .int .i64 0), (16, .bool st)]) (fun st => Sat w Z [(b1, .cells #[.int .i64 a0.Op, .int .u64 a0.SMac, .int .u32 a0.SIp, .int .u64 a0.TMac, .int .u32 a0.TIp] 49 (0, 0))] [] Glob) (fun st hM => ?_) (fun K1 => ?_)
  ·
    obtain ⟨x5, rfl⟩ : ∃ y, y = st := ⟨st, rfl⟩
    replace hM : arp_Check.k1 a0 x5 = some r := hM
    unfold arp_Check.k1 at hM
    show WL _ _ _ _ _ [(1, .pointer (some ⟨b1, 0, none⟩)), (2, .int .i64 0), (16, .bool x5)] (Sat w Z [(b1, .cells #[.int .i64 a0.Op, .int .u64 a0.SMac, .int .u32 a0.SIp, .int .u64 a0.TMac, .int .u32 a0.TIp] 49 (0, 0))] [] Glob)
    refine WL.run 1 [] [1, 2, 17] (fun _ => [(1, .pointer (some ⟨b1, 0, none⟩)), (2, .int .i64 0), (17, .bool x5)]) (fun _ => [(b1, .cells #[.int .i64 a0.Op, .int .u64 a0.SMac, .int .u32 a0.SIp, .int .u64 a0.TMac, .int .u32 a0.TIp] 49 (0, 0))]) (fun _ => []) (fun _ => by kernel_rfl) (fun _ => ?_)
    refine WL.sub [1, 2, 17] (L' := [(1, .pointer (some ⟨b1, 0, none⟩)), (2, .int .i64 0), (17, .bool x5)]) (by kernel_rfl) ?_
    refine WL.both (fun b' => [(1, .pointer (some ⟨b1, 0, none⟩)), (2, .int .i64 0), (17, .bool b')]) x5 4 [] [0] [2, 21] (fun b' => [(2, .int .i64 0), (21, .bool (b' || (decide (a0.TMac ≥ 281474976710656))))]) [] [b1] (fun _ => by kernel_rfl) (fun _ => by kernel_rfl) ?_
    refine WP.done ?_
    refine WP.keep [false] (by kernel_rfl : _ = []) ?_
    refine WP.cond (x5 || (decide (a0.TMac ≥ 281474976710656))) rfl rfl (fun c6 => ?_) (fun c6 => ?_)
    · replace hM := cond_t hM c6
      refine WP.seq ?_
      refine WP.run [] [2] (fun _ => [(2, .int .i64 51)]) (fun _ => []) (fun _ => []) (fun _ => by kernel_rfl) (fun _ => ?_)
      obtain rfl := Option.some.inj hM
      exact WP.ret [] [] (.int .i64 51) (by kernel_rfl) (fun w' hw => ⟨rfl, hw.pick [] rfl⟩)
    · replace hM := cond_f hM c6
      refine WP.skip ?_
      refine WP.seq ?_
      refine WP.run [] [2] (fun _ => [(2, .int .i64 0)]) (fun _ => []) (fun _ => []) (fun _ => by kernel_rfl) (fun _ => ?_)
      obtain rfl := Option.some.inj hM
      exact WP.ret [] [] (.int .i64 0) (by kernel_rfl) (fun w' hw => ⟨rfl, hw.pick [] rfl⟩)
  ·
    refine WL.split (fun b' => [(1, .pointer (some ⟨b1, 0, none⟩)), (2, .int .i64 0), (11, .bool b')]) ((a0.Op != 1) && (a0.Op != 2)) (fun c2 => ?_) (fun c2 => ?_)
    · replace hM := cond_t hM c2
      refine WL.run 5 [] [1, 2, 16] (fun _ => [(1, .pointer (some ⟨b1, 0, none⟩)), (2, .int .i64 0), (16, .bool true)]) (fun _ => [(b1, .cells #[.int .i64 a0.Op, .int .u64 a0.SMac, .int .u32 a0.SIp, .int .u64 a0.TMac, .int .u32 a0.TIp] 49 (0, 0))]) (fun _ => []) (fun _ => by kernel_rfl) (fun _ => ?_)
      exact WL.sub [1, 2, 16] (by kernel_rfl) (WL.pick [0] (by kernel_rfl) (by kernel_rfl) (K1 true hM))
    · replace hM := cond_f hM c2
      refine WL.run 2 [0] [1, 2, 11, 13] (fun _ => [(1, .pointer (some ⟨b1, 0, none⟩)), (2, .int .i64 0), (11, .bool false), (13, .int .u64 a0.SMac)]) (fun _ => [(b1, .cells #[.int .i64 a0.Op, .int .u64 a0.SMac, .int .u32 a0.SIp, .int .u64 a0.TMac, .int .u32 a0.TIp] 49 (0, 0))]) (fun _ => [b1]) (fun _ => by kernel_rfl) (fun _ => ?_)
      obtain ⟨r3, h4, hM⟩ := bind_some hM
      refine WL.callP [] [] (addrs_Own_calls a0.SMac _ h4) (fun _ h => h) (by kernel_rfl) (by kernel_rfl) rfl ?_
      refine WL.run 2 [] [1, 2, 16] (fun _ => [(1, .pointer (some ⟨b1, 0, none⟩)), (2, .int .i64 0), (16, .bool (!r3))]) (fun _ => [(b1, .cells #[.int .i64 a0.Op, .int .u64 a0.SMac, .int .u32 a0.SIp, .int .u64 a0.TMac, .int .u32 a0.TIp] 49 (0, 0))]) (fun _ => []) (fun _ => by kernel_rfl) (fun _ => ?_)
      exact WL.sub [1, 2, 16] (by kernel_rfl) (WL.pick [0] (by kernel_rfl) (by kernel_rfl) (K1 (!r3) hM))

end Go.Proofs.YtbodofjnfmjbpaaGreatDoor
