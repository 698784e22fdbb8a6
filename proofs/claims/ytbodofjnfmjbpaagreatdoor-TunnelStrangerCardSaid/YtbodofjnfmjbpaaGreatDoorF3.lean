/- The walks of the functions that the laws reach: each shows that a call returns what its plain model says, wherever the model gives an answer. -/
import Derived.Test.YtbodofjnfmjbpaaGreatDoorF1
import Derived.Test.YtbodofjnfmjbpaaGreatDoorF2

namespace Go.Proofs.YtbodofjnfmjbpaaGreatDoor
open Go Eng
set_option linter.unusedVariables false
set_option linter.unusedSimpArgs false

/-! ### gangway/inet.Check: function 69 -/
def inet_Check.k1 (a0 : api_Ip) (x19 : Bool) : Option (Int) :=
  bif (x19 && (decide ((a0.Body.size : Int) ≤ 65515))) then
    some 0
  else
    some 61

def inet_Check.k2 (a0 : api_Ip) (x15 : Bool) : Option (Int) :=
  bif x15 then
    (inet_below.f a0.Off 8192).bind fun r17 =>
    inet_Check.k1 a0 r17
  else
    inet_Check.k1 a0 false

def inet_Check.k3 (a0 : api_Ip) (x11 : Bool) : Option (Int) :=
  bif x11 then
    (inet_below.f a0.Id 65536).bind fun r13 =>
    inet_Check.k2 a0 r13
  else
    inet_Check.k2 a0 false

def inet_Check.k4 (a0 : api_Ip) (x7 : Bool) : Option (Int) :=
  bif x7 then
    (inet_below.f a0.Proto 256).bind fun r9 =>
    inet_Check.k3 a0 r9
  else
    inet_Check.k3 a0 false

def inet_Check.f (a0 : api_Ip) : Option (Int) :=
  (inet_below.f a0.Tos 256).bind fun r2 =>
  bif r2 then
    (inet_below.f a0.Ttl 256).bind fun r5 =>
    inet_Check.k4 a0 r5
  else
    inet_Check.k4 a0 false

set_option maxRecDepth 100000 in
theorem inet_Check_calls (a0 : api_Ip) (r : Int) (h : inet_Check.f a0 = some r) : Pure Tryz.prog Glob 69 #[.agg #[.int .i64 a0.Tos, .int .i64 a0.Id, .bool a0.Whole, .bool a0.More, .int .i64 a0.Off, .int .i64 a0.Ttl, .int .i64 a0.Proto, .int .u32 a0.Src, .int .u32 a0.Dst, .string a0.Body]] (.int .i64 r) := by
  intro w Z hS
  refine calls_of (args := [.agg #[.int .i64 a0.Tos, .int .i64 a0.Id, .bool a0.Whole, .bool a0.More, .int .i64 a0.Off, .int .i64 a0.Ttl, .int .i64 a0.Proto, .int .u32 a0.Src, .int .u32 a0.Dst, .string a0.Body]]) (L := [(0, .agg #[.int .i64 a0.Tos, .int .i64 a0.Id, .bool a0.Whole, .bool a0.More, .int .i64 a0.Off, .int .i64 a0.Ttl, .int .i64 a0.Proto, .int .u32 a0.Src, .int .u32 a0.Dst, .string a0.Body])]) (N := 32) (S := Sat w Z [] [] Glob) Tryz.func69 rfl rfl (Nat.le_of_ble_eq_true rfl) rfl hS ?_
  have hM := h
  clear h hS
  unfold inet_Check.f at hM
  refine WP.seq ?_
  refine WP.run [] [1, 2] (fun b1 => [(1, .pointer (some ⟨b1, 0, none⟩)), (2, .int .i64 0)]) (fun b1 => [(b1, .cells #[.int .i64 a0.Tos, .int .i64 a0.Id, .bool a0.Whole, .bool a0.More, .int .i64 a0.Off, .int .i64 a0.Ttl, .int .i64 a0.Proto, .int .u32 a0.Src, .int .u32 a0.Dst, .string a0.Body] 91 (0, 0))]) (fun b1 => []) (fun b1 => by kernel_rfl) (fun b1 => ?_)
  refine WP.seq ?_
  refine WP.seq ?_
  refine WP.region ?_
  refine WL.run 2 [0] [1, 2, 4] (fun _ => [(1, .pointer (some ⟨b1, 0, none⟩)), (2, .int .i64 0), (4, .int .i64 a0.Tos)]) (fun _ => [(b1, .cells #[.int .i64 a0.Tos, .int .i64 a0.Id, .bool a0.Whole, .bool a0.More, .int .i64 a0.Off, .int .i64 a0.Ttl, .int .i64 a0.Proto, .int .u32 a0.Src, .int .u32 a0.Dst, .string a0.Body] 91 (0, 0))]) (fun _ => [b1]) (fun _ => by kernel_rfl) (fun _ => ?_)
  obtain ⟨r2, h3, hM⟩ := bind_some hM
  refine WL.callP [] [] (inet_below_calls a0.Tos 256 _ h3) (fun _ h => h) (by kernel_rfl) (by kernel_rfl) rfl ?_
  refine WL.run 1 [] [1, 2, 6] (fun _ => [(1, .pointer (some ⟨b1, 0, none⟩)), (2, .int .i64 0), (6, .bool r2)]) (fun _ => [(b1, .cells #[.int .i64 a0.Tos, .int .i64 a0.Id, .bool a0.Whole, .bool a0.More, .int .i64 a0.Off, .int .i64 a0.Ttl, .int .i64 a0.Proto, .int .u32 a0.Src, .int .u32 a0.Dst, .string a0.Body] 91 (0, 0))]) (fun _ => []) (fun _ => by kernel_rfl) (fun _ => ?_)
  refine WL.sub [1, 2, 6] (L' := [(1, .pointer (some ⟨b1, 0, none⟩)), (2, .int .i64 0), (6, .bool r2)]) (by kernel_rfl) ?_
  refine WL.join (σ := Bool) 4 (fun st => inet_Check.k4 a0 st = some r) (fun st => [(1, .pointer (some ⟨b1, 0, none⟩)), (2, .int .i64 0), (10, .bool st)]) (fun st => Sat w Z [(b1, .cells #[.int .i64 a0.Tos, .int .i64 a0.Id, .bool a0.Whole, .bool a0.More, .int .i64 a0.Off, .int .i64 a0.Ttl, .int .i64 a0.Proto, .int .u32 a0.Src, .int .u32 a0.Dst, .string a0.Body] 91 (0, 0))] [] Glob) (fun st hM => ?_) (fun K4 => ?_)
  ·
    obtain ⟨x7, rfl⟩ : ∃ y, y = st := ⟨st, rfl⟩
    replace hM : inet_Check.k4 a0 x7 = some r := hM
    unfold inet_Check.k4 at hM
    show WL _ _ _ _ _ [(1, .pointer (some ⟨b1, 0, none⟩)), (2, .int .i64 0), (10, .bool x7)] (Sat w Z [(b1, .cells #[.int .i64 a0.Tos, .int .i64 a0.Id, .bool a0.Whole, .bool a0.More, .int .i64 a0.Off, .int .i64 a0.Ttl, .int .i64 a0.Proto, .int .u32 a0.Src, .int .u32 a0.Dst, .string a0.Body] 91 (0, 0))] [] Glob)
    refine WL.run 1 [] [1, 2, 11] (fun _ => [(1, .pointer (some ⟨b1, 0, none⟩)), (2, .int .i64 0), (11, .bool x7)]) (fun _ => [(b1, .cells #[.int .i64 a0.Tos, .int .i64 a0.Id, .bool a0.Whole, .bool a0.More, .int .i64 a0.Off, .int .i64 a0.Ttl, .int .i64 a0.Proto, .int .u32 a0.Src, .int .u32 a0.Dst, .string a0.Body] 91 (0, 0))]) (fun _ => []) (fun _ => by kernel_rfl) (fun _ => ?_)
    refine WL.sub [1, 2, 11] (L' := [(1, .pointer (some ⟨b1, 0, none⟩)), (2, .int .i64 0), (11, .bool x7)]) (by kernel_rfl) ?_
    refine WL.join (σ := Bool) 4 (fun st => inet_Check.k3 a0 st = some r) (fun st => [(1, .pointer (some ⟨b1, 0, none⟩)), (2, .int .i64 0), (15, .bool st)]) (fun st => Sat w Z [(b1, .cells #[.int .i64 a0.Tos, .int .i64 a0.Id, .bool a0.Whole, .bool a0.More, .int .i64 a0.Off, .int .i64 a0.Ttl, .int .i64 a0.Proto, .int .u32 a0.Src, .int .u32 a0.Dst, .string a0.Body] 91 (0, 0))] [] Glob) (fun st hM => ?_) (fun K3 => ?_)
    ·
      obtain ⟨x11, rfl⟩ : ∃ y, y = st := ⟨st, rfl⟩
      replace hM : inet_Check.k3 a0 x11 = some r := hM
      unfold inet_Check.k3 at hM
      show WL _ _ _ _ _ [(1, .pointer (some ⟨b1, 0, none⟩)), (2, .int .i64 0), (15, .bool x11)] (Sat w Z [(b1, .cells #[.int .i64 a0.Tos, .int .i64 a0.Id, .bool a0.Whole, .bool a0.More, .int .i64 a0.Off, .int .i64 a0.Ttl, .int .i64 a0.Proto, .int .u32 a0.Src, .int .u32 a0.Dst, .string a0.Body] 91 (0, 0))] [] Glob)
      refine WL.run 1 [] [1, 2, 16] (fun _ => [(1, .pointer (some ⟨b1, 0, none⟩)), (2, .int .i64 0), (16, .bool x11)]) (fun _ => [(b1, .cells #[.int .i64 a0.Tos, .int .i64 a0.Id, .bool a0.Whole, .bool a0.More, .int .i64 a0.Off, .int .i64 a0.Ttl, .int .i64 a0.Proto, .int .u32 a0.Src, .int .u32 a0.Dst, .string a0.Body] 91 (0, 0))]) (fun _ => []) (fun _ => by kernel_rfl) (fun _ => ?_)
      refine WL.sub [1, 2, 16] (L' := [(1, .pointer (some ⟨b1, 0, none⟩)), (2, .int .i64 0), (16, .bool x11)]) (by kernel_rfl) ?_
      refine WL.join (σ := Bool) 4 (fun st => inet_Check.k2 a0 st = some r) (fun st => [(1, .pointer (some ⟨b1, 0, none⟩)), (2, .int .i64 0), (20, .bool st)]) (fun st => Sat w Z [(b1, .cells #[.int .i64 a0.Tos, .int .i64 a0.Id, .bool a0.Whole, .bool a0.More, .int .i64 a0.Off, .int .i64 a0.Ttl, .int .i64 a0.Proto, .int .u32 a0.Src, .int .u32 a0.Dst, .string a0.Body] 91 (0, 0))] [] Glob) (fun st hM => ?_) (fun K2 => ?_)
      ·
        obtain ⟨x15, rfl⟩ : ∃ y, y = st := ⟨st, rfl⟩
        replace hM : inet_Check.k2 a0 x15 = some r := hM
        unfold inet_Check.k2 at hM
        show WL _ _ _ _ _ [(1, .pointer (some ⟨b1, 0, none⟩)), (2, .int .i64 0), (20, .bool x15)] (Sat w Z [(b1, .cells #[.int .i64 a0.Tos, .int .i64 a0.Id, .bool a0.Whole, .bool a0.More, .int .i64 a0.Off, .int .i64 a0.Ttl, .int .i64 a0.Proto, .int .u32 a0.Src, .int .u32 a0.Dst, .string a0.Body] 91 (0, 0))] [] Glob)
        refine WL.run 1 [] [1, 2, 21] (fun _ => [(1, .pointer (some ⟨b1, 0, none⟩)), (2, .int .i64 0), (21, .bool x15)]) (fun _ => [(b1, .cells #[.int .i64 a0.Tos, .int .i64 a0.Id, .bool a0.Whole, .bool a0.More, .int .i64 a0.Off, .int .i64 a0.Ttl, .int .i64 a0.Proto, .int .u32 a0.Src, .int .u32 a0.Dst, .string a0.Body] 91 (0, 0))]) (fun _ => []) (fun _ => by kernel_rfl) (fun _ => ?_)
        refine WL.sub [1, 2, 21] (L' := [(1, .pointer (some ⟨b1, 0, none⟩)), (2, .int .i64 0), (21, .bool x15)]) (by kernel_rfl) ?_
        refine WL.join (σ := Bool) 4 (fun st => inet_Check.k1 a0 st = some r) (fun st => [(1, .pointer (some ⟨b1, 0, none⟩)), (2, .int .i64 0), (25, .bool st)]) (fun st => Sat w Z [(b1, .cells #[.int .i64 a0.Tos, .int .i64 a0.Id, .bool a0.Whole, .bool a0.More, .int .i64 a0.Off, .int .i64 a0.Ttl, .int .i64 a0.Proto, .int .u32 a0.Src, .int .u32 a0.Dst, .string a0.Body] 91 (0, 0))] [] Glob) (fun st hM => ?_) (fun K1 => ?_)
        ·
          obtain ⟨x19, rfl⟩ : ∃ y, y = st := ⟨st, rfl⟩
          replace hM : inet_Check.k1 a0 x19 = some r := hM
          unfold inet_Check.k1 at hM
          show WL _ _ _ _ _ [(1, .pointer (some ⟨b1, 0, none⟩)), (2, .int .i64 0), (25, .bool x19)] (Sat w Z [(b1, .cells #[.int .i64 a0.Tos, .int .i64 a0.Id, .bool a0.Whole, .bool a0.More, .int .i64 a0.Off, .int .i64 a0.Ttl, .int .i64 a0.Proto, .int .u32 a0.Src, .int .u32 a0.Dst, .string a0.Body] 91 (0, 0))] [] Glob)
          refine WL.run 1 [] [1, 2, 26] (fun _ => [(1, .pointer (some ⟨b1, 0, none⟩)), (2, .int .i64 0), (26, .bool x19)]) (fun _ => [(b1, .cells #[.int .i64 a0.Tos, .int .i64 a0.Id, .bool a0.Whole, .bool a0.More, .int .i64 a0.Off, .int .i64 a0.Ttl, .int .i64 a0.Proto, .int .u32 a0.Src, .int .u32 a0.Dst, .string a0.Body] 91 (0, 0))]) (fun _ => []) (fun _ => by kernel_rfl) (fun _ => ?_)
          refine WL.sub [1, 2, 26] (L' := [(1, .pointer (some ⟨b1, 0, none⟩)), (2, .int .i64 0), (26, .bool x19)]) (by kernel_rfl) ?_
          refine WL.both (fun b' => [(1, .pointer (some ⟨b1, 0, none⟩)), (2, .int .i64 0), (26, .bool b')]) x19 5 [0] [] [2, 31] (fun b' => [(2, .int .i64 0), (31, .bool (b' && (decide ((a0.Body.size : Int) ≤ 65515))))]) [b1] [] (fun _ => by kernel_rfl) (fun _ => by kernel_rfl) ?_
          refine WP.done ?_
          refine WP.keep [false] (by kernel_rfl : _ = []) ?_
          refine WP.cond (x19 && (decide ((a0.Body.size : Int) ≤ 65515))) rfl rfl (fun c20 => ?_) (fun c20 => ?_)
          · replace hM := cond_t hM c20
            refine WP.seq ?_
            refine WP.run [] [2] (fun _ => [(2, .int .i64 0)]) (fun _ => []) (fun _ => []) (fun _ => by kernel_rfl) (fun _ => ?_)
            obtain rfl := Option.some.inj hM
            exact WP.ret [] [] (.int .i64 0) (by kernel_rfl) (fun w' hw => ⟨rfl, hw.pick [] rfl⟩)
          · replace hM := cond_f hM c20
            refine WP.skip ?_
            refine WP.seq ?_
            refine WP.run [] [2] (fun _ => [(2, .int .i64 61)]) (fun _ => []) (fun _ => []) (fun _ => by kernel_rfl) (fun _ => ?_)
            obtain rfl := Option.some.inj hM
            exact WP.ret [] [] (.int .i64 61) (by kernel_rfl) (fun w' hw => ⟨rfl, hw.pick [] rfl⟩)
        ·
          refine WL.split (fun b' => [(1, .pointer (some ⟨b1, 0, none⟩)), (2, .int .i64 0), (21, .bool b')]) x15 (fun c16 => ?_) (fun c16 => ?_)
          · replace hM := cond_t hM c16
            refine WL.run 2 [0] [1, 2, 21, 23] (fun _ => [(1, .pointer (some ⟨b1, 0, none⟩)), (2, .int .i64 0), (21, .bool true), (23, .int .i64 a0.Off)]) (fun _ => [(b1, .cells #[.int .i64 a0.Tos, .int .i64 a0.Id, .bool a0.Whole, .bool a0.More, .int .i64 a0.Off, .int .i64 a0.Ttl, .int .i64 a0.Proto, .int .u32 a0.Src, .int .u32 a0.Dst, .string a0.Body] 91 (0, 0))]) (fun _ => [b1]) (fun _ => by kernel_rfl) (fun _ => ?_)
            obtain ⟨r17, h18, hM⟩ := bind_some hM
            refine WL.callP [] [] (inet_below_calls a0.Off 8192 _ h18) (fun _ h => h) (by kernel_rfl) (by kernel_rfl) rfl ?_
            refine WL.run 1 [] [1, 2, 25] (fun _ => [(1, .pointer (some ⟨b1, 0, none⟩)), (2, .int .i64 0), (25, .bool r17)]) (fun _ => [(b1, .cells #[.int .i64 a0.Tos, .int .i64 a0.Id, .bool a0.Whole, .bool a0.More, .int .i64 a0.Off, .int .i64 a0.Ttl, .int .i64 a0.Proto, .int .u32 a0.Src, .int .u32 a0.Dst, .string a0.Body] 91 (0, 0))]) (fun _ => []) (fun _ => by kernel_rfl) (fun _ => ?_)
            exact WL.sub [1, 2, 25] (by kernel_rfl) (WL.pick [0] (by kernel_rfl) (by kernel_rfl) (K1 r17 hM))
          · replace hM := cond_f hM c16
            refine WL.run 4 [] [1, 2, 25] (fun _ => [(1, .pointer (some ⟨b1, 0, none⟩)), (2, .int .i64 0), (25, .bool false)]) (fun _ => [(b1, .cells #[.int .i64 a0.Tos, .int .i64 a0.Id, .bool a0.Whole, .bool a0.More, .int .i64 a0.Off, .int .i64 a0.Ttl, .int .i64 a0.Proto, .int .u32 a0.Src, .int .u32 a0.Dst, .string a0.Body] 91 (0, 0))]) (fun _ => []) (fun _ => by kernel_rfl) (fun _ => ?_)
            exact WL.sub [1, 2, 25] (by kernel_rfl) (WL.pick [0] (by kernel_rfl) (by kernel_rfl) (K1 false hM))
      ·
        refine WL.split (fun b' => [(1, .pointer (some ⟨b1, 0, none⟩)), (2, .int .i64 0), (16, .bool b')]) x11 (fun c12 => ?_) (fun c12 => ?_)
        · replace hM := cond_t hM c12
          refine WL.run 2 [0] [1, 2, 16, 18] (fun _ => [(1, .pointer (some ⟨b1, 0, none⟩)), (2, .int .i64 0), (16, .bool true), (18, .int .i64 a0.Id)]) (fun _ => [(b1, .cells #[.int .i64 a0.Tos, .int .i64 a0.Id, .bool a0.Whole, .bool a0.More, .int .i64 a0.Off, .int .i64 a0.Ttl, .int .i64 a0.Proto, .int .u32 a0.Src, .int .u32 a0.Dst, .string a0.Body] 91 (0, 0))]) (fun _ => [b1]) (fun _ => by kernel_rfl) (fun _ => ?_)
          obtain ⟨r13, h14, hM⟩ := bind_some hM
          refine WL.callP [] [] (inet_below_calls a0.Id 65536 _ h14) (fun _ h => h) (by kernel_rfl) (by kernel_rfl) rfl ?_
          refine WL.run 1 [] [1, 2, 20] (fun _ => [(1, .pointer (some ⟨b1, 0, none⟩)), (2, .int .i64 0), (20, .bool r13)]) (fun _ => [(b1, .cells #[.int .i64 a0.Tos, .int .i64 a0.Id, .bool a0.Whole, .bool a0.More, .int .i64 a0.Off, .int .i64 a0.Ttl, .int .i64 a0.Proto, .int .u32 a0.Src, .int .u32 a0.Dst, .string a0.Body] 91 (0, 0))]) (fun _ => []) (fun _ => by kernel_rfl) (fun _ => ?_)
          exact WL.sub [1, 2, 20] (by kernel_rfl) (WL.pick [0] (by kernel_rfl) (by kernel_rfl) (K2 r13 hM))
        · replace hM := cond_f hM c12
          refine WL.run 4 [] [1, 2, 20] (fun _ => [(1, .pointer (some ⟨b1, 0, none⟩)), (2, .int .i64 0), (20, .bool false)]) (fun _ => [(b1, .cells #[.int .i64 a0.Tos, .int .i64 a0.Id, .bool a0.Whole, .bool a0.More, .int .i64 a0.Off, .int .i64 a0.Ttl, .int .i64 a0.Proto, .int .u32 a0.Src, .int .u32 a0.Dst, .string a0.Body] 91 (0, 0))]) (fun _ => []) (fun _ => by kernel_rfl) (fun _ => ?_)
          exact WL.sub [1, 2, 20] (by kernel_rfl) (WL.pick [0] (by kernel_rfl) (by kernel_rfl) (K2 false hM))
    ·
      refine WL.split (fun b' => [(1, .pointer (some ⟨b1, 0, none⟩)), (2, .int .i64 0), (11, .bool b')]) x7 (fun c8 => ?_) (fun c8 => ?_)
      · replace hM := cond_t hM c8
        refine WL.run 2 [0] [1, 2, 11, 13] (fun _ => [(1, .pointer (some ⟨b1, 0, none⟩)), (2, .int .i64 0), (11, .bool true), (13, .int .i64 a0.Proto)]) (fun _ => [(b1, .cells #[.int .i64 a0.Tos, .int .i64 a0.Id, .bool a0.Whole, .bool a0.More, .int .i64 a0.Off, .int .i64 a0.Ttl, .int .i64 a0.Proto, .int .u32 a0.Src, .int .u32 a0.Dst, .string a0.Body] 91 (0, 0))]) (fun _ => [b1]) (fun _ => by kernel_rfl) (fun _ => ?_)
        obtain ⟨r9, h10, hM⟩ := bind_some hM
        refine WL.callP [] [] (inet_below_calls a0.Proto 256 _ h10) (fun _ h => h) (by kernel_rfl) (by kernel_rfl) rfl ?_
        refine WL.run 1 [] [1, 2, 15] (fun _ => [(1, .pointer (some ⟨b1, 0, none⟩)), (2, .int .i64 0), (15, .bool r9)]) (fun _ => [(b1, .cells #[.int .i64 a0.Tos, .int .i64 a0.Id, .bool a0.Whole, .bool a0.More, .int .i64 a0.Off, .int .i64 a0.Ttl, .int .i64 a0.Proto, .int .u32 a0.Src, .int .u32 a0.Dst, .string a0.Body] 91 (0, 0))]) (fun _ => []) (fun _ => by kernel_rfl) (fun _ => ?_)
        exact WL.sub [1, 2, 15] (by kernel_rfl) (WL.pick [0] (by kernel_rfl) (by kernel_rfl) (K3 r9 hM))
      · replace hM := cond_f hM c8
        refine WL.run 4 [] [1, 2, 15] (fun _ => [(1, .pointer (some ⟨b1, 0, none⟩)), (2, .int .i64 0), (15, .bool false)]) (fun _ => [(b1, .cells #[.int .i64 a0.Tos, .int .i64 a0.Id, .bool a0.Whole, .bool a0.More, .int .i64 a0.Off, .int .i64 a0.Ttl, .int .i64 a0.Proto, .int .u32 a0.Src, .int .u32 a0.Dst, .string a0.Body] 91 (0, 0))]) (fun _ => []) (fun _ => by kernel_rfl) (fun _ => ?_)
        exact WL.sub [1, 2, 15] (by kernel_rfl) (WL.pick [0] (by kernel_rfl) (by kernel_rfl) (K3 false hM))
  ·
    refine WL.split (fun b' => [(1, .pointer (some ⟨b1, 0, none⟩)), (2, .int .i64 0), (6, .bool b')]) r2 (fun c4 => ?_) (fun c4 => ?_)
    · replace hM := cond_t hM c4
      refine WL.run 2 [0] [1, 2, 6, 8] (fun _ => [(1, .pointer (some ⟨b1, 0, none⟩)), (2, .int .i64 0), (6, .bool true), (8, .int .i64 a0.Ttl)]) (fun _ => [(b1, .cells #[.int .i64 a0.Tos, .int .i64 a0.Id, .bool a0.Whole, .bool a0.More, .int .i64 a0.Off, .int .i64 a0.Ttl, .int .i64 a0.Proto, .int .u32 a0.Src, .int .u32 a0.Dst, .string a0.Body] 91 (0, 0))]) (fun _ => [b1]) (fun _ => by kernel_rfl) (fun _ => ?_)
      obtain ⟨r5, h6, hM⟩ := bind_some hM
      refine WL.callP [] [] (inet_below_calls a0.Ttl 256 _ h6) (fun _ h => h) (by kernel_rfl) (by kernel_rfl) rfl ?_
      refine WL.run 1 [] [1, 2, 10] (fun _ => [(1, .pointer (some ⟨b1, 0, none⟩)), (2, .int .i64 0), (10, .bool r5)]) (fun _ => [(b1, .cells #[.int .i64 a0.Tos, .int .i64 a0.Id, .bool a0.Whole, .bool a0.More, .int .i64 a0.Off, .int .i64 a0.Ttl, .int .i64 a0.Proto, .int .u32 a0.Src, .int .u32 a0.Dst, .string a0.Body] 91 (0, 0))]) (fun _ => []) (fun _ => by kernel_rfl) (fun _ => ?_)
      exact WL.sub [1, 2, 10] (by kernel_rfl) (WL.pick [0] (by kernel_rfl) (by kernel_rfl) (K4 r5 hM))
    · replace hM := cond_f hM c4
      refine WL.run 4 [] [1, 2, 10] (fun _ => [(1, .pointer (some ⟨b1, 0, none⟩)), (2, .int .i64 0), (10, .bool false)]) (fun _ => [(b1, .cells #[.int .i64 a0.Tos, .int .i64 a0.Id, .bool a0.Whole, .bool a0.More, .int .i64 a0.Off, .int .i64 a0.Ttl, .int .i64 a0.Proto, .int .u32 a0.Src, .int .u32 a0.Dst, .string a0.Body] 91 (0, 0))]) (fun _ => []) (fun _ => by kernel_rfl) (fun _ => ?_)
      exact WL.sub [1, 2, 10] (by kernel_rfl) (WL.pick [0] (by kernel_rfl) (by kernel_rfl) (K4 false hM))

end Go.Proofs.YtbodofjnfmjbpaaGreatDoor

namespace Go.Proofs.YtbodofjnfmjbpaaGreatDoor
open Go Eng
set_option linter.unusedVariables false
set_option linter.unusedSimpArgs false

/-! ### gangway/inet.word: function 70 -/
def inet_word.f (k : Nat) (a0 : Int) : Option (ByteArray) :=
  (octets_Put.f k (u64 a0) 2).bind fun (r1, r2) =>
  some r1

set_option maxRecDepth 100000 in
theorem inet_word_calls (k : Nat) (a0 : Int) (r : ByteArray) (h : inet_word.f k a0 = some r) : Pure Tryz.prog Glob 70 #[.int .i64 a0] (.string r) := by
  intro w Z hS
  refine calls_of (args := [.int .i64 a0]) (L := [(0, .int .i64 a0)]) (N := 12) (S := Sat w Z [] [] Glob) Tryz.func70 rfl rfl (Nat.le_of_ble_eq_true rfl) rfl hS ?_
  have hM := h
  clear h hS
  unfold inet_word.f at hM
  refine WP.seq ?_
  refine WP.run [] [0, 2] (fun _ => [(0, .int .i64 a0), (2, .string (⟨#[]⟩ : ByteArray))]) (fun _ => []) (fun _ => []) (fun _ => by kernel_rfl) (fun _ => ?_)
  refine WP.seq ?_
  refine WP.region ?_
  refine WL.run 2 [] [2, 7] (fun _ => [(2, .string (⟨#[]⟩ : ByteArray)), (7, .int .u64 (u64 a0))]) (fun _ => []) (fun _ => []) (fun _ => by kernel_rfl) (fun _ => ?_)
  obtain ⟨⟨r1, r2⟩, h3, hM⟩ := bind_some hM
  dsimp only at hM
  refine WL.callP [] [] (octets_Put_calls k (u64 a0) 2 _ h3) (fun _ h => h) (by kernel_rfl) (by kernel_rfl) rfl ?_
  refine WL.run 5 [] [2, 3] (fun _ => [(2, .string (⟨#[]⟩ : ByteArray)), (3, .string r1)]) (fun _ => []) (fun _ => []) (fun _ => by kernel_rfl) (fun _ => ?_)
  refine WP.done ?_
  refine WP.seq ?_
  refine WP.run [] [2] (fun _ => [(2, .string r1)]) (fun _ => []) (fun _ => []) (fun _ => by kernel_rfl) (fun _ => ?_)
  obtain rfl := Option.some.inj hM
  exact WP.ret [] [] (.string r1) (by kernel_rfl) (fun w' hw => ⟨rfl, hw.pick [] rfl⟩)

end Go.Proofs.YtbodofjnfmjbpaaGreatDoor

namespace Go.Proofs.YtbodofjnfmjbpaaGreatDoor
open Go Eng
set_option linter.unusedVariables false
set_option linter.unusedSimpArgs false

/-! ### gangway/inet.flags: function 71 -/
def inet_flags.k1 (x5 : Int) : Option (Int) :=
  some x5

def inet_flags.k2 (a0 : api_Ip) (x3 : Int) : Option (Int) :=
  bif a0.More then
    inet_flags.k1 (bOr .i64 x3 8192)
  else
    inet_flags.k1 x3

def inet_flags.f (a0 : api_Ip) : Option (Int) :=
  bif a0.Whole then
    inet_flags.k2 a0 (bOr .i64 a0.Off 16384)
  else
    inet_flags.k2 a0 a0.Off

set_option maxRecDepth 100000 in
theorem inet_flags_calls (a0 : api_Ip) (r : Int) (h : inet_flags.f a0 = some r) : Pure Tryz.prog Glob 71 #[.agg #[.int .i64 a0.Tos, .int .i64 a0.Id, .bool a0.Whole, .bool a0.More, .int .i64 a0.Off, .int .i64 a0.Ttl, .int .i64 a0.Proto, .int .u32 a0.Src, .int .u32 a0.Dst, .string a0.Body]] (.int .i64 r) := by
  intro w Z hS
  refine calls_of (args := [.agg #[.int .i64 a0.Tos, .int .i64 a0.Id, .bool a0.Whole, .bool a0.More, .int .i64 a0.Off, .int .i64 a0.Ttl, .int .i64 a0.Proto, .int .u32 a0.Src, .int .u32 a0.Dst, .string a0.Body]]) (L := [(0, .agg #[.int .i64 a0.Tos, .int .i64 a0.Id, .bool a0.Whole, .bool a0.More, .int .i64 a0.Off, .int .i64 a0.Ttl, .int .i64 a0.Proto, .int .u32 a0.Src, .int .u32 a0.Dst, .string a0.Body])]) (N := 15) (S := Sat w Z [] [] Glob) Tryz.func71 rfl rfl (Nat.le_of_ble_eq_true rfl) rfl hS ?_
  have hM := h
  clear h hS
  unfold inet_flags.f at hM
  refine WP.seq ?_
  refine WP.run [] [1, 2] (fun b1 => [(1, .pointer (some ⟨b1, 0, none⟩)), (2, .int .i64 0)]) (fun b1 => [(b1, .cells #[.int .i64 a0.Tos, .int .i64 a0.Id, .bool a0.Whole, .bool a0.More, .int .i64 a0.Off, .int .i64 a0.Ttl, .int .i64 a0.Proto, .int .u32 a0.Src, .int .u32 a0.Dst, .string a0.Body] 91 (0, 0))]) (fun b1 => []) (fun b1 => by kernel_rfl) (fun b1 => ?_)
  refine WP.seq ?_
  refine WP.run [0] [1, 2, 3] (fun _ => [(1, .pointer (some ⟨b1, 0, none⟩)), (2, .int .i64 0), (3, .int .i64 a0.Off)]) (fun _ => [(b1, .cells #[.int .i64 a0.Tos, .int .i64 a0.Id, .bool a0.Whole, .bool a0.More, .int .i64 a0.Off, .int .i64 a0.Ttl, .int .i64 a0.Proto, .int .u32 a0.Src, .int .u32 a0.Dst, .string a0.Body] 91 (0, 0))]) (fun _ => [b1]) (fun _ => by kernel_rfl) (fun _ => ?_)
  refine WP.seqJoin (σ := Int) (fun st => inet_flags.k2 a0 st = some r) (fun st => [(1, .pointer (some ⟨b1, 0, none⟩)), (2, .int .i64 0), (3, .int .i64 st)]) (fun st => Sat w Z [(b1, .cells #[.int .i64 a0.Tos, .int .i64 a0.Id, .bool a0.Whole, .bool a0.More, .int .i64 a0.Off, .int .i64 a0.Ttl, .int .i64 a0.Proto, .int .u32 a0.Src, .int .u32 a0.Dst, .string a0.Body] 91 (0, 0))] [] Glob) (fun st hM => ?_) (fun K2 => ?_)
  ·
    obtain ⟨x3, rfl⟩ : ∃ y, y = st := ⟨st, rfl⟩
    replace hM : inet_flags.k2 a0 x3 = some r := hM
    unfold inet_flags.k2 at hM
    show WP _ _ _ _ _ [(1, .pointer (some ⟨b1, 0, none⟩)), (2, .int .i64 0), (3, .int .i64 x3)] (Sat w Z [(b1, .cells #[.int .i64 a0.Tos, .int .i64 a0.Id, .bool a0.Whole, .bool a0.More, .int .i64 a0.Off, .int .i64 a0.Ttl, .int .i64 a0.Proto, .int .u32 a0.Src, .int .u32 a0.Dst, .string a0.Body] 91 (0, 0))] [] Glob)
    refine WP.seqJoin (σ := Int) (fun st => inet_flags.k1 st = some r) (fun st => [(2, .int .i64 0), (3, .int .i64 st)]) (fun st => Sat w Z [] [] Glob) (fun st hM => ?_) (fun K1 => ?_)
    ·
      obtain ⟨x5, rfl⟩ : ∃ y, y = st := ⟨st, rfl⟩
      replace hM : inet_flags.k1 x5 = some r := hM
      unfold inet_flags.k1 at hM
      show WP _ _ _ _ _ [(2, .int .i64 0), (3, .int .i64 x5)] (Sat w Z [] [] Glob)
      refine WP.seq ?_
      refine WP.run [] [2] (fun _ => [(2, .int .i64 x5)]) (fun _ => []) (fun _ => []) (fun _ => by kernel_rfl) (fun _ => ?_)
      obtain rfl := Option.some.inj hM
      exact WP.ret [] [] (.int .i64 x5) (by kernel_rfl) (fun w' hw => ⟨rfl, hw.pick [] rfl⟩)
    ·
      refine WP.seq ?_
      refine WP.run [0] [2, 3, 11] (fun _ => [(2, .int .i64 0), (3, .int .i64 x3), (11, .bool a0.More)]) (fun _ => [(b1, .cells #[.int .i64 a0.Tos, .int .i64 a0.Id, .bool a0.Whole, .bool a0.More, .int .i64 a0.Off, .int .i64 a0.Ttl, .int .i64 a0.Proto, .int .u32 a0.Src, .int .u32 a0.Dst, .string a0.Body] 91 (0, 0))]) (fun _ => [b1]) (fun _ => by kernel_rfl) (fun _ => ?_)
      refine WP.keep [false] (by kernel_rfl : _ = []) ?_
      refine WP.cond a0.More rfl rfl (fun c4 => ?_) (fun c4 => ?_)
      · replace hM := cond_t hM c4
        refine WP.run [] [2, 3] (fun _ => [(2, .int .i64 0), (3, .int .i64 (bOr .i64 x3 8192))]) (fun _ => []) (fun _ => []) (fun _ => by kernel_rfl) (fun _ => ?_)
        exact WP.sub [2, 3] (by kernel_rfl) (WP.pick [] (by kernel_rfl) (by kernel_rfl) (K1 (bOr .i64 x3 8192) hM))
      · replace hM := cond_f hM c4
        refine WP.skip ?_
        exact WP.sub [2, 3] (by kernel_rfl) (WP.pick [] (by kernel_rfl) (by kernel_rfl) (K1 x3 hM))
  ·
    refine WP.seq ?_
    refine WP.run [0] [1, 2, 3, 7] (fun _ => [(1, .pointer (some ⟨b1, 0, none⟩)), (2, .int .i64 0), (3, .int .i64 a0.Off), (7, .bool a0.Whole)]) (fun _ => [(b1, .cells #[.int .i64 a0.Tos, .int .i64 a0.Id, .bool a0.Whole, .bool a0.More, .int .i64 a0.Off, .int .i64 a0.Ttl, .int .i64 a0.Proto, .int .u32 a0.Src, .int .u32 a0.Dst, .string a0.Body] 91 (0, 0))]) (fun _ => [b1]) (fun _ => by kernel_rfl) (fun _ => ?_)
    refine WP.cond a0.Whole rfl rfl (fun c2 => ?_) (fun c2 => ?_)
    · replace hM := cond_t hM c2
      refine WP.run [] [1, 2, 3] (fun _ => [(1, .pointer (some ⟨b1, 0, none⟩)), (2, .int .i64 0), (3, .int .i64 (bOr .i64 a0.Off 16384))]) (fun _ => [(b1, .cells #[.int .i64 a0.Tos, .int .i64 a0.Id, .bool a0.Whole, .bool a0.More, .int .i64 a0.Off, .int .i64 a0.Ttl, .int .i64 a0.Proto, .int .u32 a0.Src, .int .u32 a0.Dst, .string a0.Body] 91 (0, 0))]) (fun _ => []) (fun _ => by kernel_rfl) (fun _ => ?_)
      exact WP.sub [1, 2, 3] (by kernel_rfl) (WP.pick [0] (by kernel_rfl) (by kernel_rfl) (K2 (bOr .i64 a0.Off 16384) hM))
    · replace hM := cond_f hM c2
      refine WP.skip ?_
      exact WP.sub [1, 2, 3] (by kernel_rfl) (WP.pick [0] (by kernel_rfl) (by kernel_rfl) (K2 a0.Off hM))

end Go.Proofs.YtbodofjnfmjbpaaGreatDoor

namespace Go.Proofs.YtbodofjnfmjbpaaGreatDoor
open Go Eng
set_option linter.unusedVariables false
set_option linter.unusedSimpArgs false

/-! ### gangway/inet.Build: function 41 -/
def inet_Build.f (k : Nat) (a0 : api_Ip) : Option (ByteArray × Int) :=
  (inet_Check.f a0).bind fun r2 =>
  bif (r2 != 0) then
    some ((⟨#[]⟩ : ByteArray), r2)
  else
    (octets_Put.f k (u64 a0.Src) 4).bind fun (r5, r6) =>
    (octets_Put.f k (u64 a0.Dst) 4).bind fun (r8, r9) =>
    (inet_word.f k (i64 (20 + (a0.Body.size : Int)))).bind fun r13 =>
    (catS (ByteArray.push (ByteArray.push ByteArray.empty (UInt8.ofNat (Int.toNat 69))) (UInt8.ofNat (Int.toNat (u8 a0.Tos)))) r13).bind fun t15 =>
    (inet_word.f k a0.Id).bind fun r17 =>
    (catS t15 r17).bind fun t19 =>
    (inet_flags.f a0).bind fun r21 =>
    (inet_word.f k r21).bind fun r23 =>
    (catS t19 r23).bind fun t25 =>
    (catS t25 (ByteArray.push (ByteArray.push ByteArray.empty (UInt8.ofNat (Int.toNat (u8 a0.Ttl)))) (UInt8.ofNat (Int.toNat (u8 a0.Proto))))).bind fun t28 =>
    (catS r5 r8).bind fun t30 =>
    (inet_word.f k 0).bind fun r33 =>
    (csum_Of.f k ([t28, r33, t30] : List ByteArray)).bind fun r36 =>
    (inet_word.f k r36).bind fun r38 =>
    (catS t28 r38).bind fun t40 =>
    (catS t40 t30).bind fun t42 =>
    (catS t42 a0.Body).bind fun t44 =>
    some (t44, 0)

set_option maxRecDepth 100000 in
theorem inet_Build_calls (k : Nat) (a0 : api_Ip) (r : ByteArray × Int) (h : inet_Build.f k a0 = some r) : Pure Tryz.prog Glob 41 #[.agg #[.int .i64 a0.Tos, .int .i64 a0.Id, .bool a0.Whole, .bool a0.More, .int .i64 a0.Off, .int .i64 a0.Ttl, .int .i64 a0.Proto, .int .u32 a0.Src, .int .u32 a0.Dst, .string a0.Body]] (.tuple #[.string r.1, .int .i64 r.2]) := by
  intro w Z hS
  refine calls_of (args := [.agg #[.int .i64 a0.Tos, .int .i64 a0.Id, .bool a0.Whole, .bool a0.More, .int .i64 a0.Off, .int .i64 a0.Ttl, .int .i64 a0.Proto, .int .u32 a0.Src, .int .u32 a0.Dst, .string a0.Body]]) (L := [(0, .agg #[.int .i64 a0.Tos, .int .i64 a0.Id, .bool a0.Whole, .bool a0.More, .int .i64 a0.Off, .int .i64 a0.Ttl, .int .i64 a0.Proto, .int .u32 a0.Src, .int .u32 a0.Dst, .string a0.Body])]) (N := 74) (S := Sat w Z [] [] Glob) Tryz.func41 rfl rfl (Nat.le_of_ble_eq_true rfl) rfl hS ?_
  have hM := h
  clear h hS
  unfold inet_Build.f at hM
  refine WP.less (Φ' := [] ++ Glob) (fun _ h => h) ?_
  refine WP.seq ?_
  refine WP.run [] [1, 2, 3] (fun b1 => [(1, .pointer (some ⟨b1, 0, none⟩)), (2, .string (⟨#[]⟩ : ByteArray)), (3, .int .i64 0)]) (fun b1 => [(b1, .cells #[.int .i64 a0.Tos, .int .i64 a0.Id, .bool a0.Whole, .bool a0.More, .int .i64 a0.Off, .int .i64 a0.Ttl, .int .i64 a0.Proto, .int .u32 a0.Src, .int .u32 a0.Dst, .string a0.Body] 91 (0, 0))]) (fun b1 => []) (fun b1 => by kernel_rfl) (fun b1 => ?_)
  refine WP.seq ?_
  refine WP.seq ?_
  refine WP.region ?_
  refine WL.run 1 [0, 0, 0, 0, 0, 0, 0, 0, 0, 0] [1, 2, 3, 11] (fun _ => [(1, .pointer (some ⟨b1, 0, none⟩)), (2, .string (⟨#[]⟩ : ByteArray)), (3, .int .i64 0), (11, .agg #[.int .i64 a0.Tos, .int .i64 a0.Id, .bool a0.Whole, .bool a0.More, .int .i64 a0.Off, .int .i64 a0.Ttl, .int .i64 a0.Proto, .int .u32 a0.Src, .int .u32 a0.Dst, .string a0.Body])]) (fun _ => [(b1, .cells #[.int .i64 a0.Tos, .int .i64 a0.Id, .bool a0.Whole, .bool a0.More, .int .i64 a0.Off, .int .i64 a0.Ttl, .int .i64 a0.Proto, .int .u32 a0.Src, .int .u32 a0.Dst, .string a0.Body] 91 (0, 0))]) (fun _ => [b1, b1, b1, b1, b1, b1, b1, b1, b1, b1]) (fun _ => by kernel_rfl) (fun _ => ?_)
  obtain ⟨r2, h3, hM⟩ := bind_some hM
  refine WL.callP [] [] (inet_Check_calls a0 _ h3) (fun _ h => List.mem_append_right _ h) (by kernel_rfl) (by kernel_rfl) rfl ?_
  refine WL.run 1 [] [1, 2, 3, 4] (fun _ => [(1, .pointer (some ⟨b1, 0, none⟩)), (2, .string (⟨#[]⟩ : ByteArray)), (3, .int .i64 0), (4, .int .i64 r2)]) (fun _ => [(b1, .cells #[.int .i64 a0.Tos, .int .i64 a0.Id, .bool a0.Whole, .bool a0.More, .int .i64 a0.Off, .int .i64 a0.Ttl, .int .i64 a0.Proto, .int .u32 a0.Src, .int .u32 a0.Dst, .string a0.Body] 91 (0, 0))]) (fun _ => []) (fun _ => by kernel_rfl) (fun _ => ?_)
  refine WP.done ?_
  refine WP.seq ?_
  refine WP.run [] [1, 2, 3, 4, 14] (fun _ => [(1, .pointer (some ⟨b1, 0, none⟩)), (2, .string (⟨#[]⟩ : ByteArray)), (3, .int .i64 0), (4, .int .i64 r2), (14, .bool (r2 != 0))]) (fun _ => [(b1, .cells #[.int .i64 a0.Tos, .int .i64 a0.Id, .bool a0.Whole, .bool a0.More, .int .i64 a0.Off, .int .i64 a0.Ttl, .int .i64 a0.Proto, .int .u32 a0.Src, .int .u32 a0.Dst, .string a0.Body] 91 (0, 0))]) (fun _ => []) (fun _ => by kernel_rfl) (fun _ => ?_)
  refine WP.cond (r2 != 0) rfl rfl (fun c4 => ?_) (fun c4 => ?_)
  · replace hM := cond_t hM c4
    refine WP.seq ?_
    refine WP.run [] [1, 2, 3] (fun _ => [(1, .pointer (some ⟨b1, 0, none⟩)), (2, .string (⟨#[]⟩ : ByteArray)), (3, .int .i64 r2)]) (fun _ => [(b1, .cells #[.int .i64 a0.Tos, .int .i64 a0.Id, .bool a0.Whole, .bool a0.More, .int .i64 a0.Off, .int .i64 a0.Ttl, .int .i64 a0.Proto, .int .u32 a0.Src, .int .u32 a0.Dst, .string a0.Body] 91 (0, 0))]) (fun _ => []) (fun _ => by kernel_rfl) (fun _ => ?_)
    obtain rfl := Option.some.inj hM
    exact WP.ret [] [] (.tuple #[.string (⟨#[]⟩ : ByteArray), .int .i64 r2]) (by kernel_rfl) (fun w' hw => ⟨rfl, (hw.pick [] rfl).less (fun _ h => List.mem_append_right _ h)⟩)
  · replace hM := cond_f hM c4
    refine WP.skip ?_
    refine WP.seq ?_
    refine WP.region ?_
    refine WL.run 3 [0] [1, 2, 3, 19] (fun _ => [(1, .pointer (some ⟨b1, 0, none⟩)), (2, .string (⟨#[]⟩ : ByteArray)), (3, .int .i64 0), (19, .int .u64 (u64 a0.Src))]) (fun _ => [(b1, .cells #[.int .i64 a0.Tos, .int .i64 a0.Id, .bool a0.Whole, .bool a0.More, .int .i64 a0.Off, .int .i64 a0.Ttl, .int .i64 a0.Proto, .int .u32 a0.Src, .int .u32 a0.Dst, .string a0.Body] 91 (0, 0))]) (fun _ => [b1]) (fun _ => by kernel_rfl) (fun _ => ?_)
    obtain ⟨⟨r5, r6⟩, h7, hM⟩ := bind_some hM
    dsimp only at hM
    refine WL.callP [] [] (octets_Put_calls k (u64 a0.Src) 4 _ h7) (fun _ h => List.mem_append_right _ h) (by kernel_rfl) (by kernel_rfl) rfl ?_
    refine WL.run 5 [] [1, 2, 3, 5] (fun _ => [(1, .pointer (some ⟨b1, 0, none⟩)), (2, .string (⟨#[]⟩ : ByteArray)), (3, .int .i64 0), (5, .string r5)]) (fun _ => [(b1, .cells #[.int .i64 a0.Tos, .int .i64 a0.Id, .bool a0.Whole, .bool a0.More, .int .i64 a0.Off, .int .i64 a0.Ttl, .int .i64 a0.Proto, .int .u32 a0.Src, .int .u32 a0.Dst, .string a0.Body] 91 (0, 0))]) (fun _ => []) (fun _ => by kernel_rfl) (fun _ => ?_)
    refine WP.done ?_
    refine WP.seq ?_
    refine WP.region ?_
    refine WL.run 3 [0] [1, 2, 3, 5, 26] (fun _ => [(1, .pointer (some ⟨b1, 0, none⟩)), (2, .string (⟨#[]⟩ : ByteArray)), (3, .int .i64 0), (5, .string r5), (26, .int .u64 (u64 a0.Dst))]) (fun _ => [(b1, .cells #[.int .i64 a0.Tos, .int .i64 a0.Id, .bool a0.Whole, .bool a0.More, .int .i64 a0.Off, .int .i64 a0.Ttl, .int .i64 a0.Proto, .int .u32 a0.Src, .int .u32 a0.Dst, .string a0.Body] 91 (0, 0))]) (fun _ => [b1]) (fun _ => by kernel_rfl) (fun _ => ?_)
    obtain ⟨⟨r8, r9⟩, h10, hM⟩ := bind_some hM
    dsimp only at hM
    refine WL.callP [] [] (octets_Put_calls k (u64 a0.Dst) 4 _ h10) (fun _ h => List.mem_append_right _ h) (by kernel_rfl) (by kernel_rfl) rfl ?_
    refine WL.run 5 [] [1, 2, 3, 5, 7] (fun _ => [(1, .pointer (some ⟨b1, 0, none⟩)), (2, .string (⟨#[]⟩ : ByteArray)), (3, .int .i64 0), (5, .string r5), (7, .string r8)]) (fun _ => [(b1, .cells #[.int .i64 a0.Tos, .int .i64 a0.Id, .bool a0.Whole, .bool a0.More, .int .i64 a0.Off, .int .i64 a0.Ttl, .int .i64 a0.Proto, .int .u32 a0.Src, .int .u32 a0.Dst, .string a0.Body] 91 (0, 0))]) (fun _ => []) (fun _ => by kernel_rfl) (fun _ => ?_)
    refine WP.done ?_
    refine WP.seq ?_
    obtain ⟨r13, h14, hM⟩ := bind_some hM
    obtain ⟨t15, h16, hM⟩ := bind_some hM
    obtain ⟨r17, h18, hM⟩ := bind_some hM
    obtain ⟨t19, h20, hM⟩ := bind_some hM
    obtain ⟨r21, h22, hM⟩ := bind_some hM
    obtain ⟨r23, h24, hM⟩ := bind_some hM
    obtain ⟨t25, h26, hM⟩ := bind_some hM
    refine WP.sub [1, 2, 3, 5, 7] (L' := [(1, .pointer (some ⟨b1, 0, none⟩)), (2, .string (⟨#[]⟩ : ByteArray)), (3, .int .i64 0), (5, .string r5), (7, .string r8)]) (by kernel_rfl) ?_
    refine WP.mixed (X := Unit) 27 [.val (.pointer (some ⟨b1, 0, none⟩)), .val (.int .i64 a0.Tos), .val (.int .u8 (u8 a0.Tos)), .alloc (.cells #[.int .u8 69, .int .u8 (u8 a0.Tos)] 5 (0, 0)) (fun b => .slice (some ⟨b, 0, none⟩) 2 2), .use 3 (.string (ByteArray.push (ByteArray.push ByteArray.empty (UInt8.ofNat (Int.toNat 69))) (UInt8.ofNat (Int.toNat (u8 a0.Tos))))), .val (.pointer (some ⟨b1, 9, none⟩)), .val (.string a0.Body), .val (.int .i64 (a0.Body.size : Int)), .val (.int .i64 (i64 (20 + (a0.Body.size : Int)))), .val (.string r13), .val (.string t15), .val (.pointer (some ⟨b1, 1, none⟩)), .val (.int .i64 a0.Id), .val (.string r17), .val (.string t19), .val (.agg #[.int .i64 a0.Tos, .int .i64 a0.Id, .bool a0.Whole, .bool a0.More, .int .i64 a0.Off, .int .i64 a0.Ttl, .int .i64 a0.Proto, .int .u32 a0.Src, .int .u32 a0.Dst, .string a0.Body]), .val (.int .i64 r21), .val (.string r23), .val (.string t25), .val (.pointer (some ⟨b1, 5, none⟩)), .val (.int .i64 a0.Ttl), .val (.int .u8 (u8 a0.Ttl)), .val (.pointer (some ⟨b1, 6, none⟩)), .val (.int .i64 a0.Proto), .val (.int .u8 (u8 a0.Proto)), .alloc (.cells #[.int .u8 (u8 a0.Ttl), .int .u8 (u8 a0.Proto)] 5 (0, 0)) (fun b => .slice (some ⟨b, 0, none⟩) 2 2), .use 25 (.string (ByteArray.push (ByteArray.push ByteArray.empty (UInt8.ofNat (Int.toNat (u8 a0.Ttl)))) (UInt8.ofNat (Int.toNat (u8 a0.Proto)))))] [(b1, .cells #[.int .i64 a0.Tos, .int .i64 a0.Id, .bool a0.Whole, .bool a0.More, .int .i64 a0.Off, .int .i64 a0.Ttl, .int .i64 a0.Proto, .int .u32 a0.Src, .int .u32 a0.Dst, .string a0.Body] 91 (0, 0))] [] (by kernel_rfl) (by kernel_rfl) (by kernel_rfl) (by kernel_rfl) (Heads.val (fun tt Ψ => OpV.run [] [] (by kernel_rfl) (fun _ => by kernel_rfl)) (Heads.val (fun tt Ψ => OpV.run [0] [b1] (by kernel_rfl) (fun _ => by kernel_rfl)) (Heads.val (fun tt Ψ => OpV.run [] [] (by kernel_rfl) (fun _ => by kernel_rfl)) (Heads.alloc (fun _ => by kernel_rfl) (fun _ _ => by kernel_rfl) (Heads.use 33 (fun b => .slice (some ⟨b, 0, none⟩) 2 2) (.cells #[.int .u8 69, .int .u8 (u8 a0.Tos)] 5 (0, 0)) rfl rfl (fun _ _ => OpU.run [1, 1] (fun b => [b, b]) (fun _ => by kernel_rfl) (fun _ _ => by kernel_rfl)) (Heads.val (fun tt Ψ => OpV.run [] [] (by kernel_rfl) (fun _ => by kernel_rfl)) (Heads.val (fun tt Ψ => OpV.run [0] [b1] (by kernel_rfl) (fun _ => by kernel_rfl)) (Heads.val (fun tt Ψ => OpV.run [] [] (by kernel_rfl) (fun _ => by kernel_rfl)) (Heads.val (fun tt Ψ => OpV.run [] [] (by kernel_rfl) (fun _ => by kernel_rfl)) (Heads.val (fun tt Ψ => OpV.callF [] [] (fun _ h => (List.mem_append_right _ (List.mem_append_right _ h))) (inet_word_calls k (i64 (20 + (a0.Body.size : Int))) _ h14)  (fun _ => by kernel_rfl)) (Heads.val (fun tt Ψ => OpV.val (fun _ => run_catS (a := (ByteArray.push (ByteArray.push ByteArray.empty (UInt8.ofNat (Int.toNat 69))) (UInt8.ofNat (Int.toNat (u8 a0.Tos))))) (b := r13) (by kernel_rfl) (by kernel_rfl) h16) (by kernel_rfl)) (Heads.val (fun tt Ψ => OpV.run [] [] (by kernel_rfl) (fun _ => by kernel_rfl)) (Heads.val (fun tt Ψ => OpV.run [0] [b1] (by kernel_rfl) (fun _ => by kernel_rfl)) (Heads.val (fun tt Ψ => OpV.callF [] [] (fun _ h => (List.mem_append_right _ (List.mem_append_right _ h))) (inet_word_calls k a0.Id _ h18)  (fun _ => by kernel_rfl)) (Heads.val (fun tt Ψ => OpV.val (fun _ => run_catS (a := t15) (b := r17) (by kernel_rfl) (by kernel_rfl) h20) (by kernel_rfl)) (Heads.val (fun tt Ψ => OpV.run [0, 0, 0, 0, 0, 0, 0, 0, 0, 0] [b1, b1, b1, b1, b1, b1, b1, b1, b1, b1] (by kernel_rfl) (fun _ => by kernel_rfl)) (Heads.val (fun tt Ψ => OpV.callF [] [] (fun _ h => (List.mem_append_right _ (List.mem_append_right _ h))) (inet_flags_calls a0 _ h22)  (fun _ => by kernel_rfl)) (Heads.val (fun tt Ψ => OpV.callF [] [] (fun _ h => (List.mem_append_right _ (List.mem_append_right _ h))) (inet_word_calls k r21 _ h24)  (fun _ => by kernel_rfl)) (Heads.val (fun tt Ψ => OpV.val (fun _ => run_catS (a := t19) (b := r23) (by kernel_rfl) (by kernel_rfl) h26) (by kernel_rfl)) (Heads.val (fun tt Ψ => OpV.run [] [] (by kernel_rfl) (fun _ => by kernel_rfl)) (Heads.val (fun tt Ψ => OpV.run [0] [b1] (by kernel_rfl) (fun _ => by kernel_rfl)) (Heads.val (fun tt Ψ => OpV.run [] [] (by kernel_rfl) (fun _ => by kernel_rfl)) (Heads.val (fun tt Ψ => OpV.run [] [] (by kernel_rfl) (fun _ => by kernel_rfl)) (Heads.val (fun tt Ψ => OpV.run [0] [b1] (by kernel_rfl) (fun _ => by kernel_rfl)) (Heads.val (fun tt Ψ => OpV.run [] [] (by kernel_rfl) (fun _ => by kernel_rfl)) (Heads.alloc (fun _ => by kernel_rfl) (fun _ _ => by kernel_rfl) (Heads.use 55 (fun b => .slice (some ⟨b, 0, none⟩) 2 2) (.cells #[.int .u8 (u8 a0.Ttl), .int .u8 (u8 a0.Proto)] 5 (0, 0)) rfl rfl (fun _ _ => OpU.run [1, 1] (fun b => [b, b]) (fun _ => by kernel_rfl) (fun _ _ => by kernel_rfl)) Heads.nil))))))))))))))))))))))))))) (fun s11 tt => [(30, .pointer (some ⟨b1, 0, none⟩)), (31, .int .i64 a0.Tos), (32, .int .u8 (u8 a0.Tos)), (33, .slice (some ⟨(s11 3), 0, none⟩) 2 2), (34, .string (ByteArray.push (ByteArray.push ByteArray.empty (UInt8.ofNat (Int.toNat 69))) (UInt8.ofNat (Int.toNat (u8 a0.Tos))))), (35, .pointer (some ⟨b1, 9, none⟩)), (36, .string a0.Body), (37, .int .i64 (a0.Body.size : Int)), (38, .int .i64 (i64 (20 + (a0.Body.size : Int)))), (39, .string r13), (40, .string t15), (41, .pointer (some ⟨b1, 1, none⟩)), (42, .int .i64 a0.Id), (43, .string r17), (44, .string t19), (45, .agg #[.int .i64 a0.Tos, .int .i64 a0.Id, .bool a0.Whole, .bool a0.More, .int .i64 a0.Off, .int .i64 a0.Ttl, .int .i64 a0.Proto, .int .u32 a0.Src, .int .u32 a0.Dst, .string a0.Body]), (46, .int .i64 r21), (47, .string r23), (48, .string t25), (49, .pointer (some ⟨b1, 5, none⟩)), (50, .int .i64 a0.Ttl), (51, .int .u8 (u8 a0.Ttl)), (52, .pointer (some ⟨b1, 6, none⟩)), (53, .int .i64 a0.Proto), (54, .int .u8 (u8 a0.Proto)), (55, .slice (some ⟨(s11 25), 0, none⟩) 2 2), (56, .string (ByteArray.push (ByteArray.push ByteArray.empty (UInt8.ofNat (Int.toNat (u8 a0.Ttl)))) (UInt8.ofNat (Int.toNat (u8 a0.Proto))))), (1, .pointer (some ⟨b1, 0, none⟩)), (2, .string (⟨#[]⟩ : ByteArray)), (3, .int .i64 0), (5, .string r5), (7, .string r8)]) (fun s11 tt => [(b1, .cells #[.int .i64 a0.Tos, .int .i64 a0.Id, .bool a0.Whole, .bool a0.More, .int .i64 a0.Off, .int .i64 a0.Ttl, .int .i64 a0.Proto, .int .u32 a0.Src, .int .u32 a0.Dst, .string a0.Body] 91 (0, 0)), ((s11 3), .cells #[.int .u8 69, .int .u8 (u8 a0.Tos)] 5 (0, 0)), ((s11 25), .cells #[.int .u8 (u8 a0.Ttl), .int .u8 (u8 a0.Proto)] 5 (0, 0))]) (fun tt => ([] ++ []) ++ Glob) (fun _ _ => by kernel_rfl) (fun _ _ => by kernel_rfl) (fun _ => by kernel_rfl) (fun s11 tt => ?_)
    generalize s11 3 = b12
    generalize s11 25 = b27
    obtain ⟨t28, h29, hM⟩ := bind_some hM
    refine WL.val (fun _ => run_catS (a := t25) (b := (ByteArray.push (ByteArray.push ByteArray.empty (UInt8.ofNat (Int.toNat (u8 a0.Ttl)))) (UInt8.ofNat (Int.toNat (u8 a0.Proto))))) (by kernel_rfl) (by kernel_rfl) h29) (by kernel_rfl) (by kernel_rfl) rfl ?_
    refine WL.run 1 [] [1, 2, 3, 5, 7, 9] (fun _ => [(1, .pointer (some ⟨b1, 0, none⟩)), (2, .string (⟨#[]⟩ : ByteArray)), (3, .int .i64 0), (5, .string r5), (7, .string r8), (9, .string t28)]) (fun _ => [(b1, .cells #[.int .i64 a0.Tos, .int .i64 a0.Id, .bool a0.Whole, .bool a0.More, .int .i64 a0.Off, .int .i64 a0.Ttl, .int .i64 a0.Proto, .int .u32 a0.Src, .int .u32 a0.Dst, .string a0.Body] 91 (0, 0)), (b12, .cells #[.int .u8 69, .int .u8 (u8 a0.Tos)] 5 (0, 0)), (b27, .cells #[.int .u8 (u8 a0.Ttl), .int .u8 (u8 a0.Proto)] 5 (0, 0))]) (fun _ => []) (fun _ => by kernel_rfl) (fun _ => ?_)
    refine WP.done ?_
    refine WP.keep [true, false, false] (by kernel_rfl : _ = [(b1, .cells #[.int .i64 a0.Tos, .int .i64 a0.Id, .bool a0.Whole, .bool a0.More, .int .i64 a0.Off, .int .i64 a0.Ttl, .int .i64 a0.Proto, .int .u32 a0.Src, .int .u32 a0.Dst, .string a0.Body] 91 (0, 0))]) ?_
    refine WP.seq ?_
    refine WP.region ?_
    refine WL.run 2 [] [1, 2, 3, 9, 58, 59] (fun _ => [(1, .pointer (some ⟨b1, 0, none⟩)), (2, .string (⟨#[]⟩ : ByteArray)), (3, .int .i64 0), (9, .string t28), (58, .string r5), (59, .string r8)]) (fun _ => [(b1, .cells #[.int .i64 a0.Tos, .int .i64 a0.Id, .bool a0.Whole, .bool a0.More, .int .i64 a0.Off, .int .i64 a0.Ttl, .int .i64 a0.Proto, .int .u32 a0.Src, .int .u32 a0.Dst, .string a0.Body] 91 (0, 0))]) (fun _ => []) (fun _ => by kernel_rfl) (fun _ => ?_)
    obtain ⟨t30, h31, hM⟩ := bind_some hM
    refine WL.val (fun _ => run_catS (a := r5) (b := r8) (by kernel_rfl) (by kernel_rfl) h31) (by kernel_rfl) (by kernel_rfl) rfl ?_
    refine WL.run 1 [] [1, 2, 3, 9, 10] (fun _ => [(1, .pointer (some ⟨b1, 0, none⟩)), (2, .string (⟨#[]⟩ : ByteArray)), (3, .int .i64 0), (9, .string t28), (10, .string t30)]) (fun _ => [(b1, .cells #[.int .i64 a0.Tos, .int .i64 a0.Id, .bool a0.Whole, .bool a0.More, .int .i64 a0.Off, .int .i64 a0.Ttl, .int .i64 a0.Proto, .int .u32 a0.Src, .int .u32 a0.Dst, .string a0.Body] 91 (0, 0))]) (fun _ => []) (fun _ => by kernel_rfl) (fun _ => ?_)
    refine WP.done ?_
    refine WP.seq ?_
    obtain ⟨r33, h34, hM⟩ := bind_some hM
    obtain ⟨r36, h37, hM⟩ := bind_some hM
    obtain ⟨r38, h39, hM⟩ := bind_some hM
    obtain ⟨t40, h41, hM⟩ := bind_some hM
    obtain ⟨t42, h43, hM⟩ := bind_some hM
    refine WP.sub [1, 2, 3, 9, 10] (L' := [(1, .pointer (some ⟨b1, 0, none⟩)), (2, .string (⟨#[]⟩ : ByteArray)), (3, .int .i64 0), (9, .string t28), (10, .string t30)]) (by kernel_rfl) ?_
    refine WP.mixed (X := Unit) 12 [.val (.string t28), .val (.string t28), .val (.string r33), .val (.string t30), .alloc (.cells #[.string t28, .string r33, .string t30] 9 (0, 0)) (fun b => .slice (some ⟨b, 0, none⟩) 3 3), .use 4 (.int .i64 r36), .val (.string r38), .val (.string t40), .val (.string t30), .val (.string t42), .val (.pointer (some ⟨b1, 9, none⟩)), .val (.string a0.Body)] [(b1, .cells #[.int .i64 a0.Tos, .int .i64 a0.Id, .bool a0.Whole, .bool a0.More, .int .i64 a0.Off, .int .i64 a0.Ttl, .int .i64 a0.Proto, .int .u32 a0.Src, .int .u32 a0.Dst, .string a0.Body] 91 (0, 0))] [] (by kernel_rfl) (by kernel_rfl) (by kernel_rfl) (by kernel_rfl) (Heads.val (fun tt Ψ => OpV.run [] [] (by kernel_rfl) (fun _ => by kernel_rfl)) (Heads.val (fun tt Ψ => OpV.run [] [] (by kernel_rfl) (fun _ => by kernel_rfl)) (Heads.val (fun tt Ψ => OpV.callF [] [] (fun _ h => (List.mem_append_right _ (List.mem_append_right _ h))) (inet_word_calls k 0 _ h34)  (fun _ => by kernel_rfl)) (Heads.val (fun tt Ψ => OpV.run [] [] (by kernel_rfl) (fun _ => by kernel_rfl)) (Heads.alloc (fun _ => by kernel_rfl) (fun _ _ => by kernel_rfl) (Heads.use 65 (fun b => .slice (some ⟨b, 0, none⟩) 3 3) (.cells #[.string t28, .string r33, .string t30] 9 (0, 0)) rfl rfl (fun tt Ψ => OpU.callL (fun b => Row 1 (pl encS) noK (SkL.at b 3 (fun _ => ())) ([t28, r33, t30] : List ByteArray)) [] (fun _ => []) (fun b w hb => row_of_block hb (fun _ _ => rfl) ⟨[], by kernel_rfl⟩ (Nat.le_of_ble_eq_true rfl) (InK.no _ _)) (fun b => (lent2 (lent lent0) (fun _ h => (List.mem_append_right _ (List.mem_append_right _ h))))) (fun b => (csum_Of_calls k (SkL.at b 3 (fun _ => ())) ([t28, r33, t30] : List ByteArray) _ h37)) (fun _ _ => by kernel_rfl)) (Heads.val (fun tt Ψ => OpV.callF [] [] (fun _ h => (List.mem_append_right _ (List.mem_append_right _ h))) (inet_word_calls k r36 _ h39)  (fun _ => by kernel_rfl)) (Heads.val (fun tt Ψ => OpV.val (fun _ => run_catS (a := t28) (b := r38) (by kernel_rfl) (by kernel_rfl) h41) (by kernel_rfl)) (Heads.val (fun tt Ψ => OpV.run [] [] (by kernel_rfl) (fun _ => by kernel_rfl)) (Heads.val (fun tt Ψ => OpV.val (fun _ => run_catS (a := t40) (b := t30) (by kernel_rfl) (by kernel_rfl) h43) (by kernel_rfl)) (Heads.val (fun tt Ψ => OpV.run [] [] (by kernel_rfl) (fun _ => by kernel_rfl)) (Heads.val (fun tt Ψ => OpV.run [0] [b1] (by kernel_rfl) (fun _ => by kernel_rfl)) Heads.nil)))))))))))) (fun s32 tt => [(61, .string t28), (62, .string t28), (63, .string r33), (64, .string t30), (65, .slice (some ⟨(s32 4), 0, none⟩) 3 3), (66, .int .i64 r36), (67, .string r38), (68, .string t40), (69, .string t30), (70, .string t42), (71, .pointer (some ⟨b1, 9, none⟩)), (72, .string a0.Body), (1, .pointer (some ⟨b1, 0, none⟩)), (2, .string (⟨#[]⟩ : ByteArray)), (3, .int .i64 0), (9, .string t28), (10, .string t30)]) (fun s32 tt => [(b1, .cells #[.int .i64 a0.Tos, .int .i64 a0.Id, .bool a0.Whole, .bool a0.More, .int .i64 a0.Off, .int .i64 a0.Ttl, .int .i64 a0.Proto, .int .u32 a0.Src, .int .u32 a0.Dst, .string a0.Body] 91 (0, 0)), ((s32 4), .cells #[.string t28, .string r33, .string t30] 9 (0, 0))]) (fun tt => ([] ++ []) ++ Glob) (fun _ _ => by kernel_rfl) (fun _ _ => by kernel_rfl) (fun _ => by kernel_rfl) (fun s32 tt => ?_)
    generalize s32 4 = b35
    obtain ⟨t44, h45, hM⟩ := bind_some hM
    refine WL.val (fun _ => run_catS (a := t42) (b := a0.Body) (by kernel_rfl) (by kernel_rfl) h45) (by kernel_rfl) (by kernel_rfl) rfl ?_
    refine WL.run 2 [] [2, 3] (fun _ => [(2, .string t44), (3, .int .i64 0)]) (fun _ => [(b1, .cells #[.int .i64 a0.Tos, .int .i64 a0.Id, .bool a0.Whole, .bool a0.More, .int .i64 a0.Off, .int .i64 a0.Ttl, .int .i64 a0.Proto, .int .u32 a0.Src, .int .u32 a0.Dst, .string a0.Body] 91 (0, 0)), (b35, .cells #[.string t28, .string r33, .string t30] 9 (0, 0))]) (fun _ => []) (fun _ => by kernel_rfl) (fun _ => ?_)
    refine WP.done ?_
    refine WP.keep [false, false] (by kernel_rfl : _ = []) ?_
    obtain rfl := Option.some.inj hM
    exact WP.ret [] [] (.tuple #[.string t44, .int .i64 0]) (by kernel_rfl) (fun w' hw => ⟨rfl, (hw.pick [] rfl).less (fun _ h => List.mem_append_right _ h)⟩)

end Go.Proofs.YtbodofjnfmjbpaaGreatDoor

namespace Go.Proofs.YtbodofjnfmjbpaaGreatDoor
open Go Eng
set_option linter.unusedVariables false
set_option linter.unusedSimpArgs false

/-! ### gangway/station.Make: function 20 -/
def station_Make.f (k : Nat) (a0 : Int) (a1 : Int) (a2 : api_Udp) (a3 : Int) (a4 : Int) : Option (ByteArray × Int) :=
  (udp_Build.f k a0 a1 a2).bind fun (r2, r3) =>
  bif (r3 != 0) then
    some ((⟨#[]⟩ : ByteArray), r3)
  else
    (inet_Build.f k (api_Ip.mk 0 (bAnd .i64 a3 65535) true false 0 64 17 a0 a1 r2)).bind fun (r7, r8) =>
    bif ((r8 != 0) || (decide ((r7.size : Int) > a4))) then
      some ((⟨#[]⟩ : ByteArray), 201)
    else
      some (r7, 0)

set_option maxRecDepth 100000 in
theorem station_Make_calls (k : Nat) (a0 : Int) (a1 : Int) (a2 : api_Udp) (a3 : Int) (a4 : Int) (r : ByteArray × Int) (h : station_Make.f k a0 a1 a2 a3 a4 = some r) : Pure Tryz.prog Glob 20 #[.int .u32 a0, .int .u32 a1, .agg #[.int .i64 a2.Src, .int .i64 a2.Dst, .bool a2.NoSum, .string a2.Body], .int .i64 a3, .int .i64 a4] (.tuple #[.string r.1, .int .i64 r.2]) := by
  intro w Z hS
  refine calls_of (args := [.int .u32 a0, .int .u32 a1, .agg #[.int .i64 a2.Src, .int .i64 a2.Dst, .bool a2.NoSum, .string a2.Body], .int .i64 a3, .int .i64 a4]) (L := [(0, .int .u32 a0), (1, .int .u32 a1), (2, .agg #[.int .i64 a2.Src, .int .i64 a2.Dst, .bool a2.NoSum, .string a2.Body]), (3, .int .i64 a3), (4, .int .i64 a4)]) (N := 46) (S := Sat w Z [] [] Glob) Tryz.func20 rfl rfl (Nat.le_of_ble_eq_true rfl) rfl hS ?_
  have hM := h
  clear h hS
  unfold station_Make.f at hM
  refine WP.seq ?_
  refine WP.run [] [0, 1, 3, 4, 7, 10, 11] (fun b1 => [(0, .int .u32 a0), (1, .int .u32 a1), (3, .int .i64 a3), (4, .int .i64 a4), (7, .pointer (some ⟨b1, 0, none⟩)), (10, .string (⟨#[]⟩ : ByteArray)), (11, .int .i64 0)]) (fun b1 => [(b1, .cells #[.int .i64 a2.Src, .int .i64 a2.Dst, .bool a2.NoSum, .string a2.Body] 40 (0, 0))]) (fun b1 => []) (fun b1 => by kernel_rfl) (fun b1 => ?_)
  refine WP.seq ?_
  refine WP.region ?_
  refine WL.run 3 [0, 0, 0, 0] [0, 1, 3, 4, 10, 11, 17, 18, 19] (fun _ => [(0, .int .u32 a0), (1, .int .u32 a1), (3, .int .i64 a3), (4, .int .i64 a4), (10, .string (⟨#[]⟩ : ByteArray)), (11, .int .i64 0), (17, .int .u32 a0), (18, .int .u32 a1), (19, .agg #[.int .i64 a2.Src, .int .i64 a2.Dst, .bool a2.NoSum, .string a2.Body])]) (fun _ => [(b1, .cells #[.int .i64 a2.Src, .int .i64 a2.Dst, .bool a2.NoSum, .string a2.Body] 40 (0, 0))]) (fun _ => [b1, b1, b1, b1]) (fun _ => by kernel_rfl) (fun _ => ?_)
  obtain ⟨⟨r2, r3⟩, h4, hM⟩ := bind_some hM
  dsimp only at hM
  refine WL.callP [] [] (udp_Build_calls k a0 a1 a2 _ h4) (fun _ h => h) (by kernel_rfl) (by kernel_rfl) rfl ?_
  refine WL.run 5 [] [0, 1, 3, 4, 10, 11, 12, 13] (fun _ => [(0, .int .u32 a0), (1, .int .u32 a1), (3, .int .i64 a3), (4, .int .i64 a4), (10, .string (⟨#[]⟩ : ByteArray)), (11, .int .i64 0), (12, .string r2), (13, .int .i64 r3)]) (fun _ => [(b1, .cells #[.int .i64 a2.Src, .int .i64 a2.Dst, .bool a2.NoSum, .string a2.Body] 40 (0, 0))]) (fun _ => []) (fun _ => by kernel_rfl) (fun _ => ?_)
  refine WP.done ?_
  refine WP.keep [false] (by kernel_rfl : _ = []) ?_
  refine WP.seq ?_
  refine WP.seq ?_
  refine WP.run [] [0, 1, 3, 4, 10, 11, 12, 13, 24] (fun _ => [(0, .int .u32 a0), (1, .int .u32 a1), (3, .int .i64 a3), (4, .int .i64 a4), (10, .string (⟨#[]⟩ : ByteArray)), (11, .int .i64 0), (12, .string r2), (13, .int .i64 r3), (24, .bool (r3 != 0))]) (fun _ => []) (fun _ => []) (fun _ => by kernel_rfl) (fun _ => ?_)
  refine WP.cond (r3 != 0) rfl rfl (fun c5 => ?_) (fun c5 => ?_)
  · replace hM := cond_t hM c5
    refine WP.seq ?_
    refine WP.run [] [0, 1, 3, 4, 10, 11, 12, 13] (fun _ => [(0, .int .u32 a0), (1, .int .u32 a1), (3, .int .i64 a3), (4, .int .i64 a4), (10, .string (⟨#[]⟩ : ByteArray)), (11, .int .i64 r3), (12, .string r2), (13, .int .i64 r3)]) (fun _ => []) (fun _ => []) (fun _ => by kernel_rfl) (fun _ => ?_)
    obtain rfl := Option.some.inj hM
    exact WP.ret [] [] (.tuple #[.string (⟨#[]⟩ : ByteArray), .int .i64 r3]) (by kernel_rfl) (fun w' hw => ⟨rfl, hw.pick [] rfl⟩)
  · replace hM := cond_f hM c5
    refine WP.skip ?_
    refine WP.seq ?_
    refine WP.run [0, 0, 0, 0, 0, 0, 0, 0, 0, 0] [4, 10, 11, 13, 14] (fun b6 => [(4, .int .i64 a4), (10, .string (⟨#[]⟩ : ByteArray)), (11, .int .i64 0), (13, .int .i64 r3), (14, .pointer (some ⟨b6, 0, none⟩))]) (fun b6 => [(b6, .cells #[.int .i64 0, .int .i64 (bAnd .i64 a3 65535), .bool true, .bool false, .int .i64 0, .int .i64 64, .int .i64 17, .int .u32 a0, .int .u32 a1, .string r2] 91 (0, 0))]) (fun b6 => [b6, b6, b6, b6, b6, b6, b6, b6, b6, b6]) (fun b6 => by kernel_rfl) (fun b6 => ?_)
    refine WP.seq ?_
    refine WP.region ?_
    refine WL.run 1 [0, 0, 0, 0, 0, 0, 0, 0, 0, 0] [4, 10, 11, 13, 33] (fun _ => [(4, .int .i64 a4), (10, .string (⟨#[]⟩ : ByteArray)), (11, .int .i64 0), (13, .int .i64 r3), (33, .agg #[.int .i64 0, .int .i64 (bAnd .i64 a3 65535), .bool true, .bool false, .int .i64 0, .int .i64 64, .int .i64 17, .int .u32 a0, .int .u32 a1, .string r2])]) (fun _ => [(b6, .cells #[.int .i64 0, .int .i64 (bAnd .i64 a3 65535), .bool true, .bool false, .int .i64 0, .int .i64 64, .int .i64 17, .int .u32 a0, .int .u32 a1, .string r2] 91 (0, 0))]) (fun _ => [b6, b6, b6, b6, b6, b6, b6, b6, b6, b6]) (fun _ => by kernel_rfl) (fun _ => ?_)
    obtain ⟨⟨r7, r8⟩, h9, hM⟩ := bind_some hM
    dsimp only at hM
    refine WL.callP [] [] (inet_Build_calls k (api_Ip.mk 0 (bAnd .i64 a3 65535) true false 0 64 17 a0 a1 r2) _ h9) (fun _ h => h) (by kernel_rfl) (by kernel_rfl) rfl ?_
    refine WL.run 5 [] [4, 10, 11, 13, 15] (fun _ => [(4, .int .i64 a4), (10, .string (⟨#[]⟩ : ByteArray)), (11, .int .i64 0), (13, .int .i64 r8), (15, .string r7)]) (fun _ => [(b6, .cells #[.int .i64 0, .int .i64 (bAnd .i64 a3 65535), .bool true, .bool false, .int .i64 0, .int .i64 64, .int .i64 17, .int .u32 a0, .int .u32 a1, .string r2] 91 (0, 0))]) (fun _ => []) (fun _ => by kernel_rfl) (fun _ => ?_)
    refine WP.done ?_
    refine WP.keep [false] (by kernel_rfl : _ = []) ?_
    refine WP.seq ?_
    refine WP.seq ?_
    refine WP.region ?_
    refine WL.run 3 [] [4, 10, 11, 15, 39] (fun _ => [(4, .int .i64 a4), (10, .string (⟨#[]⟩ : ByteArray)), (11, .int .i64 0), (15, .string r7), (39, .bool (r8 != 0))]) (fun _ => []) (fun _ => []) (fun _ => by kernel_rfl) (fun _ => ?_)
    refine WL.sub [4, 10, 11, 15, 39] (L' := [(4, .int .i64 a4), (10, .string (⟨#[]⟩ : ByteArray)), (11, .int .i64 0), (15, .string r7), (39, .bool (r8 != 0))]) (by kernel_rfl) ?_
    refine WL.both (fun b' => [(4, .int .i64 a4), (10, .string (⟨#[]⟩ : ByteArray)), (11, .int .i64 0), (15, .string r7), (39, .bool b')]) (r8 != 0) 5 [] [] [10, 11, 15, 44] (fun b' => [(10, .string (⟨#[]⟩ : ByteArray)), (11, .int .i64 0), (15, .string r7), (44, .bool (b' || (decide ((r7.size : Int) > a4))))]) [] [] (fun _ => by kernel_rfl) (fun _ => by kernel_rfl) ?_
    refine WP.done ?_
    refine WP.cond ((r8 != 0) || (decide ((r7.size : Int) > a4))) rfl rfl (fun c10 => ?_) (fun c10 => ?_)
    · replace hM := cond_t hM c10
      refine WP.seq ?_
      refine WP.run [] [10, 11, 15] (fun _ => [(10, .string (⟨#[]⟩ : ByteArray)), (11, .int .i64 201), (15, .string r7)]) (fun _ => []) (fun _ => []) (fun _ => by kernel_rfl) (fun _ => ?_)
      obtain rfl := Option.some.inj hM
      exact WP.ret [] [] (.tuple #[.string (⟨#[]⟩ : ByteArray), .int .i64 201]) (by kernel_rfl) (fun w' hw => ⟨rfl, hw.pick [] rfl⟩)
    · replace hM := cond_f hM c10
      refine WP.skip ?_
      refine WP.seq ?_
      refine WP.run [] [10, 11] (fun _ => [(10, .string r7), (11, .int .i64 0)]) (fun _ => []) (fun _ => []) (fun _ => by kernel_rfl) (fun _ => ?_)
      obtain rfl := Option.some.inj hM
      exact WP.ret [] [] (.tuple #[.string r7, .int .i64 0]) (by kernel_rfl) (fun w' hw => ⟨rfl, hw.pick [] rfl⟩)

end Go.Proofs.YtbodofjnfmjbpaaGreatDoor

namespace Go.Proofs.YtbodofjnfmjbpaaGreatDoor
open Go Eng
set_option linter.unusedVariables false
set_option linter.unusedSimpArgs false

/-! ### gangway/tunnel.Wrap: function 8 -/
def tunnel_Wrap.f (k : Nat) (a0 : Int) (a1 : Int) (a2 : Int) (a2_1 : Int) (a2_2 : (List Int)) (a3 : api_Frame) (a4 : Int) (a5 : Int) : Option (ByteArray × Int) :=
  (ether_Bare.f a3).bind fun r2 =>
  (ether_Build.f k r2).bind fun (r4, r5) =>
  bif (r5 != 0) then
    some ((⟨#[]⟩ : ByteArray), 220)
  else
    (vxlan_Build.f k a2_1 r4).bind fun (r8, r9) =>
    bif (r9 != 0) then
      some ((⟨#[]⟩ : ByteArray), r9)
    else
      (vxlan_Port.f k r4).bind fun r12 =>
      (station_Make.f k a0 a1 (api_Udp.mk r12 4789 true r8) a4 a5).bind fun (r15, r16) =>
      some (r15, r16)

set_option maxRecDepth 100000 in
theorem tunnel_Wrap_calls (k : Nat) (A00 : SkL Unit) (a0 : Int) (a1 : Int) (a2 : Int) (a2_1 : Int) (a2_2 : (List Int)) (a3 : api_Frame) (a4 : Int) (a5 : Int) (r : ByteArray × Int) (h : tunnel_Wrap.f k a0 a1 a2 a2_1 a2_2 a3 a4 a5 = some r) : Pure Tryz.prog ([Row 1 (pl (encI .u32)) noK A00 a2_2] ++ Glob) 8 #[.int .u32 a0, .int .u32 a1, .agg #[.int .i64 a2, .int .i64 a2_1, slcV A00 a2_2.length], .agg #[.int .u64 a3.Dst, .int .u64 a3.Src, .bool a3.Tag.Has, .int .i64 a3.Tag.Pri, .bool a3.Tag.Dei, .int .i64 a3.Tag.Vid, .int .i64 a3.Type_, .string a3.Body], .int .i64 a4, .int .i64 a5] (.tuple #[.string r.1, .int .i64 r.2]) := by
  intro w Z hS
  refine calls_of (args := [.int .u32 a0, .int .u32 a1, .agg #[.int .i64 a2, .int .i64 a2_1, slcV A00 a2_2.length], .agg #[.int .u64 a3.Dst, .int .u64 a3.Src, .bool a3.Tag.Has, .int .i64 a3.Tag.Pri, .bool a3.Tag.Dei, .int .i64 a3.Tag.Vid, .int .i64 a3.Type_, .string a3.Body], .int .i64 a4, .int .i64 a5]) (L := [(0, .int .u32 a0), (1, .int .u32 a1), (2, .agg #[.int .i64 a2, .int .i64 a2_1, slcV A00 a2_2.length]), (3, .agg #[.int .u64 a3.Dst, .int .u64 a3.Src, .bool a3.Tag.Has, .int .i64 a3.Tag.Pri, .bool a3.Tag.Dei, .int .i64 a3.Tag.Vid, .int .i64 a3.Type_, .string a3.Body]), (4, .int .i64 a4), (5, .int .i64 a5)]) (N := 48) (S := Sat w Z [] [] ([Row 1 (pl (encI .u32)) noK A00 a2_2] ++ Glob)) Tryz.func8 rfl rfl (Nat.le_of_ble_eq_true rfl) rfl hS ?_
  have hM := h
  clear h hS
  unfold tunnel_Wrap.f at hM
  refine WP.seq ?_
  refine WP.run [] [0, 1, 4, 5, 8, 9, 12, 13] (fun b1 => [(0, .int .u32 a0), (1, .int .u32 a1), (4, .int .i64 a4), (5, .int .i64 a5), (8, .pointer (some ⟨b1, 0, none⟩)), (9, .pointer (some ⟨(b1 + 1), 0, none⟩)), (12, .string (⟨#[]⟩ : ByteArray)), (13, .int .i64 0)]) (fun b1 => [(b1, .cells #[.int .i64 a2, .int .i64 a2_1, slcV A00 a2_2.length] 35 (0, 0)), ((b1 + 1), .cells #[.int .u64 a3.Dst, .int .u64 a3.Src, .bool a3.Tag.Has, .int .i64 a3.Tag.Pri, .bool a3.Tag.Dei, .int .i64 a3.Tag.Vid, .int .i64 a3.Type_, .string a3.Body] 29 (0, 0))]) (fun b1 => []) (fun b1 => by kernel_rfl) (fun b1 => ?_)
  refine WP.seq ?_
  refine WP.region ?_
  refine WL.run 1 [1, 1, 1, 1, 1, 1, 1, 1] [0, 1, 4, 5, 8, 12, 13, 19] (fun _ => [(0, .int .u32 a0), (1, .int .u32 a1), (4, .int .i64 a4), (5, .int .i64 a5), (8, .pointer (some ⟨b1, 0, none⟩)), (12, .string (⟨#[]⟩ : ByteArray)), (13, .int .i64 0), (19, .agg #[.int .u64 a3.Dst, .int .u64 a3.Src, .bool a3.Tag.Has, .int .i64 a3.Tag.Pri, .bool a3.Tag.Dei, .int .i64 a3.Tag.Vid, .int .i64 a3.Type_, .string a3.Body])]) (fun _ => [(b1, .cells #[.int .i64 a2, .int .i64 a2_1, slcV A00 a2_2.length] 35 (0, 0)), ((b1 + 1), .cells #[.int .u64 a3.Dst, .int .u64 a3.Src, .bool a3.Tag.Has, .int .i64 a3.Tag.Pri, .bool a3.Tag.Dei, .int .i64 a3.Tag.Vid, .int .i64 a3.Type_, .string a3.Body] 29 (0, 0))]) (fun _ => [(b1 + 1), (b1 + 1), (b1 + 1), (b1 + 1), (b1 + 1), (b1 + 1), (b1 + 1), (b1 + 1)]) (fun _ => by kernel_rfl) (fun _ => ?_)
  obtain ⟨r2, h3, hM⟩ := bind_some hM
  refine WL.callP [] [] (ether_Bare_calls a3 _ h3) (fun _ h => List.mem_append_right _ h) (by kernel_rfl) (by kernel_rfl) rfl ?_
  obtain ⟨⟨r4, r5⟩, h6, hM⟩ := bind_some hM
  dsimp only at hM
  refine WL.callP [] [] (ether_Build_calls k r2 _ h6) (fun _ h => List.mem_append_right _ h) (by kernel_rfl) (by kernel_rfl) rfl ?_
  refine WL.run 5 [] [0, 1, 4, 5, 8, 12, 13, 14, 15] (fun _ => [(0, .int .u32 a0), (1, .int .u32 a1), (4, .int .i64 a4), (5, .int .i64 a5), (8, .pointer (some ⟨b1, 0, none⟩)), (12, .string (⟨#[]⟩ : ByteArray)), (13, .int .i64 0), (14, .string r4), (15, .int .i64 r5)]) (fun _ => [(b1, .cells #[.int .i64 a2, .int .i64 a2_1, slcV A00 a2_2.length] 35 (0, 0)), ((b1 + 1), .cells #[.int .u64 a3.Dst, .int .u64 a3.Src, .bool a3.Tag.Has, .int .i64 a3.Tag.Pri, .bool a3.Tag.Dei, .int .i64 a3.Tag.Vid, .int .i64 a3.Type_, .string a3.Body] 29 (0, 0))]) (fun _ => []) (fun _ => by kernel_rfl) (fun _ => ?_)
  refine WP.done ?_
  refine WP.keep [true, false] (by kernel_rfl : _ = [(b1, .cells #[.int .i64 a2, .int .i64 a2_1, slcV A00 a2_2.length] 35 (0, 0))]) ?_
  refine WP.seq ?_
  refine WP.seq ?_
  refine WP.run [] [0, 1, 4, 5, 8, 12, 13, 14, 15, 25] (fun _ => [(0, .int .u32 a0), (1, .int .u32 a1), (4, .int .i64 a4), (5, .int .i64 a5), (8, .pointer (some ⟨b1, 0, none⟩)), (12, .string (⟨#[]⟩ : ByteArray)), (13, .int .i64 0), (14, .string r4), (15, .int .i64 r5), (25, .bool (r5 != 0))]) (fun _ => [(b1, .cells #[.int .i64 a2, .int .i64 a2_1, slcV A00 a2_2.length] 35 (0, 0))]) (fun _ => []) (fun _ => by kernel_rfl) (fun _ => ?_)
  refine WP.cond (r5 != 0) rfl rfl (fun c7 => ?_) (fun c7 => ?_)
  · replace hM := cond_t hM c7
    refine WP.seq ?_
    refine WP.run [] [0, 1, 4, 5, 8, 12, 13, 14, 15] (fun _ => [(0, .int .u32 a0), (1, .int .u32 a1), (4, .int .i64 a4), (5, .int .i64 a5), (8, .pointer (some ⟨b1, 0, none⟩)), (12, .string (⟨#[]⟩ : ByteArray)), (13, .int .i64 220), (14, .string r4), (15, .int .i64 r5)]) (fun _ => [(b1, .cells #[.int .i64 a2, .int .i64 a2_1, slcV A00 a2_2.length] 35 (0, 0))]) (fun _ => []) (fun _ => by kernel_rfl) (fun _ => ?_)
    obtain rfl := Option.some.inj hM
    exact WP.ret [] [] (.tuple #[.string (⟨#[]⟩ : ByteArray), .int .i64 220]) (by kernel_rfl) (fun w' hw => ⟨rfl, (hw.pick [] rfl).lessF [0] (by kernel_rfl)⟩)
  · replace hM := cond_f hM c7
    refine WP.skip ?_
    refine WP.seq ?_
    refine WP.region ?_
    refine WL.run 3 [0] [0, 1, 4, 5, 12, 13, 14, 15, 28, 29] (fun _ => [(0, .int .u32 a0), (1, .int .u32 a1), (4, .int .i64 a4), (5, .int .i64 a5), (12, .string (⟨#[]⟩ : ByteArray)), (13, .int .i64 0), (14, .string r4), (15, .int .i64 r5), (28, .int .i64 a2_1), (29, .string r4)]) (fun _ => [(b1, .cells #[.int .i64 a2, .int .i64 a2_1, slcV A00 a2_2.length] 35 (0, 0))]) (fun _ => [b1]) (fun _ => by kernel_rfl) (fun _ => ?_)
    obtain ⟨⟨r8, r9⟩, h10, hM⟩ := bind_some hM
    dsimp only at hM
    refine WL.callP [] [] (vxlan_Build_calls k a2_1 r4 _ h10) (fun _ h => List.mem_append_right _ h) (by kernel_rfl) (by kernel_rfl) rfl ?_
    refine WL.run 5 [] [0, 1, 4, 5, 12, 13, 14, 15, 16] (fun _ => [(0, .int .u32 a0), (1, .int .u32 a1), (4, .int .i64 a4), (5, .int .i64 a5), (12, .string (⟨#[]⟩ : ByteArray)), (13, .int .i64 0), (14, .string r4), (15, .int .i64 r9), (16, .string r8)]) (fun _ => [(b1, .cells #[.int .i64 a2, .int .i64 a2_1, slcV A00 a2_2.length] 35 (0, 0))]) (fun _ => []) (fun _ => by kernel_rfl) (fun _ => ?_)
    refine WP.done ?_
    refine WP.keep [false] (by kernel_rfl : _ = []) ?_
    refine WP.seq ?_
    refine WP.seq ?_
    refine WP.run [] [0, 1, 4, 5, 12, 13, 14, 15, 16, 34] (fun _ => [(0, .int .u32 a0), (1, .int .u32 a1), (4, .int .i64 a4), (5, .int .i64 a5), (12, .string (⟨#[]⟩ : ByteArray)), (13, .int .i64 0), (14, .string r4), (15, .int .i64 r9), (16, .string r8), (34, .bool (r9 != 0))]) (fun _ => []) (fun _ => []) (fun _ => by kernel_rfl) (fun _ => ?_)
    refine WP.cond (r9 != 0) rfl rfl (fun c11 => ?_) (fun c11 => ?_)
    · replace hM := cond_t hM c11
      refine WP.seq ?_
      refine WP.run [] [0, 1, 4, 5, 12, 13, 14, 16] (fun _ => [(0, .int .u32 a0), (1, .int .u32 a1), (4, .int .i64 a4), (5, .int .i64 a5), (12, .string (⟨#[]⟩ : ByteArray)), (13, .int .i64 r9), (14, .string r4), (16, .string r8)]) (fun _ => []) (fun _ => []) (fun _ => by kernel_rfl) (fun _ => ?_)
      obtain rfl := Option.some.inj hM
      exact WP.ret [] [] (.tuple #[.string (⟨#[]⟩ : ByteArray), .int .i64 r9]) (by kernel_rfl) (fun w' hw => ⟨rfl, (hw.pick [] rfl).lessF [0] (by kernel_rfl)⟩)
    · replace hM := cond_f hM c11
      refine WP.skip ?_
      refine WP.seq ?_
      refine WP.region ?_
      refine WL.run 1 [] [0, 1, 4, 5, 12, 13, 16, 36] (fun _ => [(0, .int .u32 a0), (1, .int .u32 a1), (4, .int .i64 a4), (5, .int .i64 a5), (12, .string (⟨#[]⟩ : ByteArray)), (13, .int .i64 0), (16, .string r8), (36, .string r4)]) (fun _ => []) (fun _ => []) (fun _ => by kernel_rfl) (fun _ => ?_)
      obtain ⟨r12, h13, hM⟩ := bind_some hM
      refine WL.callP [] [] (vxlan_Port_calls k r4 _ h13) (fun _ h => List.mem_append_right _ h) (by kernel_rfl) (by kernel_rfl) rfl ?_
      refine WL.run 4 [0, 0, 0, 0] [0, 1, 4, 5, 12, 13, 17] (fun b14 => [(0, .int .u32 a0), (1, .int .u32 a1), (4, .int .i64 a4), (5, .int .i64 a5), (12, .string (⟨#[]⟩ : ByteArray)), (13, .int .i64 0), (17, .pointer (some ⟨b14, 0, none⟩))]) (fun b14 => [(b14, .cells #[.int .i64 r12, .int .i64 4789, .bool true, .string r8] 40 (0, 0))]) (fun b14 => [b14, b14, b14, b14]) (fun b14 => by kernel_rfl) (fun b14 => ?_)
      refine WP.done ?_
      refine WP.seq ?_
      refine WP.region ?_
      refine WL.run 5 [0, 0, 0, 0] [12, 13, 40, 41, 42, 43, 44] (fun _ => [(12, .string (⟨#[]⟩ : ByteArray)), (13, .int .i64 0), (40, .int .u32 a0), (41, .int .u32 a1), (42, .agg #[.int .i64 r12, .int .i64 4789, .bool true, .string r8]), (43, .int .i64 a4), (44, .int .i64 a5)]) (fun _ => [(b14, .cells #[.int .i64 r12, .int .i64 4789, .bool true, .string r8] 40 (0, 0))]) (fun _ => [b14, b14, b14, b14]) (fun _ => by kernel_rfl) (fun _ => ?_)
      obtain ⟨⟨r15, r16⟩, h17, hM⟩ := bind_some hM
      dsimp only at hM
      refine WL.callP [] [] (station_Make_calls k a0 a1 (api_Udp.mk r12 4789 true r8) a4 a5 _ h17) (fun _ h => List.mem_append_right _ h) (by kernel_rfl) (by kernel_rfl) rfl ?_
      refine WL.run 4 [] [12, 13] (fun _ => [(12, .string r15), (13, .int .i64 r16)]) (fun _ => [(b14, .cells #[.int .i64 r12, .int .i64 4789, .bool true, .string r8] 40 (0, 0))]) (fun _ => []) (fun _ => by kernel_rfl) (fun _ => ?_)
      refine WP.done ?_
      refine WP.keep [false] (by kernel_rfl : _ = []) ?_
      obtain rfl := Option.some.inj hM
      exact WP.ret [] [] (.tuple #[.string r15, .int .i64 r16]) (by kernel_rfl) (fun w' hw => ⟨rfl, (hw.pick [] rfl).lessF [0] (by kernel_rfl)⟩)

end Go.Proofs.YtbodofjnfmjbpaaGreatDoor

namespace Go.Proofs.YtbodofjnfmjbpaaGreatDoor
open Go Eng
set_option linter.unusedVariables false
set_option linter.unusedSimpArgs false

/-! ### gangway/station.not: function 54 -/
def station_not.f (a0 : ByteArray) (a1 : Int) : Option ((ByteArray × station_why)) :=
  some (a0, (station_why.mk a1))

set_option maxRecDepth 100000 in
theorem station_not_calls (a0 : ByteArray) (a1 : Int) (r : (ByteArray × station_why)) (h : station_not.f a0 a1 = some r) : Pure Tryz.prog Glob 54 #[.string a0, .int .i64 a1] (.iface 138 (.agg #[.string r.1, .iface 80 (.agg #[.int .i64 r.2.n])])) := by
  intro w Z hS
  refine calls_of (args := [.string a0, .int .i64 a1]) (L := [(0, .string a0), (1, .int .i64 a1)]) (N := 11) (S := Sat w Z [] [] Glob) Tryz.func54 rfl rfl (Nat.le_of_ble_eq_true rfl) rfl hS ?_
  have hM := h
  clear h hS
  unfold station_not.f at hM
  refine WP.seq ?_
  refine WP.run [] [0, 1, 4] (fun _ => [(0, .string a0), (1, .int .i64 a1), (4, .nilIface)]) (fun _ => []) (fun _ => []) (fun _ => by kernel_rfl) (fun _ => ?_)
  refine WP.seq ?_
  refine WP.run [] [4] (fun _ => [(4, .iface 138 (.agg #[.string a0, .iface 80 (.agg #[.int .i64 a1])]))]) (fun _ => []) (fun _ => []) (fun _ => by kernel_rfl) (fun _ => ?_)
  obtain rfl := Option.some.inj hM
  exact WP.ret [] [] (.iface 138 (.agg #[.string a0, .iface 80 (.agg #[.int .i64 a1])])) (by kernel_rfl) (fun w' hw => ⟨rfl, hw.pick [] rfl⟩)

end Go.Proofs.YtbodofjnfmjbpaaGreatDoor

namespace Go.Proofs.YtbodofjnfmjbpaaGreatDoor
open Go Eng
set_option linter.unusedVariables false
set_option linter.unusedSimpArgs false

/-! ### gangway/addrs.Group: function 85 -/
def addrs_Group.f (a0 : Int) : Option (Bool) :=
  some ((bAnd .u64 a0 1099511627776) != 0)

set_option maxRecDepth 100000 in
theorem addrs_Group_calls (a0 : Int) (r : Bool) (h : addrs_Group.f a0 = some r) : Pure Tryz.prog Glob 85 #[.int .u64 a0] (.bool r) := by
  intro w Z hS
  refine calls_of (args := [.int .u64 a0]) (L := [(0, .int .u64 a0)]) (N := 6) (S := Sat w Z [] [] Glob) Tryz.func85 rfl rfl (Nat.le_of_ble_eq_true rfl) rfl hS ?_
  have hM := h
  clear h hS
  unfold addrs_Group.f at hM
  refine WP.seq ?_
  refine WP.run [] [0, 2] (fun _ => [(0, .int .u64 a0), (2, .bool false)]) (fun _ => []) (fun _ => []) (fun _ => by kernel_rfl) (fun _ => ?_)
  refine WP.seq ?_
  refine WP.run [] [2] (fun _ => [(2, .bool ((bAnd .u64 a0 1099511627776) != 0))]) (fun _ => []) (fun _ => []) (fun _ => by kernel_rfl) (fun _ => ?_)
  obtain rfl := Option.some.inj hM
  exact WP.ret [] [] (.bool ((bAnd .u64 a0 1099511627776) != 0)) (by kernel_rfl) (fun w' hw => ⟨rfl, hw.pick [] rfl⟩)

end Go.Proofs.YtbodofjnfmjbpaaGreatDoor

namespace Go.Proofs.YtbodofjnfmjbpaaGreatDoor
open Go Eng
set_option linter.unusedVariables false
set_option linter.unusedSimpArgs false

/-! ### gangway/addrs.Own: function 55 -/
def addrs_Own.k1 (x4 : Bool) : Option (Bool) :=
  some x4

def addrs_Own.f (a0 : Int) : Option (Bool) :=
  bif ((a0 != 0) && (decide (a0 < 281474976710656))) then
    (addrs_Group.f a0).bind fun r2 =>
    addrs_Own.k1 (!r2)
  else
    addrs_Own.k1 false

set_option maxRecDepth 100000 in
theorem addrs_Own_calls (a0 : Int) (r : Bool) (h : addrs_Own.f a0 = some r) : Pure Tryz.prog Glob 55 #[.int .u64 a0] (.bool r) := by
  intro w Z hS
  refine calls_of (args := [.int .u64 a0]) (L := [(0, .int .u64 a0)]) (N := 14) (S := Sat w Z [] [] Glob) Tryz.func55 rfl rfl (Nat.le_of_ble_eq_true rfl) rfl hS ?_
  have hM := h
  clear h hS
  unfold addrs_Own.f at hM
  refine WP.seq ?_
  refine WP.run [] [0, 2] (fun _ => [(0, .int .u64 a0), (2, .bool false)]) (fun _ => []) (fun _ => []) (fun _ => by kernel_rfl) (fun _ => ?_)
  refine WP.seq ?_
  refine WP.region ?_
  refine WL.run 3 [] [0, 2, 5] (fun _ => [(0, .int .u64 a0), (2, .bool false), (5, .bool (a0 != 0))]) (fun _ => []) (fun _ => []) (fun _ => by kernel_rfl) (fun _ => ?_)
  refine WL.sub [0, 2, 5] (L' := [(0, .int .u64 a0), (2, .bool false), (5, .bool (a0 != 0))]) (by kernel_rfl) ?_
  refine WL.both (fun b' => [(0, .int .u64 a0), (2, .bool false), (5, .bool b')]) (a0 != 0) 3 [] [] [0, 2, 8] (fun b' => [(0, .int .u64 a0), (2, .bool false), (8, .bool (b' && (decide (a0 < 281474976710656))))]) [] [] (fun _ => by kernel_rfl) (fun _ => by kernel_rfl) ?_
  refine WL.run 1 [] [0, 2, 9] (fun _ => [(0, .int .u64 a0), (2, .bool false), (9, .bool ((a0 != 0) && (decide (a0 < 281474976710656))))]) (fun _ => []) (fun _ => []) (fun _ => by kernel_rfl) (fun _ => ?_)
  refine WL.sub [0, 2, 9] (L' := [(0, .int .u64 a0), (2, .bool false), (9, .bool ((a0 != 0) && (decide (a0 < 281474976710656))))]) (by kernel_rfl) ?_
  refine WL.join (σ := Bool) 4 (fun st => addrs_Own.k1 st = some r) (fun st => [(2, .bool false), (13, .bool st)]) (fun st => Sat w Z [] [] Glob) (fun st hM => ?_) (fun K1 => ?_)
  ·
    obtain ⟨x4, rfl⟩ : ∃ y, y = st := ⟨st, rfl⟩
    replace hM : addrs_Own.k1 x4 = some r := hM
    unfold addrs_Own.k1 at hM
    show WL _ _ _ _ _ [(2, .bool false), (13, .bool x4)] (Sat w Z [] [] Glob)
    refine WL.run 1 [] [2] (fun _ => [(2, .bool x4)]) (fun _ => []) (fun _ => []) (fun _ => by kernel_rfl) (fun _ => ?_)
    refine WP.done ?_
    obtain rfl := Option.some.inj hM
    exact WP.ret [] [] (.bool x4) (by kernel_rfl) (fun w' hw => ⟨rfl, hw.pick [] rfl⟩)
  ·
    refine WL.split (fun b' => [(0, .int .u64 a0), (2, .bool false), (9, .bool b')]) ((a0 != 0) && (decide (a0 < 281474976710656))) (fun c1 => ?_) (fun c1 => ?_)
    · replace hM := cond_t hM c1
      refine WL.run 1 [] [2, 9, 10] (fun _ => [(2, .bool false), (9, .bool true), (10, .int .u64 a0)]) (fun _ => []) (fun _ => []) (fun _ => by kernel_rfl) (fun _ => ?_)
      obtain ⟨r2, h3, hM⟩ := bind_some hM
      refine WL.callP [] [] (addrs_Group_calls a0 _ h3) (fun _ h => h) (by kernel_rfl) (by kernel_rfl) rfl ?_
      refine WL.run 2 [] [2, 13] (fun _ => [(2, .bool false), (13, .bool (!r2))]) (fun _ => []) (fun _ => []) (fun _ => by kernel_rfl) (fun _ => ?_)
      exact WL.sub [2, 13] (by kernel_rfl) (WL.pick [] (by kernel_rfl) (by kernel_rfl) (K1 (!r2) hM))
    · replace hM := cond_f hM c1
      refine WL.run 4 [] [2, 13] (fun _ => [(2, .bool false), (13, .bool false)]) (fun _ => []) (fun _ => []) (fun _ => by kernel_rfl) (fun _ => ?_)
      exact WL.sub [2, 13] (by kernel_rfl) (WL.pick [] (by kernel_rfl) (by kernel_rfl) (K1 false hM))

end Go.Proofs.YtbodofjnfmjbpaaGreatDoor

namespace Go.Proofs.YtbodofjnfmjbpaaGreatDoor
open Go Eng
set_option linter.unusedVariables false
set_option linter.unusedSimpArgs false

/-! ### gangway/station.framed: function 31 -/
def station_framed.k1 (x10 : Bool) : Option (Un2) :=
  bif x10 then
    (station_not.f (⟨#[102, 114, 97, 109, 101]⟩ : ByteArray) 3).bind fun r12 =>
    some (some (r12.1, r12.2))
  else
    some none

def station_framed.k2 (a1 : api_Frame) (x8 : Bool) : Option (Un2) :=
  bif x8 then
    station_framed.k1 true
  else
    station_framed.k1 ((a1.Type_ != 2048) && (a1.Type_ != 2054))

def station_framed.f (a0 : Int) (a1 : api_Frame) : Option (Un2) :=
  bif ((a1.Dst != a0) && (a1.Dst != 281474976710655)) then
    (station_not.f (⟨#[102, 114, 97, 109, 101]⟩ : ByteArray) 2).bind fun r3 =>
    some (some (r3.1, r3.2))
  else
    bif a1.Tag.Has then
      station_framed.k2 a1 true
    else
      (addrs_Own.f a1.Src).bind fun r6 =>
      station_framed.k2 a1 (!r6)

set_option maxRecDepth 100000 in
theorem station_framed_calls (a0 : Int) (a1 : api_Frame) (r : Un2) (h : station_framed.f a0 a1 = some r) : Pure Tryz.prog Glob 31 #[.int .u64 a0, .agg #[.int .u64 a1.Dst, .int .u64 a1.Src, .bool a1.Tag.Has, .int .i64 a1.Tag.Pri, .bool a1.Tag.Dei, .int .i64 a1.Tag.Vid, .int .i64 a1.Type_, .string a1.Body]] (Un2.v r) := by
  intro w Z hS
  refine calls_of (args := [.int .u64 a0, .agg #[.int .u64 a1.Dst, .int .u64 a1.Src, .bool a1.Tag.Has, .int .i64 a1.Tag.Pri, .bool a1.Tag.Dei, .int .i64 a1.Tag.Vid, .int .i64 a1.Type_, .string a1.Body]]) (L := [(0, .int .u64 a0), (1, .agg #[.int .u64 a1.Dst, .int .u64 a1.Src, .bool a1.Tag.Has, .int .i64 a1.Tag.Pri, .bool a1.Tag.Dei, .int .i64 a1.Tag.Vid, .int .i64 a1.Type_, .string a1.Body])]) (N := 37) (S := Sat w Z [] [] Glob) Tryz.func31 rfl rfl (Nat.le_of_ble_eq_true rfl) rfl hS ?_
  have hM := h
  clear h hS
  unfold station_framed.f at hM
  refine WP.seq ?_
  refine WP.run [] [0, 3, 4] (fun b1 => [(0, .int .u64 a0), (3, .pointer (some ⟨b1, 0, none⟩)), (4, .nilIface)]) (fun b1 => [(b1, .cells #[.int .u64 a1.Dst, .int .u64 a1.Src, .bool a1.Tag.Has, .int .i64 a1.Tag.Pri, .bool a1.Tag.Dei, .int .i64 a1.Tag.Vid, .int .i64 a1.Type_, .string a1.Body] 29 (0, 0))]) (fun b1 => []) (fun b1 => by kernel_rfl) (fun b1 => ?_)
  refine WP.seq ?_
  refine WP.block ?_
  refine WP.seq ?_
  refine WP.region ?_
  refine WL.run 5 [0] [3, 4, 10] (fun _ => [(3, .pointer (some ⟨b1, 0, none⟩)), (4, .nilIface), (10, .bool (a1.Dst != a0))]) (fun _ => [(b1, .cells #[.int .u64 a1.Dst, .int .u64 a1.Src, .bool a1.Tag.Has, .int .i64 a1.Tag.Pri, .bool a1.Tag.Dei, .int .i64 a1.Tag.Vid, .int .i64 a1.Type_, .string a1.Body] 29 (0, 0))]) (fun _ => [b1]) (fun _ => by kernel_rfl) (fun _ => ?_)
  refine WL.sub [3, 4, 10] (L' := [(3, .pointer (some ⟨b1, 0, none⟩)), (4, .nilIface), (10, .bool (a1.Dst != a0))]) (by kernel_rfl) ?_
  refine WL.both (fun b' => [(3, .pointer (some ⟨b1, 0, none⟩)), (4, .nilIface), (10, .bool b')]) (a1.Dst != a0) 4 [0] [] [3, 4, 14] (fun b' => [(3, .pointer (some ⟨b1, 0, none⟩)), (4, .nilIface), (14, .bool (b' && (a1.Dst != 281474976710655)))]) [b1] [] (fun _ => by kernel_rfl) (fun _ => by kernel_rfl) ?_
  refine WL.run 1 [] [3, 4, 5] (fun _ => [(3, .pointer (some ⟨b1, 0, none⟩)), (4, .nilIface), (5, .bool ((a1.Dst != a0) && (a1.Dst != 281474976710655)))]) (fun _ => [(b1, .cells #[.int .u64 a1.Dst, .int .u64 a1.Src, .bool a1.Tag.Has, .int .i64 a1.Tag.Pri, .bool a1.Tag.Dei, .int .i64 a1.Tag.Vid, .int .i64 a1.Type_, .string a1.Body] 29 (0, 0))]) (fun _ => []) (fun _ => by kernel_rfl) (fun _ => ?_)
  refine WP.done ?_
  refine WP.cond ((a1.Dst != a0) && (a1.Dst != 281474976710655)) rfl rfl (fun c2 => ?_) (fun c2 => ?_)
  · replace hM := cond_t hM c2
    refine WP.seq ?_
    refine WP.region ?_
    obtain ⟨r3, h4, hM⟩ := bind_some hM
    refine WL.callP [] [] (station_not_calls (⟨#[102, 114, 97, 109, 101]⟩ : ByteArray) 2 _ h4) (fun _ h => h) (by kernel_rfl) (by kernel_rfl) rfl ?_
    refine WL.run 1 [] [4] (fun _ => [(4, .iface 138 (.agg #[.string r3.1, .iface 80 (.agg #[.int .i64 r3.2.n])]))]) (fun _ => [(b1, .cells #[.int .u64 a1.Dst, .int .u64 a1.Src, .bool a1.Tag.Has, .int .i64 a1.Tag.Pri, .bool a1.Tag.Dei, .int .i64 a1.Tag.Vid, .int .i64 a1.Type_, .string a1.Body] 29 (0, 0))]) (fun _ => []) (fun _ => by kernel_rfl) (fun _ => ?_)
    refine WP.done ?_
    refine WP.keep [false] (by kernel_rfl : _ = []) ?_
    obtain rfl := Option.some.inj hM
    exact WP.ret [] [] (.iface 138 (.agg #[.string r3.1, .iface 80 (.agg #[.int .i64 r3.2.n])])) (by kernel_rfl) (fun w' hw => ⟨rfl, hw.pick [] rfl⟩)
  · replace hM := cond_f hM c2
    refine WP.seq ?_
    refine WP.region ?_
    refine WL.run 4 [0] [3, 4, 20] (fun _ => [(3, .pointer (some ⟨b1, 0, none⟩)), (4, .nilIface), (20, .bool a1.Tag.Has)]) (fun _ => [(b1, .cells #[.int .u64 a1.Dst, .int .u64 a1.Src, .bool a1.Tag.Has, .int .i64 a1.Tag.Pri, .bool a1.Tag.Dei, .int .i64 a1.Tag.Vid, .int .i64 a1.Type_, .string a1.Body] 29 (0, 0))]) (fun _ => [b1]) (fun _ => by kernel_rfl) (fun _ => ?_)
    refine WL.sub [3, 4, 20] (L' := [(3, .pointer (some ⟨b1, 0, none⟩)), (4, .nilIface), (20, .bool a1.Tag.Has)]) (by kernel_rfl) ?_
    refine WL.join (σ := Bool) 5 (fun st => station_framed.k2 a1 st = some r) (fun st => [(3, .pointer (some ⟨b1, 0, none⟩)), (4, .nilIface), (25, .bool st)]) (fun st => Sat w Z [(b1, .cells #[.int .u64 a1.Dst, .int .u64 a1.Src, .bool a1.Tag.Has, .int .i64 a1.Tag.Pri, .bool a1.Tag.Dei, .int .i64 a1.Tag.Vid, .int .i64 a1.Type_, .string a1.Body] 29 (0, 0))] [] Glob) (fun st hM => ?_) (fun K2 => ?_)
    ·
      obtain ⟨x8, rfl⟩ : ∃ y, y = st := ⟨st, rfl⟩
      replace hM : station_framed.k2 a1 x8 = some r := hM
      unfold station_framed.k2 at hM
      show WL _ _ _ _ _ [(3, .pointer (some ⟨b1, 0, none⟩)), (4, .nilIface), (25, .bool x8)] (Sat w Z [(b1, .cells #[.int .u64 a1.Dst, .int .u64 a1.Src, .bool a1.Tag.Has, .int .i64 a1.Tag.Pri, .bool a1.Tag.Dei, .int .i64 a1.Tag.Vid, .int .i64 a1.Type_, .string a1.Body] 29 (0, 0))] [] Glob)
      refine WL.run 1 [] [3, 4, 26] (fun _ => [(3, .pointer (some ⟨b1, 0, none⟩)), (4, .nilIface), (26, .bool x8)]) (fun _ => [(b1, .cells #[.int .u64 a1.Dst, .int .u64 a1.Src, .bool a1.Tag.Has, .int .i64 a1.Tag.Pri, .bool a1.Tag.Dei, .int .i64 a1.Tag.Vid, .int .i64 a1.Type_, .string a1.Body] 29 (0, 0))]) (fun _ => []) (fun _ => by kernel_rfl) (fun _ => ?_)
      refine WL.sub [3, 4, 26] (L' := [(3, .pointer (some ⟨b1, 0, none⟩)), (4, .nilIface), (26, .bool x8)]) (by kernel_rfl) ?_
      refine WL.join (σ := Bool) 9 (fun st => station_framed.k1 st = some r) (fun st => [(4, .nilIface), (35, .bool st)]) (fun st => Sat w Z [] [] Glob) (fun st hM => ?_) (fun K1 => ?_)
      ·
        obtain ⟨x10, rfl⟩ : ∃ y, y = st := ⟨st, rfl⟩
        replace hM : station_framed.k1 x10 = some r := hM
        unfold station_framed.k1 at hM
        show WL _ _ _ _ _ [(4, .nilIface), (35, .bool x10)] (Sat w Z [] [] Glob)
        refine WL.run 1 [] [4, 16] (fun _ => [(4, .nilIface), (16, .bool x10)]) (fun _ => []) (fun _ => []) (fun _ => by kernel_rfl) (fun _ => ?_)
        refine WP.done ?_
        refine WP.cond x10 rfl rfl (fun c11 => ?_) (fun c11 => ?_)
        · replace hM := cond_t hM c11
          refine WP.seq ?_
          refine WP.region ?_
          obtain ⟨r12, h13, hM⟩ := bind_some hM
          refine WL.callP [] [] (station_not_calls (⟨#[102, 114, 97, 109, 101]⟩ : ByteArray) 3 _ h13) (fun _ h => h) (by kernel_rfl) (by kernel_rfl) rfl ?_
          refine WL.run 1 [] [4] (fun _ => [(4, .iface 138 (.agg #[.string r12.1, .iface 80 (.agg #[.int .i64 r12.2.n])]))]) (fun _ => []) (fun _ => []) (fun _ => by kernel_rfl) (fun _ => ?_)
          refine WP.done ?_
          obtain rfl := Option.some.inj hM
          exact WP.ret [] [] (.iface 138 (.agg #[.string r12.1, .iface 80 (.agg #[.int .i64 r12.2.n])])) (by kernel_rfl) (fun w' hw => ⟨rfl, hw.pick [] rfl⟩)
        · replace hM := cond_f hM c11
          refine WP.skip ?_
          refine WP.leave ?_
          refine WP.seq ?_
          refine WP.run [] [4] (fun _ => [(4, .nilIface)]) (fun _ => []) (fun _ => []) (fun _ => by kernel_rfl) (fun _ => ?_)
          obtain rfl := Option.some.inj hM
          exact WP.ret [] [] (.nilIface) (by kernel_rfl) (fun w' hw => ⟨rfl, hw.pick [] rfl⟩)
      ·
        refine WL.split (fun b' => [(3, .pointer (some ⟨b1, 0, none⟩)), (4, .nilIface), (26, .bool b')]) x8 (fun c9 => ?_) (fun c9 => ?_)
        · replace hM := cond_t hM c9
          refine WL.run 9 [] [4, 35] (fun _ => [(4, .nilIface), (35, .bool true)]) (fun _ => [(b1, .cells #[.int .u64 a1.Dst, .int .u64 a1.Src, .bool a1.Tag.Has, .int .i64 a1.Tag.Pri, .bool a1.Tag.Dei, .int .i64 a1.Tag.Vid, .int .i64 a1.Type_, .string a1.Body] 29 (0, 0))]) (fun _ => []) (fun _ => by kernel_rfl) (fun _ => ?_)
          exact WL.sub [4, 35] (by kernel_rfl) (WL.pick [] (by kernel_rfl) (by kernel_rfl) (K1 true hM))
        · replace hM := cond_f hM c9
          refine WL.run 4 [0] [3, 4, 26, 30] (fun _ => [(3, .pointer (some ⟨b1, 0, none⟩)), (4, .nilIface), (26, .bool false), (30, .bool (a1.Type_ != 2048))]) (fun _ => [(b1, .cells #[.int .u64 a1.Dst, .int .u64 a1.Src, .bool a1.Tag.Has, .int .i64 a1.Tag.Pri, .bool a1.Tag.Dei, .int .i64 a1.Tag.Vid, .int .i64 a1.Type_, .string a1.Body] 29 (0, 0))]) (fun _ => [b1]) (fun _ => by kernel_rfl) (fun _ => ?_)
          refine WL.sub [3, 4, 26, 30] (L' := [(3, .pointer (some ⟨b1, 0, none⟩)), (4, .nilIface), (26, .bool false), (30, .bool (a1.Type_ != 2048))]) (by kernel_rfl) ?_
          refine WL.both (fun b' => [(3, .pointer (some ⟨b1, 0, none⟩)), (4, .nilIface), (26, .bool false), (30, .bool b')]) (a1.Type_ != 2048) 4 [0] [] [4, 26, 34] (fun b' => [(4, .nilIface), (26, .bool false), (34, .bool (b' && (a1.Type_ != 2054)))]) [b1] [] (fun _ => by kernel_rfl) (fun _ => by kernel_rfl) ?_
          refine WL.run 1 [] [4, 35] (fun _ => [(4, .nilIface), (35, .bool ((a1.Type_ != 2048) && (a1.Type_ != 2054)))]) (fun _ => [(b1, .cells #[.int .u64 a1.Dst, .int .u64 a1.Src, .bool a1.Tag.Has, .int .i64 a1.Tag.Pri, .bool a1.Tag.Dei, .int .i64 a1.Tag.Vid, .int .i64 a1.Type_, .string a1.Body] 29 (0, 0))]) (fun _ => []) (fun _ => by kernel_rfl) (fun _ => ?_)
          exact WL.sub [4, 35] (by kernel_rfl) (WL.pick [] (by kernel_rfl) (by kernel_rfl) (K1 ((a1.Type_ != 2048) && (a1.Type_ != 2054)) hM))
    ·
      refine WL.split (fun b' => [(3, .pointer (some ⟨b1, 0, none⟩)), (4, .nilIface), (20, .bool b')]) a1.Tag.Has (fun c5 => ?_) (fun c5 => ?_)
      · replace hM := cond_t hM c5
        refine WL.run 5 [] [3, 4, 25] (fun _ => [(3, .pointer (some ⟨b1, 0, none⟩)), (4, .nilIface), (25, .bool true)]) (fun _ => [(b1, .cells #[.int .u64 a1.Dst, .int .u64 a1.Src, .bool a1.Tag.Has, .int .i64 a1.Tag.Pri, .bool a1.Tag.Dei, .int .i64 a1.Tag.Vid, .int .i64 a1.Type_, .string a1.Body] 29 (0, 0))]) (fun _ => []) (fun _ => by kernel_rfl) (fun _ => ?_)
        exact WL.sub [3, 4, 25] (by kernel_rfl) (WL.pick [0] (by kernel_rfl) (by kernel_rfl) (K2 true hM))
      · replace hM := cond_f hM c5
        refine WL.run 2 [0] [3, 4, 20, 22] (fun _ => [(3, .pointer (some ⟨b1, 0, none⟩)), (4, .nilIface), (20, .bool false), (22, .int .u64 a1.Src)]) (fun _ => [(b1, .cells #[.int .u64 a1.Dst, .int .u64 a1.Src, .bool a1.Tag.Has, .int .i64 a1.Tag.Pri, .bool a1.Tag.Dei, .int .i64 a1.Tag.Vid, .int .i64 a1.Type_, .string a1.Body] 29 (0, 0))]) (fun _ => [b1]) (fun _ => by kernel_rfl) (fun _ => ?_)
        obtain ⟨r6, h7, hM⟩ := bind_some hM
        refine WL.callP [] [] (addrs_Own_calls a1.Src _ h7) (fun _ h => h) (by kernel_rfl) (by kernel_rfl) rfl ?_
        refine WL.run 2 [] [3, 4, 25] (fun _ => [(3, .pointer (some ⟨b1, 0, none⟩)), (4, .nilIface), (25, .bool (!r6))]) (fun _ => [(b1, .cells #[.int .u64 a1.Dst, .int .u64 a1.Src, .bool a1.Tag.Has, .int .i64 a1.Tag.Pri, .bool a1.Tag.Dei, .int .i64 a1.Tag.Vid, .int .i64 a1.Type_, .string a1.Body] 29 (0, 0))]) (fun _ => []) (fun _ => by kernel_rfl) (fun _ => ?_)
        exact WL.sub [3, 4, 25] (by kernel_rfl) (WL.pick [0] (by kernel_rfl) (by kernel_rfl) (K2 (!r6) hM))

end Go.Proofs.YtbodofjnfmjbpaaGreatDoor

namespace Go.Proofs.YtbodofjnfmjbpaaGreatDoor
open Go Eng
set_option linter.unusedVariables false
set_option linter.unusedSimpArgs false

/-! ### gangway/arp.Parse$1: function 86 -/
def arp_Parse_1.f (k : Nat) (a0 : Int) (a1 : ByteArray) (a2 : Int) : Option (Int × Int) :=
  (octets_Get.f k a1 a2 a0).bind fun (r1, r2) =>
  some (r1, i64 (a2 + a0))

set_option maxRecDepth 100000 in
theorem arp_Parse_1_calls (k : Nat) (b_0 : Nat) (b_1 : Nat) (a0 : Int) (a1 : ByteArray) (a2 : Int) (r : Int × Int) (h : arp_Parse_1.f k a0 a1 a2 = some r) : Does Tryz.prog 86 #[.int .i64 a0, .pointer (some ⟨b_0, 0, none⟩), .pointer (some ⟨b_1, 0, none⟩)] [(b_0, .cells #[.string a1] 9 (0, 0)), (b_1, .cells #[.int .i64 a2] 3 (0, 0))] Glob (fun _ : Unit => .int .u64 r.1) (fun _ => [(b_0, .cells #[.string a1] 9 (0, 0)), (b_1, .cells #[.int .i64 r.2] 3 (0, 0))]) (fun _ => []) (fun _ => Glob) := by
  intro w Z hS
  refine calls_of (args := [.int .i64 a0, .pointer (some ⟨b_0, 0, none⟩), .pointer (some ⟨b_1, 0, none⟩)]) (L := [(0, .int .i64 a0), (1, .pointer (some ⟨b_0, 0, none⟩)), (2, .pointer (some ⟨b_1, 0, none⟩))]) (N := 18) (S := Sat w Z [(b_0, .cells #[.string a1] 9 (0, 0)), (b_1, .cells #[.int .i64 a2] 3 (0, 0))] [] Glob) Tryz.func86 rfl rfl (Nat.le_of_ble_eq_true rfl) rfl hS ?_
  have hM := h
  clear h hS
  unfold arp_Parse_1.f at hM
  refine WP.seq ?_
  refine WP.run [] [0, 1, 2, 4] (fun _ => [(0, .int .i64 a0), (1, .pointer (some ⟨b_0, 0, none⟩)), (2, .pointer (some ⟨b_1, 0, none⟩)), (4, .int .u64 0)]) (fun _ => [(b_0, .cells #[.string a1] 9 (0, 0)), (b_1, .cells #[.int .i64 a2] 3 (0, 0))]) (fun _ => []) (fun _ => by kernel_rfl) (fun _ => ?_)
  refine WP.seq ?_
  refine WP.region ?_
  refine WL.run 3 [0, 1] [0, 2, 4, 8, 9, 10] (fun _ => [(0, .int .i64 a0), (2, .pointer (some ⟨b_1, 0, none⟩)), (4, .int .u64 0), (8, .string a1), (9, .int .i64 a2), (10, .int .i64 a0)]) (fun _ => [(b_0, .cells #[.string a1] 9 (0, 0)), (b_1, .cells #[.int .i64 a2] 3 (0, 0))]) (fun _ => [b_1, b_0]) (fun _ => by kernel_rfl) (fun _ => ?_)
  obtain ⟨⟨r1, r2⟩, h3, hM⟩ := bind_some hM
  dsimp only at hM
  refine WL.callP [] [] (octets_Get_calls k a1 a2 a0 _ h3) (fun _ h => h) (by kernel_rfl) (by kernel_rfl) rfl ?_
  refine WL.run 5 [] [0, 2, 4, 5] (fun _ => [(0, .int .i64 a0), (2, .pointer (some ⟨b_1, 0, none⟩)), (4, .int .u64 0), (5, .int .u64 r1)]) (fun _ => [(b_0, .cells #[.string a1] 9 (0, 0)), (b_1, .cells #[.int .i64 a2] 3 (0, 0))]) (fun _ => []) (fun _ => by kernel_rfl) (fun _ => ?_)
  refine WP.done ?_
  refine WP.seq ?_
  refine WP.run [1, 1] [4, 5] (fun _ => [(4, .int .u64 0), (5, .int .u64 r1)]) (fun _ => [(b_0, .cells #[.string a1] 9 (0, 0)), (b_1, .cells #[.int .i64 (i64 (a2 + a0))] 3 (0, 0))]) (fun _ => [b_1, b_1]) (fun _ => by kernel_rfl) (fun _ => ?_)
  refine WP.seq ?_
  refine WP.run [] [4] (fun _ => [(4, .int .u64 r1)]) (fun _ => [(b_0, .cells #[.string a1] 9 (0, 0)), (b_1, .cells #[.int .i64 (i64 (a2 + a0))] 3 (0, 0))]) (fun _ => []) (fun _ => by kernel_rfl) (fun _ => ?_)
  obtain rfl := Option.some.inj hM
  exact WP.ret [] [] (.int .u64 r1) (by kernel_rfl) (fun w' hw => ⟨(), rfl, hw.pick [0, 1] (by kernel_rfl)⟩)

end Go.Proofs.YtbodofjnfmjbpaaGreatDoor

namespace Go.Proofs.YtbodofjnfmjbpaaGreatDoor
open Go Eng
set_option linter.unusedVariables false
set_option linter.unusedSimpArgs false

/-! ### internal/stringslite.HasPrefix: function 110 -/
def stringslite_HasPrefix.k1 (x4 : Bool) : Option (Bool) :=
  some x4

def stringslite_HasPrefix.f (a0 : ByteArray) (a1 : ByteArray) : Option (Bool) :=
  bif decide ((a0.size : Int) ≥ (a1.size : Int)) then
    (sliceS a0 0 (a1.size : Int)).bind fun t2 =>
    stringslite_HasPrefix.k1 (t2.toList == a1.toList)
  else
    stringslite_HasPrefix.k1 false

set_option maxRecDepth 100000 in
theorem stringslite_HasPrefix_calls (a0 : ByteArray) (a1 : ByteArray) (r : Bool) (h : stringslite_HasPrefix.f a0 a1 = some r) : Pure Tryz.prog Glob 110 #[.string a0, .string a1] (.bool r) := by
  intro w Z hS
  refine calls_of (args := [.string a0, .string a1]) (L := [(0, .string a0), (1, .string a1)]) (N := 18) (S := Sat w Z [] [] Glob) Tryz.func110 rfl rfl (Nat.le_of_ble_eq_true rfl) rfl hS ?_
  have hM := h
  clear h hS
  unfold stringslite_HasPrefix.f at hM
  refine WP.seq ?_
  refine WP.run [] [0, 1, 4] (fun _ => [(0, .string a0), (1, .string a1), (4, .bool false)]) (fun _ => []) (fun _ => []) (fun _ => by kernel_rfl) (fun _ => ?_)
  refine WP.seq ?_
  refine WP.region ?_
  refine WL.run 6 [] [0, 1, 4, 10] (fun _ => [(0, .string a0), (1, .string a1), (4, .bool false), (10, .bool (decide ((a0.size : Int) ≥ (a1.size : Int))))]) (fun _ => []) (fun _ => []) (fun _ => by kernel_rfl) (fun _ => ?_)
  refine WL.sub [0, 1, 4, 10] (L' := [(0, .string a0), (1, .string a1), (4, .bool false), (10, .bool (decide ((a0.size : Int) ≥ (a1.size : Int))))]) (by kernel_rfl) ?_
  refine WL.join (σ := Bool) 7 (fun st => stringslite_HasPrefix.k1 st = some r) (fun st => [(4, .bool false), (17, .bool st)]) (fun st => Sat w Z [] [] Glob) (fun st hM => ?_) (fun K1 => ?_)
  ·
    obtain ⟨x4, rfl⟩ : ∃ y, y = st := ⟨st, rfl⟩
    replace hM : stringslite_HasPrefix.k1 x4 = some r := hM
    unfold stringslite_HasPrefix.k1 at hM
    show WL _ _ _ _ _ [(4, .bool false), (17, .bool x4)] (Sat w Z [] [] Glob)
    refine WL.run 1 [] [4] (fun _ => [(4, .bool x4)]) (fun _ => []) (fun _ => []) (fun _ => by kernel_rfl) (fun _ => ?_)
    refine WP.done ?_
    obtain rfl := Option.some.inj hM
    exact WP.ret [] [] (.bool x4) (by kernel_rfl) (fun w' hw => ⟨rfl, hw.pick [] rfl⟩)
  ·
    refine WL.split (fun b' => [(0, .string a0), (1, .string a1), (4, .bool false), (10, .bool b')]) (decide ((a0.size : Int) ≥ (a1.size : Int))) (fun c1 => ?_) (fun c1 => ?_)
    · replace hM := cond_t hM c1
      refine WL.run 3 [] [1, 4, 10, 11, 13] (fun _ => [(1, .string a1), (4, .bool false), (10, .bool true), (11, .string a0), (13, .int .i64 (a1.size : Int))]) (fun _ => []) (fun _ => []) (fun _ => by kernel_rfl) (fun _ => ?_)
      obtain ⟨t2, h3, hM⟩ := bind_some hM
      refine WL.val (fun _ => run_sliceS_hi (s := a0) (kh := .i64) (h := (a1.size : Int)) (by kernel_rfl) (by kernel_rfl) (by kernel_rfl) h3) (by kernel_rfl) (by kernel_rfl) rfl ?_
      refine WL.run 3 [] [4, 17] (fun _ => [(4, .bool false), (17, .bool (t2.toList == a1.toList))]) (fun _ => []) (fun _ => []) (fun _ => by kernel_rfl) (fun _ => ?_)
      exact WL.sub [4, 17] (by kernel_rfl) (WL.pick [] (by kernel_rfl) (by kernel_rfl) (K1 (t2.toList == a1.toList) hM))
    · replace hM := cond_f hM c1
      refine WL.run 7 [] [4, 17] (fun _ => [(4, .bool false), (17, .bool false)]) (fun _ => []) (fun _ => []) (fun _ => by kernel_rfl) (fun _ => ?_)
      exact WL.sub [4, 17] (by kernel_rfl) (WL.pick [] (by kernel_rfl) (by kernel_rfl) (K1 false hM))

end Go.Proofs.YtbodofjnfmjbpaaGreatDoor

namespace Go.Proofs.YtbodofjnfmjbpaaGreatDoor
open Go Eng
set_option linter.unusedVariables false
set_option linter.unusedSimpArgs false

/-! ### strings.HasPrefix: function 87 -/
def strings_HasPrefix.f (a0 : ByteArray) (a1 : ByteArray) : Option (Bool) :=
  (stringslite_HasPrefix.f a0 a1).bind fun r1 =>
  some r1

set_option maxRecDepth 100000 in
theorem strings_HasPrefix_calls (a0 : ByteArray) (a1 : ByteArray) (r : Bool) (h : strings_HasPrefix.f a0 a1 = some r) : Pure Tryz.prog Glob 87 #[.string a0, .string a1] (.bool r) := by
  intro w Z hS
  refine calls_of (args := [.string a0, .string a1]) (L := [(0, .string a0), (1, .string a1)]) (N := 8) (S := Sat w Z [] [] Glob) Tryz.func87 rfl rfl (Nat.le_of_ble_eq_true rfl) rfl hS ?_
  have hM := h
  clear h hS
  unfold strings_HasPrefix.f at hM
  refine WP.seq ?_
  refine WP.run [] [0, 1, 4] (fun _ => [(0, .string a0), (1, .string a1), (4, .bool false)]) (fun _ => []) (fun _ => []) (fun _ => by kernel_rfl) (fun _ => ?_)
  refine WP.seq ?_
  refine WP.region ?_
  refine WL.run 2 [] [4, 5, 6] (fun _ => [(4, .bool false), (5, .string a0), (6, .string a1)]) (fun _ => []) (fun _ => []) (fun _ => by kernel_rfl) (fun _ => ?_)
  obtain ⟨r1, h2, hM⟩ := bind_some hM
  refine WL.callP [] [] (stringslite_HasPrefix_calls a0 a1 _ h2) (fun _ h => h) (by kernel_rfl) (by kernel_rfl) rfl ?_
  refine WL.run 1 [] [4] (fun _ => [(4, .bool r1)]) (fun _ => []) (fun _ => []) (fun _ => by kernel_rfl) (fun _ => ?_)
  refine WP.done ?_
  obtain rfl := Option.some.inj hM
  exact WP.ret [] [] (.bool r1) (by kernel_rfl) (fun w' hw => ⟨rfl, hw.pick [] rfl⟩)

end Go.Proofs.YtbodofjnfmjbpaaGreatDoor

namespace Go.Proofs.YtbodofjnfmjbpaaGreatDoor
open Go Eng
set_option linter.unusedVariables false
set_option linter.unusedSimpArgs false

/-! ### gangway/arp.Check: function 88 -/
def arp_Check.k1 (a0 : api_Arp) (x5 : Bool) : Option (Int) :=
  bif (x5 || (decide (a0.TMac ≥ 281474976710656))) then
    some 51
  else
    some 0

def arp_Check.f (a0 : api_Arp) : Option (Int) :=
  bif ((a0.Op != 1) && (a0.Op != 2)) then
    arp_Check.k1 a0 true
  else
    (addrs_Own.f a0.SMac).bind fun r3 =>
    arp_Check.k1 a0 (!r3)

set_option maxRecDepth 100000 in
theorem arp_Check_calls (a0 : api_Arp) (r : Int) (h : arp_Check.f a0 = some r) : Pure Tryz.prog Glob 88 #[.agg #[.int .i64 a0.Op, .int .u64 a0.SMac, .int .u32 a0.SIp, .int .u64 a0.TMac, .int .u32 a0.TIp]] (.int .i64 r) := by
  intro w Z hS
  refine calls_of (args := [.agg #[.int .i64 a0.Op, .int .u64 a0.SMac, .int .u32 a0.SIp, .int .u64 a0.TMac, .int .u32 a0.TIp]]) (L := [(0, .agg #[.int .i64 a0.Op, .int .u64 a0.SMac, .int .u32 a0.SIp, .int .u64 a0.TMac, .int .u32 a0.TIp])]) (N := 22) (S := Sat w Z [] [] Glob) Tryz.func88 rfl rfl (Nat.le_of_ble_eq_true rfl) rfl hS ?_
  have hM := h
  clear h hS
  unfold arp_Check.f at hM
  refine WP.seq ?_
  refine WP.run [] [1, 2] (fun b1 => [(1, .pointer (some ⟨b1, 0, none⟩)), (2, .int .i64 0)]) (fun b1 => [(b1, .cells #[.int .i64 a0.Op, .int .u64 a0.SMac, .int .u32 a0.SIp, .int .u64 a0.TMac, .int .u32 a0.TIp] 49 (0, 0))]) (fun b1 => []) (fun b1 => by kernel_rfl) (fun b1 => ?_)
  refine WP.seq ?_
  refine WP.seq ?_
  refine WP.region ?_
  refine WL.run 4 [0] [1, 2, 6] (fun _ => [(1, .pointer (some ⟨b1, 0, none⟩)), (2, .int .i64 0), (6, .bool (a0.Op != 1))]) (fun _ => [(b1, .cells #[.int .i64 a0.Op, .int .u64 a0.SMac, .int .u32 a0.SIp, .int .u64 a0.TMac, .int .u32 a0.TIp] 49 (0, 0))]) (fun _ => [b1]) (fun _ => by kernel_rfl) (fun _ => ?_)
  refine WL.sub [1, 2, 6] (L' := [(1, .pointer (some ⟨b1, 0, none⟩)), (2, .int .i64 0), (6, .bool (a0.Op != 1))]) (by kernel_rfl) ?_
  refine WL.both (fun b' => [(1, .pointer (some ⟨b1, 0, none⟩)), (2, .int .i64 0), (6, .bool b')]) (a0.Op != 1) 4 [0] [] [1, 2, 10] (fun b' => [(1, .pointer (some ⟨b1, 0, none⟩)), (2, .int .i64 0), (10, .bool (b' && (a0.Op != 2)))]) [b1] [] (fun _ => by kernel_rfl) (fun _ => by kernel_rfl) ?_
  refine WL.run 1 [] [1, 2, 11] (fun _ => [(1, .pointer (some ⟨b1, 0, none⟩)), (2, .int .i64 0), (11, .bool ((a0.Op != 1) && (a0.Op != 2)))]) (fun _ => [(b1, .cells #[.int .i64 a0.Op, .int .u64 a0.SMac, .int .u32 a0.SIp, .int .u64 a0.TMac, .int .u32 a0.TIp] 49 (0, 0))]) (fun _ => []) (fun _ => by kernel_rfl) (fun _ => ?_)
  refine WL.sub [1, 2, 11] (L' := [(1, .pointer (some ⟨b1, 0, none⟩)), (2, .int .i64 0), (11, .bool ((a0.Op != 1) && (a0.Op != 2)))]) (by kernel_rfl) ?_
  refine WL.join (σ := Bool) 5 (fun st => arp_Check.k1 a0 st = some r) (fun st => [(1, .pointer (some ⟨b1, 0, none⟩)), (2, .int .i64 0), (16, .bool st)]) (fun st => Sat w Z [(b1, .cells #[.int .i64 a0.Op, .int .u64 a0.SMac, .int .u32 a0.SIp, .int .u64 a0.TMac, .int .u32 a0.TIp] 49 (0, 0))] [] Glob) (fun st hM => ?_) (fun K1 => ?_)
  ·
    obtain ⟨x5, rfl⟩ : ∃ y, y = st := ⟨st, rfl⟩
    replace hM : arp_Check.k1 a0 x5 = some r := hM
    unfold arp_Check.k1 at hM
    show WL _ _ _ _ _ [(1, .pointer (some ⟨b1, 0, none⟩)), (2, .int .i64 0), (16, .bool x5)] (Sat w Z [(b1, .cells #[.int .i64 a0.Op, .int .u64 a0.SMac, .int .u32 a0.SIp, .int .u64 a0.TMac, .int .u32 a0.TIp] 49 (0, 0))] [] Glob)
    refine WL.run 1 [] [1, 2, 17] (fun _ => [(1, .pointer (some ⟨b1, 0, none⟩)), (2, .int .i64 0), (17, .bool x5)]) (fun _ => [(b1, .cells #[.int .i64 a0.Op, .int .u64 a0.SMac, .int .u32 a0.SIp, .int .u64 a0.TMac, .int .u32 a0.TIp] 49 (0, 0))]) (fun _ => []) (fun _ => by kernel_rfl) (fun _ => ?_)
    refine WL.sub [1, 2, 17] (L' := [(1, .pointer (some ⟨b1, 0, none⟩)), (2, .int .i64 0), (17, .bool x5)]) (by kernel_rfl) ?_
    refine WL.both (fun b' => [(1, .pointer (some ⟨b1, 0, none⟩)), (2, .int .i64 0), (17, .bool b')]) x5 4 [] [0] [2, 21] (fun b' => [(2, .int .i64 0), (21, .bool (b' || (decide (a0.TMac ≥ 281474976710656))))]) [] [b1] (fun _ => by kernel_rfl) (fun _ => by kernel_rfl) ?_
    refine WP.done ?_
    refine WP.keep [false] (by kernel_rfl : _ = []) ?_
    refine WP.cond (x5 || (decide (a0.TMac ≥ 281474976710656))) rfl rfl (fun c6 => ?_) (fun c6 => ?_)
    · replace hM := cond_t hM c6
      refine WP.seq ?_
      refine WP.run [] [2] (fun _ => [(2, .int .i64 51)]) (fun _ => []) (fun _ => []) (fun _ => by kernel_rfl) (fun _ => ?_)
      obtain rfl := Option.some.inj hM
      exact WP.ret [] [] (.int .i64 51) (by kernel_rfl) (fun w' hw => ⟨rfl, hw.pick [] rfl⟩)
    · replace hM := cond_f hM c6
      refine WP.skip ?_
      refine WP.seq ?_
      refine WP.run [] [2] (fun _ => [(2, .int .i64 0)]) (fun _ => []) (fun _ => []) (fun _ => by kernel_rfl) (fun _ => ?_)
      obtain rfl := Option.some.inj hM
      exact WP.ret [] [] (.int .i64 0) (by kernel_rfl) (fun w' hw => ⟨rfl, hw.pick [] rfl⟩)
  ·
    refine WL.split (fun b' => [(1, .pointer (some ⟨b1, 0, none⟩)), (2, .int .i64 0), (11, .bool b')]) ((a0.Op != 1) && (a0.Op != 2)) (fun c2 => ?_) (fun c2 => ?_)
    · replace hM := cond_t hM c2
      refine WL.run 5 [] [1, 2, 16] (fun _ => [(1, .pointer (some ⟨b1, 0, none⟩)), (2, .int .i64 0), (16, .bool true)]) (fun _ => [(b1, .cells #[.int .i64 a0.Op, .int .u64 a0.SMac, .int .u32 a0.SIp, .int .u64 a0.TMac, .int .u32 a0.TIp] 49 (0, 0))]) (fun _ => []) (fun _ => by kernel_rfl) (fun _ => ?_)
      exact WL.sub [1, 2, 16] (by kernel_rfl) (WL.pick [0] (by kernel_rfl) (by kernel_rfl) (K1 true hM))
    · replace hM := cond_f hM c2
      refine WL.run 2 [0] [1, 2, 11, 13] (fun _ => [(1, .pointer (some ⟨b1, 0, none⟩)), (2, .int .i64 0), (11, .bool false), (13, .int .u64 a0.SMac)]) (fun _ => [(b1, .cells #[.int .i64 a0.Op, .int .u64 a0.SMac, .int .u32 a0.SIp, .int .u64 a0.TMac, .int .u32 a0.TIp] 49 (0, 0))]) (fun _ => [b1]) (fun _ => by kernel_rfl) (fun _ => ?_)
      obtain ⟨r3, h4, hM⟩ := bind_some hM
      refine WL.callP [] [] (addrs_Own_calls a0.SMac _ h4) (fun _ h => h) (by kernel_rfl) (by kernel_rfl) rfl ?_
      refine WL.run 2 [] [1, 2, 16] (fun _ => [(1, .pointer (some ⟨b1, 0, none⟩)), (2, .int .i64 0), (16, .bool (!r3))]) (fun _ => [(b1, .cells #[.int .i64 a0.Op, .int .u64 a0.SMac, .int .u32 a0.SIp, .int .u64 a0.TMac, .int .u32 a0.TIp] 49 (0, 0))]) (fun _ => []) (fun _ => by kernel_rfl) (fun _ => ?_)
      exact WL.sub [1, 2, 16] (by kernel_rfl) (WL.pick [0] (by kernel_rfl) (by kernel_rfl) (K1 (!r3) hM))

end Go.Proofs.YtbodofjnfmjbpaaGreatDoor

namespace Go.Proofs.YtbodofjnfmjbpaaGreatDoor
open Go Eng
set_option linter.unusedVariables false
set_option linter.unusedSimpArgs false

/-! ### gangway/arp.Parse: function 56 -/
def arp_Parse.k1 (r4 : Int) (r7 : Int) (r10 : Int) (r13 : Int) (r16 : Int) (x25 : Bool) : Option (api_Arp × Int) :=
  bif x25 then
    some ((api_Arp.mk 0 0 0 0 0), 51)
  else
    some ((api_Arp.mk (i64 r4) r7 (u32 r10) r13 (u32 r16)), 0)

def arp_Parse.f (k : Nat) (a0 : ByteArray) : Option (api_Arp × Int) :=
  bif decide ((a0.size : Int) < 28) then
    some ((api_Arp.mk 0 0 0 0 0), 50)
  else
    (arp_Parse_1.f k 2 a0 6).bind fun (r4, r5) =>
    (arp_Parse_1.f k 6 a0 r5).bind fun (r7, r8) =>
    (arp_Parse_1.f k 4 a0 r8).bind fun (r10, r11) =>
    (arp_Parse_1.f k 6 a0 r11).bind fun (r13, r14) =>
    (arp_Parse_1.f k 4 a0 r14).bind fun (r16, r17) =>
    (strings_HasPrefix.f a0 (⟨#[0, 1, 8, 0, 6, 4]⟩ : ByteArray)).bind fun r20 =>
    bif !r20 then
      arp_Parse.k1 r4 r7 r10 r13 r16 true
    else
      (arp_Check.f (api_Arp.mk (i64 r4) r7 (u32 r10) r13 (u32 r16))).bind fun r23 =>
      arp_Parse.k1 r4 r7 r10 r13 r16 (r23 != 0)

set_option maxRecDepth 100000 in
theorem arp_Parse_calls (k : Nat) (a0 : ByteArray) (r : api_Arp × Int) (h : arp_Parse.f k a0 = some r) : Pure Tryz.prog Glob 56 #[.string a0] (.tuple #[.agg #[.int .i64 r.1.Op, .int .u64 r.1.SMac, .int .u32 r.1.SIp, .int .u64 r.1.TMac, .int .u32 r.1.TIp], .int .i64 r.2]) := by
  intro w Z hS
  refine calls_of (args := [.string a0]) (L := [(0, .string a0)]) (N := 36) (S := Sat w Z [] [] Glob) Tryz.func56 rfl rfl (Nat.le_of_ble_eq_true rfl) rfl hS ?_
  have hM := h
  clear h hS
  unfold arp_Parse.f at hM
  refine WP.seq ?_
  refine WP.run [] [1, 2, 3] (fun b1 => [(1, .pointer (some ⟨b1, 0, none⟩)), (2, .pointer (some ⟨(b1 + 1), 0, none⟩)), (3, .int .i64 0)]) (fun b1 => [(b1, .cells #[.string a0] 9 (0, 0)), ((b1 + 1), .cells #[.int .i64 0, .int .u64 0, .int .u32 0, .int .u64 0, .int .u32 0] 49 (0, 0))]) (fun b1 => []) (fun b1 => by kernel_rfl) (fun b1 => ?_)
  refine WP.seq ?_
  refine WP.seq ?_
  refine WP.run [0] [1, 2, 3, 9] (fun _ => [(1, .pointer (some ⟨b1, 0, none⟩)), (2, .pointer (some ⟨(b1 + 1), 0, none⟩)), (3, .int .i64 0), (9, .bool (decide ((a0.size : Int) < 28)))]) (fun _ => [(b1, .cells #[.string a0] 9 (0, 0)), ((b1 + 1), .cells #[.int .i64 0, .int .u64 0, .int .u32 0, .int .u64 0, .int .u32 0] 49 (0, 0))]) (fun _ => [b1]) (fun _ => by kernel_rfl) (fun _ => ?_)
  refine WP.cond (decide ((a0.size : Int) < 28)) rfl rfl (fun c2 => ?_) (fun c2 => ?_)
  · replace hM := cond_t hM c2
    refine WP.seq ?_
    refine WP.run [1, 1, 1, 1, 1] [1, 2, 3] (fun _ => [(1, .pointer (some ⟨b1, 0, none⟩)), (2, .pointer (some ⟨(b1 + 1), 0, none⟩)), (3, .int .i64 50)]) (fun _ => [(b1, .cells #[.string a0] 9 (0, 0)), ((b1 + 1), .cells #[.int .i64 0, .int .u64 0, .int .u32 0, .int .u64 0, .int .u32 0] 49 (0, 0))]) (fun _ => [(b1 + 1), (b1 + 1), (b1 + 1), (b1 + 1), (b1 + 1)]) (fun _ => by kernel_rfl) (fun _ => ?_)
    obtain rfl := Option.some.inj hM
    exact WP.ret [1, 1, 1, 1, 1] [(b1 + 1), (b1 + 1), (b1 + 1), (b1 + 1), (b1 + 1)] (.tuple #[.agg #[.int .i64 0, .int .u64 0, .int .u32 0, .int .u64 0, .int .u32 0], .int .i64 50]) (by kernel_rfl) (fun w' hw => ⟨rfl, hw.pick [] rfl⟩)
  · replace hM := cond_f hM c2
    refine WP.skip ?_
    refine WP.seq ?_
    refine WP.run [2] [1, 2, 3, 4] (fun b3 => [(1, .pointer (some ⟨b1, 0, none⟩)), (2, .pointer (some ⟨(b1 + 1), 0, none⟩)), (3, .int .i64 0), (4, .pointer (some ⟨b3, 0, none⟩))]) (fun b3 => [(b1, .cells #[.string a0] 9 (0, 0)), ((b1 + 1), .cells #[.int .i64 0, .int .u64 0, .int .u32 0, .int .u64 0, .int .u32 0] 49 (0, 0)), (b3, .cells #[.int .i64 6] 3 (0, 0))]) (fun b3 => [b3]) (fun b3 => by kernel_rfl) (fun b3 => ?_)
    refine WP.seq ?_
    refine WP.run [] [1, 2, 3, 5] (fun _ => [(1, .pointer (some ⟨b1, 0, none⟩)), (2, .pointer (some ⟨(b1 + 1), 0, none⟩)), (3, .int .i64 0), (5, .func (.func 86) #[] #[.pointer (some ⟨b1, 0, none⟩), .pointer (some ⟨b3, 0, none⟩)])]) (fun _ => [(b1, .cells #[.string a0] 9 (0, 0)), ((b1 + 1), .cells #[.int .i64 0, .int .u64 0, .int .u32 0, .int .u64 0, .int .u32 0] 49 (0, 0)), (b3, .cells #[.int .i64 6] 3 (0, 0))]) (fun _ => []) (fun _ => by kernel_rfl) (fun _ => ?_)
    refine WP.seq ?_
    refine WP.region ?_
    refine WL.run 1 [] [1, 2, 3, 5, 12] (fun _ => [(1, .pointer (some ⟨b1, 0, none⟩)), (2, .pointer (some ⟨(b1 + 1), 0, none⟩)), (3, .int .i64 0), (5, .func (.func 86) #[] #[.pointer (some ⟨b1, 0, none⟩), .pointer (some ⟨b3, 0, none⟩)]), (12, .func (.func 86) #[] #[.pointer (some ⟨b1, 0, none⟩), .pointer (some ⟨b3, 0, none⟩)])]) (fun _ => [(b1, .cells #[.string a0] 9 (0, 0)), ((b1 + 1), .cells #[.int .i64 0, .int .u64 0, .int .u32 0, .int .u64 0, .int .u32 0] 49 (0, 0)), (b3, .cells #[.int .i64 6] 3 (0, 0))]) (fun _ => []) (fun _ => by kernel_rfl) (fun _ => ?_)
    obtain ⟨⟨r4, r5⟩, h6, hM⟩ := bind_some hM
    dsimp only at hM
    refine WL.callE (X := Unit) [] [] [true, false, true] (fun _ => _) (arp_Parse_1_calls k b1 b3 2 a0 6 _ h6) rfl rfl (fun _ h => h) (by kernel_rfl) (by kernel_rfl) (fun _ => rfl) (fun _ => ?_)
    refine WL.run 2 [] [1, 2, 3, 5, 14, 15] (fun _ => [(1, .pointer (some ⟨b1, 0, none⟩)), (2, .pointer (some ⟨(b1 + 1), 0, none⟩)), (3, .int .i64 0), (5, .func (.func 86) #[] #[.pointer (some ⟨b1, 0, none⟩), .pointer (some ⟨b3, 0, none⟩)]), (14, .int .i64 (i64 r4)), (15, .func (.func 86) #[] #[.pointer (some ⟨b1, 0, none⟩), .pointer (some ⟨b3, 0, none⟩)])]) (fun _ => [(b1, .cells #[.string a0] 9 (0, 0)), (b3, .cells #[.int .i64 r5] 3 (0, 0)), ((b1 + 1), .cells #[.int .i64 0, .int .u64 0, .int .u32 0, .int .u64 0, .int .u32 0] 49 (0, 0))]) (fun _ => []) (fun _ => by kernel_rfl) (fun _ => ?_)
    obtain ⟨⟨r7, r8⟩, h9, hM⟩ := bind_some hM
    dsimp only at hM
    refine WL.callE (X := Unit) [] [] [true, true, false] (fun _ => _) (arp_Parse_1_calls k b1 b3 6 a0 r5 _ h9) rfl rfl (fun _ h => h) (by kernel_rfl) (by kernel_rfl) (fun _ => rfl) (fun _ => ?_)
    refine WL.run 1 [] [1, 2, 3, 5, 14, 16, 17] (fun _ => [(1, .pointer (some ⟨b1, 0, none⟩)), (2, .pointer (some ⟨(b1 + 1), 0, none⟩)), (3, .int .i64 0), (5, .func (.func 86) #[] #[.pointer (some ⟨b1, 0, none⟩), .pointer (some ⟨b3, 0, none⟩)]), (14, .int .i64 (i64 r4)), (16, .int .u64 r7), (17, .func (.func 86) #[] #[.pointer (some ⟨b1, 0, none⟩), .pointer (some ⟨b3, 0, none⟩)])]) (fun _ => [(b1, .cells #[.string a0] 9 (0, 0)), (b3, .cells #[.int .i64 r8] 3 (0, 0)), ((b1 + 1), .cells #[.int .i64 0, .int .u64 0, .int .u32 0, .int .u64 0, .int .u32 0] 49 (0, 0))]) (fun _ => []) (fun _ => by kernel_rfl) (fun _ => ?_)
    obtain ⟨⟨r10, r11⟩, h12, hM⟩ := bind_some hM
    dsimp only at hM
    refine WL.callE (X := Unit) [] [] [true, true, false] (fun _ => _) (arp_Parse_1_calls k b1 b3 4 a0 r8 _ h12) rfl rfl (fun _ h => h) (by kernel_rfl) (by kernel_rfl) (fun _ => rfl) (fun _ => ?_)
    refine WL.run 2 [] [1, 2, 3, 5, 14, 16, 19, 20] (fun _ => [(1, .pointer (some ⟨b1, 0, none⟩)), (2, .pointer (some ⟨(b1 + 1), 0, none⟩)), (3, .int .i64 0), (5, .func (.func 86) #[] #[.pointer (some ⟨b1, 0, none⟩), .pointer (some ⟨b3, 0, none⟩)]), (14, .int .i64 (i64 r4)), (16, .int .u64 r7), (19, .int .u32 (u32 r10)), (20, .func (.func 86) #[] #[.pointer (some ⟨b1, 0, none⟩), .pointer (some ⟨b3, 0, none⟩)])]) (fun _ => [(b1, .cells #[.string a0] 9 (0, 0)), (b3, .cells #[.int .i64 r11] 3 (0, 0)), ((b1 + 1), .cells #[.int .i64 0, .int .u64 0, .int .u32 0, .int .u64 0, .int .u32 0] 49 (0, 0))]) (fun _ => []) (fun _ => by kernel_rfl) (fun _ => ?_)
    obtain ⟨⟨r13, r14⟩, h15, hM⟩ := bind_some hM
    dsimp only at hM
    refine WL.callE (X := Unit) [] [] [true, true, false] (fun _ => _) (arp_Parse_1_calls k b1 b3 6 a0 r11 _ h15) rfl rfl (fun _ h => h) (by kernel_rfl) (by kernel_rfl) (fun _ => rfl) (fun _ => ?_)
    refine WL.run 1 [] [1, 2, 3, 14, 16, 19, 21, 22] (fun _ => [(1, .pointer (some ⟨b1, 0, none⟩)), (2, .pointer (some ⟨(b1 + 1), 0, none⟩)), (3, .int .i64 0), (14, .int .i64 (i64 r4)), (16, .int .u64 r7), (19, .int .u32 (u32 r10)), (21, .int .u64 r13), (22, .func (.func 86) #[] #[.pointer (some ⟨b1, 0, none⟩), .pointer (some ⟨b3, 0, none⟩)])]) (fun _ => [(b1, .cells #[.string a0] 9 (0, 0)), (b3, .cells #[.int .i64 r14] 3 (0, 0)), ((b1 + 1), .cells #[.int .i64 0, .int .u64 0, .int .u32 0, .int .u64 0, .int .u32 0] 49 (0, 0))]) (fun _ => []) (fun _ => by kernel_rfl) (fun _ => ?_)
    obtain ⟨⟨r16, r17⟩, h18, hM⟩ := bind_some hM
    dsimp only at hM
    refine WL.callE (X := Unit) [] [] [true, true, false] (fun _ => _) (arp_Parse_1_calls k b1 b3 4 a0 r14 _ h18) rfl rfl (fun _ h => h) (by kernel_rfl) (by kernel_rfl) (fun _ => rfl) (fun _ => ?_)
    refine WL.run 4 [3, 3, 3, 3, 3] [1, 2, 3, 6] (fun b19 => [(1, .pointer (some ⟨b1, 0, none⟩)), (2, .pointer (some ⟨(b1 + 1), 0, none⟩)), (3, .int .i64 0), (6, .pointer (some ⟨b19, 0, none⟩))]) (fun b19 => [(b1, .cells #[.string a0] 9 (0, 0)), (b3, .cells #[.int .i64 r17] 3 (0, 0)), ((b1 + 1), .cells #[.int .i64 0, .int .u64 0, .int .u32 0, .int .u64 0, .int .u32 0] 49 (0, 0)), (b19, .cells #[.int .i64 (i64 r4), .int .u64 r7, .int .u32 (u32 r10), .int .u64 r13, .int .u32 (u32 r16)] 49 (0, 0))]) (fun b19 => [b19, b19, b19, b19, b19]) (fun b19 => by kernel_rfl) (fun b19 => ?_)
    refine WP.done ?_
    refine WP.keep [true, false, true, true] (by kernel_rfl : _ = [(b1, .cells #[.string a0] 9 (0, 0)), ((b1 + 1), .cells #[.int .i64 0, .int .u64 0, .int .u32 0, .int .u64 0, .int .u32 0] 49 (0, 0)), (b19, .cells #[.int .i64 (i64 r4), .int .u64 r7, .int .u32 (u32 r10), .int .u64 r13, .int .u32 (u32 r16)] 49 (0, 0))]) ?_
    refine WP.seq ?_
    refine WP.seq ?_
    refine WP.region ?_
    refine WL.run 1 [0] [2, 3, 6, 26] (fun _ => [(2, .pointer (some ⟨(b1 + 1), 0, none⟩)), (3, .int .i64 0), (6, .pointer (some ⟨b19, 0, none⟩)), (26, .string a0)]) (fun _ => [(b1, .cells #[.string a0] 9 (0, 0)), ((b1 + 1), .cells #[.int .i64 0, .int .u64 0, .int .u32 0, .int .u64 0, .int .u32 0] 49 (0, 0)), (b19, .cells #[.int .i64 (i64 r4), .int .u64 r7, .int .u32 (u32 r10), .int .u64 r13, .int .u32 (u32 r16)] 49 (0, 0))]) (fun _ => [b1]) (fun _ => by kernel_rfl) (fun _ => ?_)
    obtain ⟨r20, h21, hM⟩ := bind_some hM
    refine WL.callP [] [] (strings_HasPrefix_calls a0 (⟨#[0, 1, 8, 0, 6, 4]⟩ : ByteArray) _ h21) (fun _ h => h) (by kernel_rfl) (by kernel_rfl) rfl ?_
    refine WL.run 2 [] [2, 3, 6, 29] (fun _ => [(2, .pointer (some ⟨(b1 + 1), 0, none⟩)), (3, .int .i64 0), (6, .pointer (some ⟨b19, 0, none⟩)), (29, .bool (!r20))]) (fun _ => [(b1, .cells #[.string a0] 9 (0, 0)), ((b1 + 1), .cells #[.int .i64 0, .int .u64 0, .int .u32 0, .int .u64 0, .int .u32 0] 49 (0, 0)), (b19, .cells #[.int .i64 (i64 r4), .int .u64 r7, .int .u32 (u32 r10), .int .u64 r13, .int .u32 (u32 r16)] 49 (0, 0))]) (fun _ => []) (fun _ => by kernel_rfl) (fun _ => ?_)
    refine WL.sub [2, 3, 6, 29] (L' := [(2, .pointer (some ⟨(b1 + 1), 0, none⟩)), (3, .int .i64 0), (6, .pointer (some ⟨b19, 0, none⟩)), (29, .bool (!r20))]) (by kernel_rfl) ?_
    refine WL.join (σ := Bool) 4 (fun st => arp_Parse.k1 r4 r7 r10 r13 r16 st = some r) (fun st => [(2, .pointer (some ⟨(b1 + 1), 0, none⟩)), (3, .int .i64 0), (6, .pointer (some ⟨b19, 0, none⟩)), (33, .bool st)]) (fun st => Sat w Z [((b1 + 1), .cells #[.int .i64 0, .int .u64 0, .int .u32 0, .int .u64 0, .int .u32 0] 49 (0, 0)), (b19, .cells #[.int .i64 (i64 r4), .int .u64 r7, .int .u32 (u32 r10), .int .u64 r13, .int .u32 (u32 r16)] 49 (0, 0))] [] Glob) (fun st hM => ?_) (fun K1 => ?_)
    ·
      obtain ⟨x25, rfl⟩ : ∃ y, y = st := ⟨st, rfl⟩
      replace hM : arp_Parse.k1 r4 r7 r10 r13 r16 x25 = some r := hM
      unfold arp_Parse.k1 at hM
      show WL _ _ _ _ _ [(2, .pointer (some ⟨(b1 + 1), 0, none⟩)), (3, .int .i64 0), (6, .pointer (some ⟨b19, 0, none⟩)), (33, .bool x25)] (Sat w Z [((b1 + 1), .cells #[.int .i64 0, .int .u64 0, .int .u32 0, .int .u64 0, .int .u32 0] 49 (0, 0)), (b19, .cells #[.int .i64 (i64 r4), .int .u64 r7, .int .u32 (u32 r10), .int .u64 r13, .int .u32 (u32 r16)] 49 (0, 0))] [] Glob)
      refine WP.done ?_
      refine WP.cond x25 rfl rfl (fun c26 => ?_) (fun c26 => ?_)
      · replace hM := cond_t hM c26
        refine WP.seq ?_
        refine WP.run [0, 0, 0, 0, 0] [2, 3, 6] (fun _ => [(2, .pointer (some ⟨(b1 + 1), 0, none⟩)), (3, .int .i64 51), (6, .pointer (some ⟨b19, 0, none⟩))]) (fun _ => [((b1 + 1), .cells #[.int .i64 0, .int .u64 0, .int .u32 0, .int .u64 0, .int .u32 0] 49 (0, 0)), (b19, .cells #[.int .i64 (i64 r4), .int .u64 r7, .int .u32 (u32 r10), .int .u64 r13, .int .u32 (u32 r16)] 49 (0, 0))]) (fun _ => [(b1 + 1), (b1 + 1), (b1 + 1), (b1 + 1), (b1 + 1)]) (fun _ => by kernel_rfl) (fun _ => ?_)
        obtain rfl := Option.some.inj hM
        exact WP.ret [0, 0, 0, 0, 0] [(b1 + 1), (b1 + 1), (b1 + 1), (b1 + 1), (b1 + 1)] (.tuple #[.agg #[.int .i64 0, .int .u64 0, .int .u32 0, .int .u64 0, .int .u32 0], .int .i64 51]) (by kernel_rfl) (fun w' hw => ⟨rfl, hw.pick [] rfl⟩)
      · replace hM := cond_f hM c26
        refine WP.skip ?_
        refine WP.seq ?_
        refine WP.run [1, 1, 1, 1, 1, 0, 0, 0, 0, 0] [2, 3] (fun _ => [(2, .pointer (some ⟨(b1 + 1), 0, none⟩)), (3, .int .i64 0)]) (fun _ => [((b1 + 1), .cells #[.int .i64 (i64 r4), .int .u64 r7, .int .u32 (u32 r10), .int .u64 r13, .int .u32 (u32 r16)] 49 (0, 0)), (b19, .cells #[.int .i64 (i64 r4), .int .u64 r7, .int .u32 (u32 r10), .int .u64 r13, .int .u32 (u32 r16)] 49 (0, 0))]) (fun _ => [(b1 + 1), (b1 + 1), (b1 + 1), (b1 + 1), (b1 + 1), b19, b19, b19, b19, b19]) (fun _ => by kernel_rfl) (fun _ => ?_)
        refine WP.keep [true, false] (by kernel_rfl : _ = [((b1 + 1), .cells #[.int .i64 (i64 r4), .int .u64 r7, .int .u32 (u32 r10), .int .u64 r13, .int .u32 (u32 r16)] 49 (0, 0))]) ?_
        obtain rfl := Option.some.inj hM
        exact WP.ret [0, 0, 0, 0, 0] [(b1 + 1), (b1 + 1), (b1 + 1), (b1 + 1), (b1 + 1)] (.tuple #[.agg #[.int .i64 (i64 r4), .int .u64 r7, .int .u32 (u32 r10), .int .u64 r13, .int .u32 (u32 r16)], .int .i64 0]) (by kernel_rfl) (fun w' hw => ⟨rfl, hw.pick [] rfl⟩)
    ·
      refine WL.split (fun b' => [(2, .pointer (some ⟨(b1 + 1), 0, none⟩)), (3, .int .i64 0), (6, .pointer (some ⟨b19, 0, none⟩)), (29, .bool b')]) (!r20) (fun c22 => ?_) (fun c22 => ?_)
      · replace hM := cond_t hM c22
        refine WL.run 4 [] [2, 3, 6, 33] (fun _ => [(2, .pointer (some ⟨(b1 + 1), 0, none⟩)), (3, .int .i64 0), (6, .pointer (some ⟨b19, 0, none⟩)), (33, .bool true)]) (fun _ => [(b1, .cells #[.string a0] 9 (0, 0)), ((b1 + 1), .cells #[.int .i64 0, .int .u64 0, .int .u32 0, .int .u64 0, .int .u32 0] 49 (0, 0)), (b19, .cells #[.int .i64 (i64 r4), .int .u64 r7, .int .u32 (u32 r10), .int .u64 r13, .int .u32 (u32 r16)] 49 (0, 0))]) (fun _ => []) (fun _ => by kernel_rfl) (fun _ => ?_)
        exact WL.sub [2, 3, 6, 33] (by kernel_rfl) (WL.pick [1, 2] (by kernel_rfl) (by kernel_rfl) (K1 true hM))
      · replace hM := cond_f hM c22
        refine WL.run 1 [2, 2, 2, 2, 2] [2, 3, 6, 29, 30] (fun _ => [(2, .pointer (some ⟨(b1 + 1), 0, none⟩)), (3, .int .i64 0), (6, .pointer (some ⟨b19, 0, none⟩)), (29, .bool false), (30, .agg #[.int .i64 (i64 r4), .int .u64 r7, .int .u32 (u32 r10), .int .u64 r13, .int .u32 (u32 r16)])]) (fun _ => [(b1, .cells #[.string a0] 9 (0, 0)), ((b1 + 1), .cells #[.int .i64 0, .int .u64 0, .int .u32 0, .int .u64 0, .int .u32 0] 49 (0, 0)), (b19, .cells #[.int .i64 (i64 r4), .int .u64 r7, .int .u32 (u32 r10), .int .u64 r13, .int .u32 (u32 r16)] 49 (0, 0))]) (fun _ => [b19, b19, b19, b19, b19]) (fun _ => by kernel_rfl) (fun _ => ?_)
        obtain ⟨r23, h24, hM⟩ := bind_some hM
        refine WL.callP [] [] (arp_Check_calls (api_Arp.mk (i64 r4) r7 (u32 r10) r13 (u32 r16)) _ h24) (fun _ h => h) (by kernel_rfl) (by kernel_rfl) rfl ?_
        refine WL.run 2 [] [2, 3, 6, 33] (fun _ => [(2, .pointer (some ⟨(b1 + 1), 0, none⟩)), (3, .int .i64 0), (6, .pointer (some ⟨b19, 0, none⟩)), (33, .bool (r23 != 0))]) (fun _ => [(b1, .cells #[.string a0] 9 (0, 0)), ((b1 + 1), .cells #[.int .i64 0, .int .u64 0, .int .u32 0, .int .u64 0, .int .u32 0] 49 (0, 0)), (b19, .cells #[.int .i64 (i64 r4), .int .u64 r7, .int .u32 (u32 r10), .int .u64 r13, .int .u32 (u32 r16)] 49 (0, 0))]) (fun _ => []) (fun _ => by kernel_rfl) (fun _ => ?_)
        exact WL.sub [2, 3, 6, 33] (by kernel_rfl) (WL.pick [1, 2] (by kernel_rfl) (by kernel_rfl) (K1 (r23 != 0) hM))

end Go.Proofs.YtbodofjnfmjbpaaGreatDoor

namespace Go.Proofs.YtbodofjnfmjbpaaGreatDoor
open Go Eng
set_option linter.unusedVariables false
set_option linter.unusedSimpArgs false

/-! ### gangway/arp.Of: function 32 -/
def arp_Of.f (k : Nat) (a0 : api_Frame) : Option (api_Arp × Bool) :=
  bif (a0.Type_ != 2054) then
    some ((api_Arp.mk 0 0 0 0 0), false)
  else
    (arp_Parse.f k a0.Body).bind fun (r3, r4) =>
    some (r3, (r4 == 0))

set_option maxRecDepth 100000 in
theorem arp_Of_calls (k : Nat) (a0 : api_Frame) (r : api_Arp × Bool) (h : arp_Of.f k a0 = some r) : Pure Tryz.prog Glob 32 #[.agg #[.int .u64 a0.Dst, .int .u64 a0.Src, .bool a0.Tag.Has, .int .i64 a0.Tag.Pri, .bool a0.Tag.Dei, .int .i64 a0.Tag.Vid, .int .i64 a0.Type_, .string a0.Body]] (.tuple #[.agg #[.int .i64 r.1.Op, .int .u64 r.1.SMac, .int .u32 r.1.SIp, .int .u64 r.1.TMac, .int .u32 r.1.TIp], .bool r.2]) := by
  intro w Z hS
  refine calls_of (args := [.agg #[.int .u64 a0.Dst, .int .u64 a0.Src, .bool a0.Tag.Has, .int .i64 a0.Tag.Pri, .bool a0.Tag.Dei, .int .i64 a0.Tag.Vid, .int .i64 a0.Type_, .string a0.Body]]) (L := [(0, .agg #[.int .u64 a0.Dst, .int .u64 a0.Src, .bool a0.Tag.Has, .int .i64 a0.Tag.Pri, .bool a0.Tag.Dei, .int .i64 a0.Tag.Vid, .int .i64 a0.Type_, .string a0.Body])]) (N := 19) (S := Sat w Z [] [] Glob) Tryz.func32 rfl rfl (Nat.le_of_ble_eq_true rfl) rfl hS ?_
  have hM := h
  clear h hS
  unfold arp_Of.f at hM
  refine WP.seq ?_
  refine WP.run [] [1, 2, 3] (fun b1 => [(1, .pointer (some ⟨b1, 0, none⟩)), (2, .pointer (some ⟨(b1 + 1), 0, none⟩)), (3, .bool false)]) (fun b1 => [(b1, .cells #[.int .u64 a0.Dst, .int .u64 a0.Src, .bool a0.Tag.Has, .int .i64 a0.Tag.Pri, .bool a0.Tag.Dei, .int .i64 a0.Tag.Vid, .int .i64 a0.Type_, .string a0.Body] 29 (0, 0)), ((b1 + 1), .cells #[.int .i64 0, .int .u64 0, .int .u32 0, .int .u64 0, .int .u32 0] 49 (0, 0))]) (fun b1 => []) (fun b1 => by kernel_rfl) (fun b1 => ?_)
  refine WP.seq ?_
  refine WP.seq ?_
  refine WP.run [0] [1, 2, 3, 8] (fun _ => [(1, .pointer (some ⟨b1, 0, none⟩)), (2, .pointer (some ⟨(b1 + 1), 0, none⟩)), (3, .bool false), (8, .bool (a0.Type_ != 2054))]) (fun _ => [(b1, .cells #[.int .u64 a0.Dst, .int .u64 a0.Src, .bool a0.Tag.Has, .int .i64 a0.Tag.Pri, .bool a0.Tag.Dei, .int .i64 a0.Tag.Vid, .int .i64 a0.Type_, .string a0.Body] 29 (0, 0)), ((b1 + 1), .cells #[.int .i64 0, .int .u64 0, .int .u32 0, .int .u64 0, .int .u32 0] 49 (0, 0))]) (fun _ => [b1]) (fun _ => by kernel_rfl) (fun _ => ?_)
  refine WP.cond (a0.Type_ != 2054) rfl rfl (fun c2 => ?_) (fun c2 => ?_)
  · replace hM := cond_t hM c2
    refine WP.seq ?_
    refine WP.run [1, 1, 1, 1, 1] [1, 2, 3] (fun _ => [(1, .pointer (some ⟨b1, 0, none⟩)), (2, .pointer (some ⟨(b1 + 1), 0, none⟩)), (3, .bool false)]) (fun _ => [(b1, .cells #[.int .u64 a0.Dst, .int .u64 a0.Src, .bool a0.Tag.Has, .int .i64 a0.Tag.Pri, .bool a0.Tag.Dei, .int .i64 a0.Tag.Vid, .int .i64 a0.Type_, .string a0.Body] 29 (0, 0)), ((b1 + 1), .cells #[.int .i64 0, .int .u64 0, .int .u32 0, .int .u64 0, .int .u32 0] 49 (0, 0))]) (fun _ => [(b1 + 1), (b1 + 1), (b1 + 1), (b1 + 1), (b1 + 1)]) (fun _ => by kernel_rfl) (fun _ => ?_)
    obtain rfl := Option.some.inj hM
    exact WP.ret [1, 1, 1, 1, 1] [(b1 + 1), (b1 + 1), (b1 + 1), (b1 + 1), (b1 + 1)] (.tuple #[.agg #[.int .i64 0, .int .u64 0, .int .u32 0, .int .u64 0, .int .u32 0], .bool false]) (by kernel_rfl) (fun w' hw => ⟨rfl, hw.pick [] rfl⟩)
  · replace hM := cond_f hM c2
    refine WP.skip ?_
    refine WP.seq ?_
    refine WP.region ?_
    refine WL.run 2 [0] [2, 3, 12] (fun _ => [(2, .pointer (some ⟨(b1 + 1), 0, none⟩)), (3, .bool false), (12, .string a0.Body)]) (fun _ => [(b1, .cells #[.int .u64 a0.Dst, .int .u64 a0.Src, .bool a0.Tag.Has, .int .i64 a0.Tag.Pri, .bool a0.Tag.Dei, .int .i64 a0.Tag.Vid, .int .i64 a0.Type_, .string a0.Body] 29 (0, 0)), ((b1 + 1), .cells #[.int .i64 0, .int .u64 0, .int .u32 0, .int .u64 0, .int .u32 0] 49 (0, 0))]) (fun _ => [b1]) (fun _ => by kernel_rfl) (fun _ => ?_)
    obtain ⟨⟨r3, r4⟩, h5, hM⟩ := bind_some hM
    dsimp only at hM
    refine WL.callP [] [] (arp_Parse_calls k a0.Body _ h5) (fun _ h => h) (by kernel_rfl) (by kernel_rfl) rfl ?_
    refine WL.run 6 [2, 2, 2, 2, 2] [2, 3, 4, 5] (fun b6 => [(2, .pointer (some ⟨(b1 + 1), 0, none⟩)), (3, .bool false), (4, .pointer (some ⟨b6, 0, none⟩)), (5, .int .i64 r4)]) (fun b6 => [(b1, .cells #[.int .u64 a0.Dst, .int .u64 a0.Src, .bool a0.Tag.Has, .int .i64 a0.Tag.Pri, .bool a0.Tag.Dei, .int .i64 a0.Tag.Vid, .int .i64 a0.Type_, .string a0.Body] 29 (0, 0)), ((b1 + 1), .cells #[.int .i64 0, .int .u64 0, .int .u32 0, .int .u64 0, .int .u32 0] 49 (0, 0)), (b6, .cells #[.int .i64 r3.Op, .int .u64 r3.SMac, .int .u32 r3.SIp, .int .u64 r3.TMac, .int .u32 r3.TIp] 49 (0, 0))]) (fun b6 => [b6, b6, b6, b6, b6]) (fun b6 => by kernel_rfl) (fun b6 => ?_)
    refine WP.done ?_
    refine WP.keep [false, true, true] (by kernel_rfl : _ = [((b1 + 1), .cells #[.int .i64 0, .int .u64 0, .int .u32 0, .int .u64 0, .int .u32 0] 49 (0, 0)), (b6, .cells #[.int .i64 r3.Op, .int .u64 r3.SMac, .int .u32 r3.SIp, .int .u64 r3.TMac, .int .u32 r3.TIp] 49 (0, 0))]) ?_
    refine WP.seq ?_
    refine WP.run [1, 1, 1, 1, 1, 0, 0, 0, 0, 0] [2, 3] (fun _ => [(2, .pointer (some ⟨(b1 + 1), 0, none⟩)), (3, .bool (r4 == 0))]) (fun _ => [((b1 + 1), .cells #[.int .i64 r3.Op, .int .u64 r3.SMac, .int .u32 r3.SIp, .int .u64 r3.TMac, .int .u32 r3.TIp] 49 (0, 0)), (b6, .cells #[.int .i64 r3.Op, .int .u64 r3.SMac, .int .u32 r3.SIp, .int .u64 r3.TMac, .int .u32 r3.TIp] 49 (0, 0))]) (fun _ => [(b1 + 1), (b1 + 1), (b1 + 1), (b1 + 1), (b1 + 1), b6, b6, b6, b6, b6]) (fun _ => by kernel_rfl) (fun _ => ?_)
    refine WP.keep [true, false] (by kernel_rfl : _ = [((b1 + 1), .cells #[.int .i64 r3.Op, .int .u64 r3.SMac, .int .u32 r3.SIp, .int .u64 r3.TMac, .int .u32 r3.TIp] 49 (0, 0))]) ?_
    obtain rfl := Option.some.inj hM
    exact WP.ret [0, 0, 0, 0, 0] [(b1 + 1), (b1 + 1), (b1 + 1), (b1 + 1), (b1 + 1)] (.tuple #[.agg #[.int .i64 r3.Op, .int .u64 r3.SMac, .int .u32 r3.SIp, .int .u64 r3.TMac, .int .u32 r3.TIp], .bool (r4 == 0)]) (by kernel_rfl) (fun w' hw => ⟨rfl, hw.pick [] rfl⟩)

end Go.Proofs.YtbodofjnfmjbpaaGreatDoor

namespace Go.Proofs.YtbodofjnfmjbpaaGreatDoor
open Go Eng
set_option linter.unusedVariables false
set_option linter.unusedSimpArgs false

/-! ### gangway/csum.Right: function 116 -/
def csum_Right.f (k : Nat) (a0 : (List ByteArray)) : Option (Bool) :=
  (csum_total.f k a0).bind fun r1 =>
  some (r1 == 65535)

set_option maxRecDepth 100000 in
theorem csum_Right_calls (k : Nat) (A00 : SkL Unit) (a0 : (List ByteArray)) (r : Bool) (h : csum_Right.f k a0 = some r) : Pure Tryz.prog ([Row 1 (pl encS) noK A00 a0] ++ Glob) 116 #[slcV A00 a0.length] (.bool r) := by
  intro w Z hS
  refine calls_of (args := [slcV A00 a0.length]) (L := [(0, slcV A00 a0.length)]) (N := 6) (S := Sat w Z [] [] ([Row 1 (pl encS) noK A00 a0] ++ Glob)) Tryz.func116 rfl rfl (Nat.le_of_ble_eq_true rfl) rfl hS ?_
  have hM := h
  clear h hS
  unfold csum_Right.f at hM
  refine WP.seq ?_
  refine WP.run [] [0, 2] (fun _ => [(0, slcV A00 a0.length), (2, .bool false)]) (fun _ => []) (fun _ => []) (fun _ => by kernel_rfl) (fun _ => ?_)
  refine WP.seq ?_
  refine WP.region ?_
  refine WL.run 1 [] [2, 3] (fun _ => [(2, .bool false), (3, slcV A00 a0.length)]) (fun _ => []) (fun _ => []) (fun _ => by kernel_rfl) (fun _ => ?_)
  obtain ⟨r1, h2, hM⟩ := bind_some hM
  refine WL.callP [] [] (csum_total_calls k A00 a0 _ h2) (sub_pick [0] (by kernel_rfl)) (by kernel_rfl) (by kernel_rfl) rfl ?_
  refine WL.run 2 [] [2] (fun _ => [(2, .bool (r1 == 65535))]) (fun _ => []) (fun _ => []) (fun _ => by kernel_rfl) (fun _ => ?_)
  refine WP.done ?_
  obtain rfl := Option.some.inj hM
  exact WP.ret [] [] (.bool (r1 == 65535)) (by kernel_rfl) (fun w' hw => ⟨rfl, (hw.pick [] rfl).lessF [0] (by kernel_rfl)⟩)

end Go.Proofs.YtbodofjnfmjbpaaGreatDoor

namespace Go.Proofs.YtbodofjnfmjbpaaGreatDoor
open Go Eng
set_option linter.unusedVariables false
set_option linter.unusedSimpArgs false

/-! ### gangway/inet.get: function 117 -/
def inet_get.f (a0 : ByteArray) (a1 : Int) : Option (Int) :=
  (idxS a0 a1).bind fun t1 =>
  (idxS a0 (i64 (a1 + 1))).bind fun t3 =>
  some (bOr .i64 (i64 ((i64 t1) * 256)) (i64 t3))

set_option maxRecDepth 100000 in
theorem inet_get_calls (a0 : ByteArray) (a1 : Int) (r : Int) (h : inet_get.f a0 a1 = some r) : Pure Tryz.prog Glob 117 #[.string a0, .int .i64 a1] (.int .i64 r) := by
  intro w Z hS
  refine calls_of (args := [.string a0, .int .i64 a1]) (L := [(0, .string a0), (1, .int .i64 a1)]) (N := 16) (S := Sat w Z [] [] Glob) Tryz.func117 rfl rfl (Nat.le_of_ble_eq_true rfl) rfl hS ?_
  have hM := h
  clear h hS
  unfold inet_get.f at hM
  refine WP.seq ?_
  refine WP.run [] [0, 1, 4] (fun _ => [(0, .string a0), (1, .int .i64 a1), (4, .int .i64 0)]) (fun _ => []) (fun _ => []) (fun _ => by kernel_rfl) (fun _ => ?_)
  refine WP.seq ?_
  refine WP.quiet (by kernel_rfl) (by kernel_rfl) ?_
  refine QL.run 2 [] [0, 1, 4, 5, 6] [] [(0, .string a0), (1, .int .i64 a1), (4, .int .i64 0), (5, .string a0), (6, .int .i64 a1)] (by kernel_rfl) ?_
  obtain ⟨t1, h2, hM⟩ := bind_some hM
  refine QL.val (fun _ => run_idxS (s := a0) (k := .i64) (i := a1) (by kernel_rfl) (by kernel_rfl) (by kernel_rfl) h2) (by kernel_rfl) (by kernel_rfl) rfl ?_
  refine QL.run 5 [] [4, 9, 10, 12] [] [(4, .int .i64 0), (9, .int .i64 (i64 ((i64 t1) * 256))), (10, .string a0), (12, .int .i64 (i64 (a1 + 1)))] (by kernel_rfl) ?_
  obtain ⟨t3, h4, hM⟩ := bind_some hM
  refine QL.val (fun _ => run_idxS (s := a0) (k := .i64) (i := i64 (a1 + 1)) (by kernel_rfl) (by kernel_rfl) (by kernel_rfl) h4) (by kernel_rfl) (by kernel_rfl) rfl ?_
  refine QL.run 3 [] [4] [] [(4, .int .i64 (bOr .i64 (i64 ((i64 t1) * 256)) (i64 t3)))] (by kernel_rfl) ?_
  refine QL.done ?_
  obtain rfl := Option.some.inj hM
  exact WP.ret [] [] (.int .i64 (bOr .i64 (i64 ((i64 t1) * 256)) (i64 t3))) (by kernel_rfl) (fun w' hw => ⟨rfl, hw.pick [] rfl⟩)

end Go.Proofs.YtbodofjnfmjbpaaGreatDoor

namespace Go.Proofs.YtbodofjnfmjbpaaGreatDoor
open Go Eng
set_option linter.unusedVariables false
set_option linter.unusedSimpArgs false

/-! ### gangway/inet.read: function 111 -/
def inet_read.f (k : Nat) (a0 : ByteArray) : Option (api_Ip × Un3) :=
  bif decide ((a0.size : Int) < 20) then
    some ((api_Ip.mk 0 0 false false 0 0 0 0 0 (⟨#[]⟩ : ByteArray)), some (inet_odd.mk 60))
  else
    (idxS a0 0).bind fun t3 =>
    bif (t3 != 69) then
      some ((api_Ip.mk 0 0 false false 0 0 0 0 0 (⟨#[]⟩ : ByteArray)), some (inet_odd.mk 61))
    else
      (sliceS a0 0 20).bind fun t6 =>
      (csum_Right.f k ([t6] : List ByteArray)).bind fun r9 =>
      bif !r9 then
        some ((api_Ip.mk 0 0 false false 0 0 0 0 0 (⟨#[]⟩ : ByteArray)), some (inet_odd.mk 62))
      else
        (inet_get.f a0 2).bind fun r12 =>
        (inet_get.f a0 6).bind fun r14 =>
        bif ((decide (r12 < 20)) || ((bAnd .i64 r14 32768) != 0)) then
          some ((api_Ip.mk 0 0 false false 0 0 0 0 0 (⟨#[]⟩ : ByteArray)), some (inet_odd.mk 61))
        else
          bif decide (r12 > (a0.size : Int)) then
            some ((api_Ip.mk 0 0 false false 0 0 0 0 0 (⟨#[]⟩ : ByteArray)), some (inet_odd.mk 60))
          else
            (octets_Get.f k a0 12 4).bind fun (r18, r19) =>
            (octets_Get.f k a0 16 4).bind fun (r21, r22) =>
            (idxS a0 1).bind fun t25 =>
            (inet_get.f a0 4).bind fun r27 =>
            (idxS a0 8).bind fun t29 =>
            (idxS a0 9).bind fun t31 =>
            (sliceS a0 20 r12).bind fun t35 =>
            some ((api_Ip.mk (i64 t25) r27 ((bAnd .i64 r14 16384) != 0) ((bAnd .i64 r14 8192) != 0) (Int.tmod r14 8192) (i64 t29) (i64 t31) (u32 r18) (u32 r21) t35), none)

set_option maxRecDepth 100000 in
theorem inet_read_calls (k : Nat) (a0 : ByteArray) (r : api_Ip × Un3) (h : inet_read.f k a0 = some r) : Pure Tryz.prog Glob 111 #[.string a0] (.tuple #[.agg #[.int .i64 r.1.Tos, .int .i64 r.1.Id, .bool r.1.Whole, .bool r.1.More, .int .i64 r.1.Off, .int .i64 r.1.Ttl, .int .i64 r.1.Proto, .int .u32 r.1.Src, .int .u32 r.1.Dst, .string r.1.Body], Un3.v r.2]) := by
  intro w Z hS
  refine calls_of (args := [.string a0]) (L := [(0, .string a0)]) (N := 98) (S := Sat w Z [] [] Glob) Tryz.func111 rfl rfl (Nat.le_of_ble_eq_true rfl) rfl hS ?_
  have hM := h
  clear h hS
  unfold inet_read.f at hM
  refine WP.less (Φ' := [] ++ Glob) (fun _ h => h) ?_
  refine WP.seq ?_
  refine WP.run [] [0, 2, 3] (fun b1 => [(0, .string a0), (2, .pointer (some ⟨b1, 0, none⟩)), (3, .nilIface)]) (fun b1 => [(b1, .cells #[.int .i64 0, .int .i64 0, .bool false, .bool false, .int .i64 0, .int .i64 0, .int .i64 0, .int .u32 0, .int .u32 0, .string (⟨#[]⟩ : ByteArray)] 91 (0, 0))]) (fun b1 => []) (fun b1 => by kernel_rfl) (fun b1 => ?_)
  refine WP.seq ?_
  refine WP.block ?_
  refine WP.seq ?_
  refine WP.run [] [0, 2, 3, 11] (fun _ => [(0, .string a0), (2, .pointer (some ⟨b1, 0, none⟩)), (3, .nilIface), (11, .bool (decide ((a0.size : Int) < 20)))]) (fun _ => [(b1, .cells #[.int .i64 0, .int .i64 0, .bool false, .bool false, .int .i64 0, .int .i64 0, .int .i64 0, .int .u32 0, .int .u32 0, .string (⟨#[]⟩ : ByteArray)] 91 (0, 0))]) (fun _ => []) (fun _ => by kernel_rfl) (fun _ => ?_)
  refine WP.cond (decide ((a0.size : Int) < 20)) rfl rfl (fun c2 => ?_) (fun c2 => ?_)
  · replace hM := cond_t hM c2
    refine WP.seq ?_
    refine WP.run [0, 0, 0, 0, 0, 0, 0, 0, 0, 0] [0, 2, 3] (fun _ => [(0, .string a0), (2, .pointer (some ⟨b1, 0, none⟩)), (3, .iface 188 (.agg #[.int .i64 60]))]) (fun _ => [(b1, .cells #[.int .i64 0, .int .i64 0, .bool false, .bool false, .int .i64 0, .int .i64 0, .int .i64 0, .int .u32 0, .int .u32 0, .string (⟨#[]⟩ : ByteArray)] 91 (0, 0))]) (fun _ => [b1, b1, b1, b1, b1, b1, b1, b1, b1, b1]) (fun _ => by kernel_rfl) (fun _ => ?_)
    obtain rfl := Option.some.inj hM
    exact WP.ret [0, 0, 0, 0, 0, 0, 0, 0, 0, 0] [b1, b1, b1, b1, b1, b1, b1, b1, b1, b1] (.tuple #[.agg #[.int .i64 0, .int .i64 0, .bool false, .bool false, .int .i64 0, .int .i64 0, .int .i64 0, .int .u32 0, .int .u32 0, .string (⟨#[]⟩ : ByteArray)], .iface 188 (.agg #[.int .i64 60])]) (by kernel_rfl) (fun w' hw => ⟨rfl, (hw.pick [] rfl).less (fun _ h => List.mem_append_right _ h)⟩)
  · replace hM := cond_f hM c2
    refine WP.seq ?_
    refine WP.region ?_
    refine WL.run 1 [] [0, 2, 3, 19] (fun _ => [(0, .string a0), (2, .pointer (some ⟨b1, 0, none⟩)), (3, .nilIface), (19, .string a0)]) (fun _ => [(b1, .cells #[.int .i64 0, .int .i64 0, .bool false, .bool false, .int .i64 0, .int .i64 0, .int .i64 0, .int .u32 0, .int .u32 0, .string (⟨#[]⟩ : ByteArray)] 91 (0, 0))]) (fun _ => []) (fun _ => by kernel_rfl) (fun _ => ?_)
    obtain ⟨t3, h4, hM⟩ := bind_some hM
    refine WL.val (fun _ => run_idxS (s := a0) (k := .i64) (i := 0) (by kernel_rfl) (by kernel_rfl) (by kernel_rfl) h4) (by kernel_rfl) (by kernel_rfl) rfl ?_
    refine WL.run 2 [] [0, 2, 3, 18] (fun _ => [(0, .string a0), (2, .pointer (some ⟨b1, 0, none⟩)), (3, .nilIface), (18, .bool (t3 != 69))]) (fun _ => [(b1, .cells #[.int .i64 0, .int .i64 0, .bool false, .bool false, .int .i64 0, .int .i64 0, .int .i64 0, .int .u32 0, .int .u32 0, .string (⟨#[]⟩ : ByteArray)] 91 (0, 0))]) (fun _ => []) (fun _ => by kernel_rfl) (fun _ => ?_)
    refine WP.done ?_
    refine WP.cond (t3 != 69) rfl rfl (fun c5 => ?_) (fun c5 => ?_)
    · replace hM := cond_t hM c5
      refine WP.seq ?_
      refine WP.run [0, 0, 0, 0, 0, 0, 0, 0, 0, 0] [0, 2, 3] (fun _ => [(0, .string a0), (2, .pointer (some ⟨b1, 0, none⟩)), (3, .iface 188 (.agg #[.int .i64 61]))]) (fun _ => [(b1, .cells #[.int .i64 0, .int .i64 0, .bool false, .bool false, .int .i64 0, .int .i64 0, .int .i64 0, .int .u32 0, .int .u32 0, .string (⟨#[]⟩ : ByteArray)] 91 (0, 0))]) (fun _ => [b1, b1, b1, b1, b1, b1, b1, b1, b1, b1]) (fun _ => by kernel_rfl) (fun _ => ?_)
      obtain rfl := Option.some.inj hM
      exact WP.ret [0, 0, 0, 0, 0, 0, 0, 0, 0, 0] [b1, b1, b1, b1, b1, b1, b1, b1, b1, b1] (.tuple #[.agg #[.int .i64 0, .int .i64 0, .bool false, .bool false, .int .i64 0, .int .i64 0, .int .i64 0, .int .u32 0, .int .u32 0, .string (⟨#[]⟩ : ByteArray)], .iface 188 (.agg #[.int .i64 61])]) (by kernel_rfl) (fun w' hw => ⟨rfl, (hw.pick [] rfl).less (fun _ h => List.mem_append_right _ h)⟩)
    · replace hM := cond_f hM c5
      refine WP.seq ?_
      refine WP.region ?_
      refine WL.run 1 [] [0, 2, 3, 26] (fun _ => [(0, .string a0), (2, .pointer (some ⟨b1, 0, none⟩)), (3, .nilIface), (26, .string a0)]) (fun _ => [(b1, .cells #[.int .i64 0, .int .i64 0, .bool false, .bool false, .int .i64 0, .int .i64 0, .int .i64 0, .int .u32 0, .int .u32 0, .string (⟨#[]⟩ : ByteArray)] 91 (0, 0))]) (fun _ => []) (fun _ => by kernel_rfl) (fun _ => ?_)
      obtain ⟨t6, h7, hM⟩ := bind_some hM
      refine WL.val (fun _ => run_sliceS_hi (s := a0) (kh := .i64) (h := 20) (by kernel_rfl) (by kernel_rfl) (by kernel_rfl) h7) (by kernel_rfl) (by kernel_rfl) rfl ?_
      refine WL.run 1 [] [0, 2, 3, 28] (fun b8 => [(0, .string a0), (2, .pointer (some ⟨b1, 0, none⟩)), (3, .nilIface), (28, .slice (some ⟨b8, 0, none⟩) 1 1)]) (fun b8 => [(b1, .cells #[.int .i64 0, .int .i64 0, .bool false, .bool false, .int .i64 0, .int .i64 0, .int .i64 0, .int .u32 0, .int .u32 0, .string (⟨#[]⟩ : ByteArray)] 91 (0, 0)), (b8, .cells #[.string t6] 9 (0, 0))]) (fun b8 => []) (fun b8 => by kernel_rfl) (fun b8 => ?_)
      refine WL.ice (H' := [(b1, .cells #[.int .i64 0, .int .i64 0, .bool false, .bool false, .int .i64 0, .int .i64 0, .int .i64 0, .int .u32 0, .int .u32 0, .string (⟨#[]⟩ : ByteArray)] 91 (0, 0))]) (Row 1 (pl encS) noK (SkL.at b8 1 (fun _ => ())) ([t6] : List ByteArray)) 1 (b := b8) (ob := .cells #[.string t6] 9 (0, 0)) (by kernel_rfl) [] [] (by kernel_rfl) (fun w hb hψ => row_of_block hb (fun _ _ => rfl) ⟨[], by kernel_rfl⟩ (Nat.le_of_ble_eq_true rfl) (InK.no _ _)) (by kernel_rfl) ?_
      obtain ⟨r9, h10, hM⟩ := bind_some hM
      refine WL.callP [] [] (csum_Right_calls k (SkL.at b8 1 (fun _ => ())) ([t6] : List ByteArray) _ h10) (sub_pick [0] (by kernel_rfl)) (by kernel_rfl) (by kernel_rfl) rfl ?_
      refine WL.run 2 [] [0, 2, 3, 25] (fun _ => [(0, .string a0), (2, .pointer (some ⟨b1, 0, none⟩)), (3, .nilIface), (25, .bool (!r9))]) (fun _ => [(b1, .cells #[.int .i64 0, .int .i64 0, .bool false, .bool false, .int .i64 0, .int .i64 0, .int .i64 0, .int .u32 0, .int .u32 0, .string (⟨#[]⟩ : ByteArray)] 91 (0, 0))]) (fun _ => []) (fun _ => by kernel_rfl) (fun _ => ?_)
      refine WP.done ?_
      refine WP.cond (!r9) rfl rfl (fun c11 => ?_) (fun c11 => ?_)
      · replace hM := cond_t hM c11
        refine WP.seq ?_
        refine WP.run [0, 0, 0, 0, 0, 0, 0, 0, 0, 0] [0, 2, 3] (fun _ => [(0, .string a0), (2, .pointer (some ⟨b1, 0, none⟩)), (3, .iface 188 (.agg #[.int .i64 62]))]) (fun _ => [(b1, .cells #[.int .i64 0, .int .i64 0, .bool false, .bool false, .int .i64 0, .int .i64 0, .int .i64 0, .int .u32 0, .int .u32 0, .string (⟨#[]⟩ : ByteArray)] 91 (0, 0))]) (fun _ => [b1, b1, b1, b1, b1, b1, b1, b1, b1, b1]) (fun _ => by kernel_rfl) (fun _ => ?_)
        obtain rfl := Option.some.inj hM
        exact WP.ret [0, 0, 0, 0, 0, 0, 0, 0, 0, 0] [b1, b1, b1, b1, b1, b1, b1, b1, b1, b1] (.tuple #[.agg #[.int .i64 0, .int .i64 0, .bool false, .bool false, .int .i64 0, .int .i64 0, .int .i64 0, .int .u32 0, .int .u32 0, .string (⟨#[]⟩ : ByteArray)], .iface 188 (.agg #[.int .i64 62])]) (by kernel_rfl) (fun w' hw => ⟨rfl, (hw.pick [] rfl).less (fun _ h => List.mem_append_right _ h)⟩)
      · replace hM := cond_f hM c11
        refine WP.skip ?_
        refine WP.leave ?_
        refine WP.seq ?_
        refine WP.region ?_
        refine WL.run 1 [] [0, 2, 3, 34] (fun _ => [(0, .string a0), (2, .pointer (some ⟨b1, 0, none⟩)), (3, .nilIface), (34, .string a0)]) (fun _ => [(b1, .cells #[.int .i64 0, .int .i64 0, .bool false, .bool false, .int .i64 0, .int .i64 0, .int .i64 0, .int .u32 0, .int .u32 0, .string (⟨#[]⟩ : ByteArray)] 91 (0, 0))]) (fun _ => []) (fun _ => by kernel_rfl) (fun _ => ?_)
        obtain ⟨r12, h13, hM⟩ := bind_some hM
        refine WL.callP [] [] (inet_get_calls a0 2 _ h13) (fun _ h => List.mem_append_right _ h) (by kernel_rfl) (by kernel_rfl) rfl ?_
        refine WL.run 1 [] [0, 2, 3, 35, 36] (fun _ => [(0, .string a0), (2, .pointer (some ⟨b1, 0, none⟩)), (3, .nilIface), (35, .int .i64 r12), (36, .string a0)]) (fun _ => [(b1, .cells #[.int .i64 0, .int .i64 0, .bool false, .bool false, .int .i64 0, .int .i64 0, .int .i64 0, .int .u32 0, .int .u32 0, .string (⟨#[]⟩ : ByteArray)] 91 (0, 0))]) (fun _ => []) (fun _ => by kernel_rfl) (fun _ => ?_)
        obtain ⟨r14, h15, hM⟩ := bind_some hM
        refine WL.callP [] [] (inet_get_calls a0 6 _ h15) (fun _ h => List.mem_append_right _ h) (by kernel_rfl) (by kernel_rfl) rfl ?_
        refine WL.run 2 [] [0, 2, 3, 4, 5] (fun _ => [(0, .string a0), (2, .pointer (some ⟨b1, 0, none⟩)), (3, .nilIface), (4, .int .i64 r12), (5, .int .i64 r14)]) (fun _ => [(b1, .cells #[.int .i64 0, .int .i64 0, .bool false, .bool false, .int .i64 0, .int .i64 0, .int .i64 0, .int .u32 0, .int .u32 0, .string (⟨#[]⟩ : ByteArray)] 91 (0, 0))]) (fun _ => []) (fun _ => by kernel_rfl) (fun _ => ?_)
        refine WP.done ?_
        refine WP.seq ?_
        refine WP.block ?_
        refine WP.seq ?_
        refine WP.region ?_
        refine WL.run 3 [] [0, 2, 3, 4, 5, 41] (fun _ => [(0, .string a0), (2, .pointer (some ⟨b1, 0, none⟩)), (3, .nilIface), (4, .int .i64 r12), (5, .int .i64 r14), (41, .bool (decide (r12 < 20)))]) (fun _ => [(b1, .cells #[.int .i64 0, .int .i64 0, .bool false, .bool false, .int .i64 0, .int .i64 0, .int .i64 0, .int .u32 0, .int .u32 0, .string (⟨#[]⟩ : ByteArray)] 91 (0, 0))]) (fun _ => []) (fun _ => by kernel_rfl) (fun _ => ?_)
        refine WL.sub [0, 2, 3, 4, 5, 41] (L' := [(0, .string a0), (2, .pointer (some ⟨b1, 0, none⟩)), (3, .nilIface), (4, .int .i64 r12), (5, .int .i64 r14), (41, .bool (decide (r12 < 20)))]) (by kernel_rfl) ?_
        refine WL.both (fun b' => [(0, .string a0), (2, .pointer (some ⟨b1, 0, none⟩)), (3, .nilIface), (4, .int .i64 r12), (5, .int .i64 r14), (41, .bool b')]) (decide (r12 < 20)) 4 [] [] [0, 2, 3, 4, 5, 45] (fun b' => [(0, .string a0), (2, .pointer (some ⟨b1, 0, none⟩)), (3, .nilIface), (4, .int .i64 r12), (5, .int .i64 r14), (45, .bool (b' || ((bAnd .i64 r14 32768) != 0)))]) [] [] (fun _ => by kernel_rfl) (fun _ => by kernel_rfl) ?_
        refine WL.run 1 [] [0, 2, 3, 4, 5, 38] (fun _ => [(0, .string a0), (2, .pointer (some ⟨b1, 0, none⟩)), (3, .nilIface), (4, .int .i64 r12), (5, .int .i64 r14), (38, .bool ((decide (r12 < 20)) || ((bAnd .i64 r14 32768) != 0)))]) (fun _ => [(b1, .cells #[.int .i64 0, .int .i64 0, .bool false, .bool false, .int .i64 0, .int .i64 0, .int .i64 0, .int .u32 0, .int .u32 0, .string (⟨#[]⟩ : ByteArray)] 91 (0, 0))]) (fun _ => []) (fun _ => by kernel_rfl) (fun _ => ?_)
        refine WP.done ?_
        refine WP.cond ((decide (r12 < 20)) || ((bAnd .i64 r14 32768) != 0)) rfl rfl (fun c16 => ?_) (fun c16 => ?_)
        · replace hM := cond_t hM c16
          refine WP.seq ?_
          refine WP.run [0, 0, 0, 0, 0, 0, 0, 0, 0, 0] [0, 2, 3, 4, 5] (fun _ => [(0, .string a0), (2, .pointer (some ⟨b1, 0, none⟩)), (3, .iface 188 (.agg #[.int .i64 61])), (4, .int .i64 r12), (5, .int .i64 r14)]) (fun _ => [(b1, .cells #[.int .i64 0, .int .i64 0, .bool false, .bool false, .int .i64 0, .int .i64 0, .int .i64 0, .int .u32 0, .int .u32 0, .string (⟨#[]⟩ : ByteArray)] 91 (0, 0))]) (fun _ => [b1, b1, b1, b1, b1, b1, b1, b1, b1, b1]) (fun _ => by kernel_rfl) (fun _ => ?_)
          obtain rfl := Option.some.inj hM
          exact WP.ret [0, 0, 0, 0, 0, 0, 0, 0, 0, 0] [b1, b1, b1, b1, b1, b1, b1, b1, b1, b1] (.tuple #[.agg #[.int .i64 0, .int .i64 0, .bool false, .bool false, .int .i64 0, .int .i64 0, .int .i64 0, .int .u32 0, .int .u32 0, .string (⟨#[]⟩ : ByteArray)], .iface 188 (.agg #[.int .i64 61])]) (by kernel_rfl) (fun w' hw => ⟨rfl, (hw.pick [] rfl).less (fun _ h => List.mem_append_right _ h)⟩)
        · replace hM := cond_f hM c16
          refine WP.seq ?_
          refine WP.run [] [0, 2, 3, 4, 5, 49] (fun _ => [(0, .string a0), (2, .pointer (some ⟨b1, 0, none⟩)), (3, .nilIface), (4, .int .i64 r12), (5, .int .i64 r14), (49, .bool (decide (r12 > (a0.size : Int))))]) (fun _ => [(b1, .cells #[.int .i64 0, .int .i64 0, .bool false, .bool false, .int .i64 0, .int .i64 0, .int .i64 0, .int .u32 0, .int .u32 0, .string (⟨#[]⟩ : ByteArray)] 91 (0, 0))]) (fun _ => []) (fun _ => by kernel_rfl) (fun _ => ?_)
          refine WP.cond (decide (r12 > (a0.size : Int))) rfl rfl (fun c17 => ?_) (fun c17 => ?_)
          · replace hM := cond_t hM c17
            refine WP.seq ?_
            refine WP.run [0, 0, 0, 0, 0, 0, 0, 0, 0, 0] [0, 2, 3, 4, 5] (fun _ => [(0, .string a0), (2, .pointer (some ⟨b1, 0, none⟩)), (3, .iface 188 (.agg #[.int .i64 60])), (4, .int .i64 r12), (5, .int .i64 r14)]) (fun _ => [(b1, .cells #[.int .i64 0, .int .i64 0, .bool false, .bool false, .int .i64 0, .int .i64 0, .int .i64 0, .int .u32 0, .int .u32 0, .string (⟨#[]⟩ : ByteArray)] 91 (0, 0))]) (fun _ => [b1, b1, b1, b1, b1, b1, b1, b1, b1, b1]) (fun _ => by kernel_rfl) (fun _ => ?_)
            obtain rfl := Option.some.inj hM
            exact WP.ret [0, 0, 0, 0, 0, 0, 0, 0, 0, 0] [b1, b1, b1, b1, b1, b1, b1, b1, b1, b1] (.tuple #[.agg #[.int .i64 0, .int .i64 0, .bool false, .bool false, .int .i64 0, .int .i64 0, .int .i64 0, .int .u32 0, .int .u32 0, .string (⟨#[]⟩ : ByteArray)], .iface 188 (.agg #[.int .i64 60])]) (by kernel_rfl) (fun w' hw => ⟨rfl, (hw.pick [] rfl).less (fun _ h => List.mem_append_right _ h)⟩)
          · replace hM := cond_f hM c17
            refine WP.skip ?_
            refine WP.leave ?_
            refine WP.seq ?_
            refine WP.region ?_
            refine WL.run 1 [] [0, 2, 3, 4, 5, 58] (fun _ => [(0, .string a0), (2, .pointer (some ⟨b1, 0, none⟩)), (3, .nilIface), (4, .int .i64 r12), (5, .int .i64 r14), (58, .string a0)]) (fun _ => [(b1, .cells #[.int .i64 0, .int .i64 0, .bool false, .bool false, .int .i64 0, .int .i64 0, .int .i64 0, .int .u32 0, .int .u32 0, .string (⟨#[]⟩ : ByteArray)] 91 (0, 0))]) (fun _ => []) (fun _ => by kernel_rfl) (fun _ => ?_)
            obtain ⟨⟨r18, r19⟩, h20, hM⟩ := bind_some hM
            dsimp only at hM
            refine WL.callP [] [] (octets_Get_calls k a0 12 4 _ h20) (fun _ h => List.mem_append_right _ h) (by kernel_rfl) (by kernel_rfl) rfl ?_
            refine WL.run 5 [] [0, 2, 3, 4, 5, 6] (fun _ => [(0, .string a0), (2, .pointer (some ⟨b1, 0, none⟩)), (3, .nilIface), (4, .int .i64 r12), (5, .int .i64 r14), (6, .int .u64 r18)]) (fun _ => [(b1, .cells #[.int .i64 0, .int .i64 0, .bool false, .bool false, .int .i64 0, .int .i64 0, .int .i64 0, .int .u32 0, .int .u32 0, .string (⟨#[]⟩ : ByteArray)] 91 (0, 0))]) (fun _ => []) (fun _ => by kernel_rfl) (fun _ => ?_)
            refine WP.done ?_
            refine WP.seq ?_
            refine WP.region ?_
            refine WL.run 1 [] [0, 2, 3, 4, 5, 6, 63] (fun _ => [(0, .string a0), (2, .pointer (some ⟨b1, 0, none⟩)), (3, .nilIface), (4, .int .i64 r12), (5, .int .i64 r14), (6, .int .u64 r18), (63, .string a0)]) (fun _ => [(b1, .cells #[.int .i64 0, .int .i64 0, .bool false, .bool false, .int .i64 0, .int .i64 0, .int .i64 0, .int .u32 0, .int .u32 0, .string (⟨#[]⟩ : ByteArray)] 91 (0, 0))]) (fun _ => []) (fun _ => by kernel_rfl) (fun _ => ?_)
            obtain ⟨⟨r21, r22⟩, h23, hM⟩ := bind_some hM
            dsimp only at hM
            refine WL.callP [] [] (octets_Get_calls k a0 16 4 _ h23) (fun _ h => List.mem_append_right _ h) (by kernel_rfl) (by kernel_rfl) rfl ?_
            refine WL.run 5 [] [0, 2, 3, 4, 5, 6, 8] (fun _ => [(0, .string a0), (2, .pointer (some ⟨b1, 0, none⟩)), (3, .nilIface), (4, .int .i64 r12), (5, .int .i64 r14), (6, .int .u64 r18), (8, .int .u64 r21)]) (fun _ => [(b1, .cells #[.int .i64 0, .int .i64 0, .bool false, .bool false, .int .i64 0, .int .i64 0, .int .i64 0, .int .u32 0, .int .u32 0, .string (⟨#[]⟩ : ByteArray)] 91 (0, 0))]) (fun _ => []) (fun _ => by kernel_rfl) (fun _ => ?_)
            refine WP.done ?_
            refine WP.seq ?_
            obtain ⟨t25, h26, hM⟩ := bind_some hM
            obtain ⟨r27, h28, hM⟩ := bind_some hM
            obtain ⟨t29, h30, hM⟩ := bind_some hM
            obtain ⟨t31, h32, hM⟩ := bind_some hM
            refine WP.sub [0, 2, 3, 4, 5, 6, 8] (L' := [(0, .string a0), (2, .pointer (some ⟨b1, 0, none⟩)), (3, .nilIface), (4, .int .i64 r12), (5, .int .i64 r14), (6, .int .u64 r18), (8, .int .u64 r21)]) (by kernel_rfl) ?_
            refine WP.mixed (X := Unit) 21 [.val (.string a0), .val (.int .u8 t25), .val (.int .i64 (i64 t25)), .val (.string a0), .val (.int .i64 r27), .val (.int .i64 r14), .val (.int .i64 (bAnd .i64 r14 16384)), .val (.bool ((bAnd .i64 r14 16384) != 0)), .val (.int .i64 r14), .val (.int .i64 (bAnd .i64 r14 8192)), .val (.bool ((bAnd .i64 r14 8192) != 0)), .val (.int .i64 r14), .val (.int .i64 (Int.tmod r14 8192)), .val (.string a0), .val (.int .u8 t29), .val (.int .i64 (i64 t29)), .val (.string a0), .val (.int .u8 t31), .val (.int .i64 (i64 t31)), .val (.agg #[.int .i64 (i64 t25), .int .i64 r27, .bool ((bAnd .i64 r14 16384) != 0), .bool ((bAnd .i64 r14 8192) != 0), .int .i64 (Int.tmod r14 8192), .int .i64 (i64 t29), .int .i64 (i64 t31), .int .u32 0, .int .u32 0, .string (⟨#[]⟩ : ByteArray)]), .alloc (.cells #[.int .i64 0, .int .i64 0, .bool false, .bool false, .int .i64 0, .int .i64 0, .int .i64 0, .int .u32 0, .int .u32 0, .string (⟨#[]⟩ : ByteArray)] 91 (0, 0)) (fun b => .pointer (some ⟨b, 0, none⟩))] [(b1, .cells #[.int .i64 0, .int .i64 0, .bool false, .bool false, .int .i64 0, .int .i64 0, .int .i64 0, .int .u32 0, .int .u32 0, .string (⟨#[]⟩ : ByteArray)] 91 (0, 0))] [] (by kernel_rfl) (by kernel_rfl) (by kernel_rfl) (by kernel_rfl) (Heads.val (fun tt Ψ => OpV.run [] [] (by kernel_rfl) (fun _ => by kernel_rfl)) (Heads.val (fun tt Ψ => OpV.val (fun _ => run_idxS (s := a0) (k := .i64) (i := 1) (by kernel_rfl) (by kernel_rfl) (by kernel_rfl) h26) (by kernel_rfl)) (Heads.val (fun tt Ψ => OpV.run [] [] (by kernel_rfl) (fun _ => by kernel_rfl)) (Heads.val (fun tt Ψ => OpV.run [] [] (by kernel_rfl) (fun _ => by kernel_rfl)) (Heads.val (fun tt Ψ => OpV.callF [] [] (fun _ h => (List.mem_append_right _ (List.mem_append_right _ h))) (inet_get_calls a0 4 _ h28)  (fun _ => by kernel_rfl)) (Heads.val (fun tt Ψ => OpV.run [] [] (by kernel_rfl) (fun _ => by kernel_rfl)) (Heads.val (fun tt Ψ => OpV.run [] [] (by kernel_rfl) (fun _ => by kernel_rfl)) (Heads.val (fun tt Ψ => OpV.run [] [] (by kernel_rfl) (fun _ => by kernel_rfl)) (Heads.val (fun tt Ψ => OpV.run [] [] (by kernel_rfl) (fun _ => by kernel_rfl)) (Heads.val (fun tt Ψ => OpV.run [] [] (by kernel_rfl) (fun _ => by kernel_rfl)) (Heads.val (fun tt Ψ => OpV.run [] [] (by kernel_rfl) (fun _ => by kernel_rfl)) (Heads.val (fun tt Ψ => OpV.run [] [] (by kernel_rfl) (fun _ => by kernel_rfl)) (Heads.val (fun tt Ψ => OpV.run [] [] (by kernel_rfl) (fun _ => by kernel_rfl)) (Heads.val (fun tt Ψ => OpV.run [] [] (by kernel_rfl) (fun _ => by kernel_rfl)) (Heads.val (fun tt Ψ => OpV.val (fun _ => run_idxS (s := a0) (k := .i64) (i := 8) (by kernel_rfl) (by kernel_rfl) (by kernel_rfl) h30) (by kernel_rfl)) (Heads.val (fun tt Ψ => OpV.run [] [] (by kernel_rfl) (fun _ => by kernel_rfl)) (Heads.val (fun tt Ψ => OpV.run [] [] (by kernel_rfl) (fun _ => by kernel_rfl)) (Heads.val (fun tt Ψ => OpV.val (fun _ => run_idxS (s := a0) (k := .i64) (i := 9) (by kernel_rfl) (by kernel_rfl) (by kernel_rfl) h32) (by kernel_rfl)) (Heads.val (fun tt Ψ => OpV.run [] [] (by kernel_rfl) (fun _ => by kernel_rfl)) (Heads.val (fun tt Ψ => OpV.run [] [] (by kernel_rfl) (fun _ => by kernel_rfl)) (Heads.alloc (fun _ => by kernel_rfl) (fun _ _ => by kernel_rfl) Heads.nil))))))))))))))))))))) (fun s24 tt => [(67, .string a0), (68, .int .u8 t25), (69, .int .i64 (i64 t25)), (70, .string a0), (71, .int .i64 r27), (72, .int .i64 r14), (73, .int .i64 (bAnd .i64 r14 16384)), (74, .bool ((bAnd .i64 r14 16384) != 0)), (75, .int .i64 r14), (76, .int .i64 (bAnd .i64 r14 8192)), (77, .bool ((bAnd .i64 r14 8192) != 0)), (78, .int .i64 r14), (79, .int .i64 (Int.tmod r14 8192)), (80, .string a0), (81, .int .u8 t29), (82, .int .i64 (i64 t29)), (83, .string a0), (84, .int .u8 t31), (85, .int .i64 (i64 t31)), (86, .agg #[.int .i64 (i64 t25), .int .i64 r27, .bool ((bAnd .i64 r14 16384) != 0), .bool ((bAnd .i64 r14 8192) != 0), .int .i64 (Int.tmod r14 8192), .int .i64 (i64 t29), .int .i64 (i64 t31), .int .u32 0, .int .u32 0, .string (⟨#[]⟩ : ByteArray)]), (10, .pointer (some ⟨(s24 20), 0, none⟩)), (0, .string a0), (2, .pointer (some ⟨b1, 0, none⟩)), (3, .nilIface), (4, .int .i64 r12), (5, .int .i64 r14), (6, .int .u64 r18), (8, .int .u64 r21)]) (fun s24 tt => [(b1, .cells #[.int .i64 0, .int .i64 0, .bool false, .bool false, .int .i64 0, .int .i64 0, .int .i64 0, .int .u32 0, .int .u32 0, .string (⟨#[]⟩ : ByteArray)] 91 (0, 0)), ((s24 20), .cells #[.int .i64 0, .int .i64 0, .bool false, .bool false, .int .i64 0, .int .i64 0, .int .i64 0, .int .u32 0, .int .u32 0, .string (⟨#[]⟩ : ByteArray)] 91 (0, 0))]) (fun tt => ([] ++ [Row 1 (pl encS) noK (SkL.at b8 1 (fun _ => ())) ([t6] : List ByteArray)]) ++ Glob) (fun _ _ => by kernel_rfl) (fun _ _ => by kernel_rfl) (fun _ => by kernel_rfl) (fun s24 tt => ?_)
            generalize s24 20 = b33
            refine WL.run 1 [1, 1, 1, 1, 1, 1, 1, 1, 1, 1] [0, 2, 3, 4, 6, 8, 10] (fun _ => [(0, .string a0), (2, .pointer (some ⟨b1, 0, none⟩)), (3, .nilIface), (4, .int .i64 r12), (6, .int .u64 r18), (8, .int .u64 r21), (10, .pointer (some ⟨b33, 0, none⟩))]) (fun _ => [(b1, .cells #[.int .i64 0, .int .i64 0, .bool false, .bool false, .int .i64 0, .int .i64 0, .int .i64 0, .int .u32 0, .int .u32 0, .string (⟨#[]⟩ : ByteArray)] 91 (0, 0)), (b33, .cells #[.int .i64 (i64 t25), .int .i64 r27, .bool ((bAnd .i64 r14 16384) != 0), .bool ((bAnd .i64 r14 8192) != 0), .int .i64 (Int.tmod r14 8192), .int .i64 (i64 t29), .int .i64 (i64 t31), .int .u32 0, .int .u32 0, .string (⟨#[]⟩ : ByteArray)] 91 (0, 0))]) (fun _ => [b33, b33, b33, b33, b33, b33, b33, b33, b33, b33]) (fun _ => by kernel_rfl) (fun _ => ?_)
            refine WP.done ?_
            refine WP.seq ?_
            obtain ⟨t35, h36, hM⟩ := bind_some hM
            refine WP.sub [0, 2, 3, 4, 6, 8, 10] (L' := [(0, .string a0), (2, .pointer (some ⟨b1, 0, none⟩)), (3, .nilIface), (4, .int .i64 r12), (6, .int .u64 r18), (8, .int .u64 r21), (10, .pointer (some ⟨b33, 0, none⟩))]) (by kernel_rfl) ?_
            refine WP.pick [0, 1] (by kernel_rfl) (by kernel_rfl : _ = [(b1, .cells #[.int .i64 0, .int .i64 0, .bool false, .bool false, .int .i64 0, .int .i64 0, .int .i64 0, .int .u32 0, .int .u32 0, .string (⟨#[]⟩ : ByteArray)] 91 (0, 0)), (b33, .cells #[.int .i64 (i64 t25), .int .i64 r27, .bool ((bAnd .i64 r14 16384) != 0), .bool ((bAnd .i64 r14 8192) != 0), .int .i64 (Int.tmod r14 8192), .int .i64 (i64 t29), .int .i64 (i64 t31), .int .u32 0, .int .u32 0, .string (⟨#[]⟩ : ByteArray)] 91 (0, 0))]) ?_
            refine WP.mixed (X := Unit) 11 [.val (.int .u64 r18), .val (.int .u32 (u32 r18)), .val (.int .u64 r21), .val (.int .u32 (u32 r21)), .val (.string a0), .val (.int .i64 r12), .val (.string t35), .val (.pointer (some ⟨b33, 7, none⟩)), .put 11 [] (fun tt => .cells #[.int .i64 (i64 t25), .int .i64 r27, .bool ((bAnd .i64 r14 16384) != 0), .bool ((bAnd .i64 r14 8192) != 0), .int .i64 (Int.tmod r14 8192), .int .i64 (i64 t29), .int .i64 (i64 t31), .int .u32 (u32 r18), .int .u32 0, .string (⟨#[]⟩ : ByteArray)] 91 (0, 0)), .val (.pointer (some ⟨b33, 8, none⟩)), .put 11 [] (fun tt => .cells #[.int .i64 (i64 t25), .int .i64 r27, .bool ((bAnd .i64 r14 16384) != 0), .bool ((bAnd .i64 r14 8192) != 0), .int .i64 (Int.tmod r14 8192), .int .i64 (i64 t29), .int .i64 (i64 t31), .int .u32 (u32 r18), .int .u32 (u32 r21), .string (⟨#[]⟩ : ByteArray)] 91 (0, 0))] [(b1, .cells #[.int .i64 0, .int .i64 0, .bool false, .bool false, .int .i64 0, .int .i64 0, .int .i64 0, .int .u32 0, .int .u32 0, .string (⟨#[]⟩ : ByteArray)] 91 (0, 0))] [(b33, .cells #[.int .i64 (i64 t25), .int .i64 r27, .bool ((bAnd .i64 r14 16384) != 0), .bool ((bAnd .i64 r14 8192) != 0), .int .i64 (Int.tmod r14 8192), .int .i64 (i64 t29), .int .i64 (i64 t31), .int .u32 0, .int .u32 0, .string (⟨#[]⟩ : ByteArray)] 91 (0, 0))] (by kernel_rfl) (by kernel_rfl) (by kernel_rfl) (by kernel_rfl) (Heads.val (fun tt Ψ => OpV.run [] [] (by kernel_rfl) (fun _ => by kernel_rfl)) (Heads.val (fun tt Ψ => OpV.run [] [] (by kernel_rfl) (fun _ => by kernel_rfl)) (Heads.val (fun tt Ψ => OpV.run [] [] (by kernel_rfl) (fun _ => by kernel_rfl)) (Heads.val (fun tt Ψ => OpV.run [] [] (by kernel_rfl) (fun _ => by kernel_rfl)) (Heads.val (fun tt Ψ => OpV.run [] [] (by kernel_rfl) (fun _ => by kernel_rfl)) (Heads.val (fun tt Ψ => OpV.run [] [] (by kernel_rfl) (fun _ => by kernel_rfl)) (Heads.val (fun tt Ψ => OpV.val (fun _ => run_sliceS (s := a0) (kl := .i64) (kh := .i64) (l := 20) (h := r12) (by kernel_rfl) (by kernel_rfl) (by kernel_rfl) (by kernel_rfl) h36) (by kernel_rfl)) (Heads.val (fun tt Ψ => OpV.run [] [] (by kernel_rfl) (fun _ => by kernel_rfl)) (Heads.put (fun x x' h => rfl) 0 b33 (.cells #[.int .i64 (i64 t25), .int .i64 r27, .bool ((bAnd .i64 r14 16384) != 0), .bool ((bAnd .i64 r14 8192) != 0), .int .i64 (Int.tmod r14 8192), .int .i64 (i64 t29), .int .i64 (i64 t31), .int .u32 0, .int .u32 0, .string (⟨#[]⟩ : ByteArray)] 91 (0, 0)) (fun tt => .cells #[.int .i64 (i64 t25), .int .i64 r27, .bool ((bAnd .i64 r14 16384) != 0), .bool ((bAnd .i64 r14 8192) != 0), .int .i64 (Int.tmod r14 8192), .int .i64 (i64 t29), .int .i64 (i64 t31), .int .u32 0, .int .u32 0, .string (⟨#[]⟩ : ByteArray)] 91 (0, 0)) (by kernel_rfl) rfl (fun _ => by kernel_rfl) (fun tt Ψ => OpP.run [1] [b33] (by kernel_rfl) (fun _ _ => by kernel_rfl) (fun _ _ => by kernel_rfl)) (Heads.val (fun tt Ψ => OpV.run [] [] (by kernel_rfl) (fun _ => by kernel_rfl)) (Heads.put (fun x x' h => rfl) 0 b33 (.cells #[.int .i64 (i64 t25), .int .i64 r27, .bool ((bAnd .i64 r14 16384) != 0), .bool ((bAnd .i64 r14 8192) != 0), .int .i64 (Int.tmod r14 8192), .int .i64 (i64 t29), .int .i64 (i64 t31), .int .u32 0, .int .u32 0, .string (⟨#[]⟩ : ByteArray)] 91 (0, 0)) (fun tt => .cells #[.int .i64 (i64 t25), .int .i64 r27, .bool ((bAnd .i64 r14 16384) != 0), .bool ((bAnd .i64 r14 8192) != 0), .int .i64 (Int.tmod r14 8192), .int .i64 (i64 t29), .int .i64 (i64 t31), .int .u32 (u32 r18), .int .u32 0, .string (⟨#[]⟩ : ByteArray)] 91 (0, 0)) (by kernel_rfl) rfl (fun _ => by kernel_rfl) (fun tt Ψ => OpP.run [1] [b33] (by kernel_rfl) (fun _ _ => by kernel_rfl) (fun _ _ => by kernel_rfl)) Heads.nil))))))))))) (fun s34 tt => [(87, .int .u64 r18), (88, .int .u32 (u32 r18)), (89, .int .u64 r21), (90, .int .u32 (u32 r21)), (91, .string a0), (92, .int .i64 r12), (93, .string t35), (94, .pointer (some ⟨b33, 7, none⟩)), (95, .pointer (some ⟨b33, 8, none⟩)), (0, .string a0), (2, .pointer (some ⟨b1, 0, none⟩)), (3, .nilIface), (4, .int .i64 r12), (6, .int .u64 r18), (8, .int .u64 r21), (10, .pointer (some ⟨b33, 0, none⟩))]) (fun s34 tt => [(b1, .cells #[.int .i64 0, .int .i64 0, .bool false, .bool false, .int .i64 0, .int .i64 0, .int .i64 0, .int .u32 0, .int .u32 0, .string (⟨#[]⟩ : ByteArray)] 91 (0, 0)), (b33, .cells #[.int .i64 (i64 t25), .int .i64 r27, .bool ((bAnd .i64 r14 16384) != 0), .bool ((bAnd .i64 r14 8192) != 0), .int .i64 (Int.tmod r14 8192), .int .i64 (i64 t29), .int .i64 (i64 t31), .int .u32 (u32 r18), .int .u32 (u32 r21), .string (⟨#[]⟩ : ByteArray)] 91 (0, 0))]) (fun tt => ([] ++ [Row 1 (pl encS) noK (SkL.at b8 1 (fun _ => ())) ([t6] : List ByteArray)]) ++ Glob) (fun _ _ => by kernel_rfl) (fun _ _ => by kernel_rfl) (fun _ => by kernel_rfl) (fun s34 tt => ?_)
            refine WL.run 2 [1] [2, 3, 10] (fun _ => [(2, .pointer (some ⟨b1, 0, none⟩)), (3, .nilIface), (10, .pointer (some ⟨b33, 0, none⟩))]) (fun _ => [(b1, .cells #[.int .i64 0, .int .i64 0, .bool false, .bool false, .int .i64 0, .int .i64 0, .int .i64 0, .int .u32 0, .int .u32 0, .string (⟨#[]⟩ : ByteArray)] 91 (0, 0)), (b33, .cells #[.int .i64 (i64 t25), .int .i64 r27, .bool ((bAnd .i64 r14 16384) != 0), .bool ((bAnd .i64 r14 8192) != 0), .int .i64 (Int.tmod r14 8192), .int .i64 (i64 t29), .int .i64 (i64 t31), .int .u32 (u32 r18), .int .u32 (u32 r21), .string t35] 91 (0, 0))]) (fun _ => [b33]) (fun _ => by kernel_rfl) (fun _ => ?_)
            refine WP.done ?_
            refine WP.seq ?_
            refine WP.run [1, 1, 1, 1, 1, 1, 1, 1, 1, 1, 0, 0, 0, 0, 0, 0, 0, 0, 0, 0] [2, 3] (fun _ => [(2, .pointer (some ⟨b1, 0, none⟩)), (3, .nilIface)]) (fun _ => [(b1, .cells #[.int .i64 (i64 t25), .int .i64 r27, .bool ((bAnd .i64 r14 16384) != 0), .bool ((bAnd .i64 r14 8192) != 0), .int .i64 (Int.tmod r14 8192), .int .i64 (i64 t29), .int .i64 (i64 t31), .int .u32 (u32 r18), .int .u32 (u32 r21), .string t35] 91 (0, 0)), (b33, .cells #[.int .i64 (i64 t25), .int .i64 r27, .bool ((bAnd .i64 r14 16384) != 0), .bool ((bAnd .i64 r14 8192) != 0), .int .i64 (Int.tmod r14 8192), .int .i64 (i64 t29), .int .i64 (i64 t31), .int .u32 (u32 r18), .int .u32 (u32 r21), .string t35] 91 (0, 0))]) (fun _ => [b1, b1, b1, b1, b1, b1, b1, b1, b1, b1, b33, b33, b33, b33, b33, b33, b33, b33, b33, b33]) (fun _ => by kernel_rfl) (fun _ => ?_)
            refine WP.keep [true, false] (by kernel_rfl : _ = [(b1, .cells #[.int .i64 (i64 t25), .int .i64 r27, .bool ((bAnd .i64 r14 16384) != 0), .bool ((bAnd .i64 r14 8192) != 0), .int .i64 (Int.tmod r14 8192), .int .i64 (i64 t29), .int .i64 (i64 t31), .int .u32 (u32 r18), .int .u32 (u32 r21), .string t35] 91 (0, 0))]) ?_
            obtain rfl := Option.some.inj hM
            exact WP.ret [0, 0, 0, 0, 0, 0, 0, 0, 0, 0] [b1, b1, b1, b1, b1, b1, b1, b1, b1, b1] (.tuple #[.agg #[.int .i64 (i64 t25), .int .i64 r27, .bool ((bAnd .i64 r14 16384) != 0), .bool ((bAnd .i64 r14 8192) != 0), .int .i64 (Int.tmod r14 8192), .int .i64 (i64 t29), .int .i64 (i64 t31), .int .u32 (u32 r18), .int .u32 (u32 r21), .string t35], .nilIface]) (by kernel_rfl) (fun w' hw => ⟨rfl, (hw.pick [] rfl).less (fun _ h => List.mem_append_right _ h)⟩)

end Go.Proofs.YtbodofjnfmjbpaaGreatDoor

namespace Go.Proofs.YtbodofjnfmjbpaaGreatDoor
open Go Eng
set_option linter.unusedVariables false
set_option linter.unusedSimpArgs false

/-! ### (gangway/inet.odd).Unwrap: function 165 -/
def inet_odd_Unwrap.f (a0 : inet_odd) : Option (Int) :=
  some a0.err

set_option maxRecDepth 100000 in
theorem inet_odd_Unwrap_calls (a0 : inet_odd) (r : Int) (h : inet_odd_Unwrap.f a0 = some r) : Pure Tryz.prog Glob 165 #[.agg #[.int .i64 a0.err]] (.iface 30 (.int .i64 r)) := by
  intro w Z hS
  refine calls_of (args := [.agg #[.int .i64 a0.err]]) (L := [(0, .agg #[.int .i64 a0.err])]) (N := 6) (S := Sat w Z [] [] Glob) Tryz.func165 rfl rfl (Nat.le_of_ble_eq_true rfl) rfl hS ?_
  have hM := h
  clear h hS
  unfold inet_odd_Unwrap.f at hM
  refine WP.seq ?_
  refine WP.run [] [1, 2] (fun b1 => [(1, .pointer (some ⟨b1, 0, none⟩)), (2, .nilIface)]) (fun b1 => [(b1, .cells #[.int .i64 a0.err] 188 (0, 0))]) (fun b1 => []) (fun b1 => by kernel_rfl) (fun b1 => ?_)
  refine WP.seq ?_
  refine WP.run [0] [2] (fun _ => [(2, .iface 30 (.int .i64 a0.err))]) (fun _ => [(b1, .cells #[.int .i64 a0.err] 188 (0, 0))]) (fun _ => [b1]) (fun _ => by kernel_rfl) (fun _ => ?_)
  refine WP.keep [false] (by kernel_rfl : _ = []) ?_
  obtain rfl := Option.some.inj hM
  exact WP.ret [] [] (.iface 30 (.int .i64 a0.err)) (by kernel_rfl) (fun w' hw => ⟨rfl, hw.pick [] rfl⟩)

end Go.Proofs.YtbodofjnfmjbpaaGreatDoor

namespace Go.Proofs.YtbodofjnfmjbpaaGreatDoor
open Go Eng
set_option linter.unusedVariables false
set_option linter.unusedSimpArgs false

/-! ### errors.as: function 62 -/
def errors_as_2.f (a0 : inet_odd) (a1 : Int) : Option (Bool × Int) :=
  (inet_odd_Unwrap.f a0).bind fun r3 =>
  some (true, r3)

set_option maxRecDepth 100000 in
theorem errors_as_2_calls (b_0 : Nat) (b_1 : Nat) (a0 : inet_odd) (a1 : Int) (r : Bool × Int) (h : errors_as_2.f a0 a1 = some r) : Does Tryz.prog 62 #[.iface 188 (.agg #[.int .i64 a0.err]), .iface 175 (.pointer (some ⟨b_0, 0, none⟩)), .agg #[.pointer (some ⟨2, 175, none⟩), .pointer (some ⟨b_1, 0, none⟩), .int .u64 150], .iface 148 (.agg #[.pointer (some ⟨2, 30, none⟩)])] [(b_0, .cells #[.int .i64 a1] 30 (0, 0)), (b_1, .cells #[.pointer (some ⟨b_0, 0, none⟩)] 175 (0, 0))] Glob (fun _ : Unit => .bool r.1) (fun _ => [(b_0, .cells #[.int .i64 r.2] 30 (0, 0)), (b_1, .cells #[.pointer (some ⟨b_0, 0, none⟩)] 175 (0, 0))]) (fun _ => []) (fun _ => Glob) := by
  intro w Z hS
  refine calls_of (args := [.iface 188 (.agg #[.int .i64 a0.err]), .iface 175 (.pointer (some ⟨b_0, 0, none⟩)), .agg #[.pointer (some ⟨2, 175, none⟩), .pointer (some ⟨b_1, 0, none⟩), .int .u64 150], .iface 148 (.agg #[.pointer (some ⟨2, 30, none⟩)])]) (L := [(0, .iface 188 (.agg #[.int .i64 a0.err])), (1, .iface 175 (.pointer (some ⟨b_0, 0, none⟩))), (2, .agg #[.pointer (some ⟨2, 175, none⟩), .pointer (some ⟨b_1, 0, none⟩), .int .u64 150]), (3, .iface 148 (.agg #[.pointer (some ⟨2, 30, none⟩)]))]) (N := 62) (S := Sat w Z [(b_0, .cells #[.int .i64 a1] 30 (0, 0)), (b_1, .cells #[.pointer (some ⟨b_0, 0, none⟩)] 175 (0, 0))] [] Glob) Tryz.func62 rfl rfl (Nat.le_of_ble_eq_true rfl) rfl hS ?_
  have hM := h
  clear h hS
  unfold errors_as_2.f at hM
  refine WP.seq ?_
  refine WP.run [] [0, 1, 3, 6, 8] (fun b1 => [(0, .iface 188 (.agg #[.int .i64 a0.err])), (1, .iface 175 (.pointer (some ⟨b_0, 0, none⟩))), (3, .iface 148 (.agg #[.pointer (some ⟨2, 30, none⟩)])), (6, .pointer (some ⟨b1, 0, none⟩)), (8, .bool false)]) (fun b1 => [(b_0, .cells #[.int .i64 a1] 30 (0, 0)), (b_1, .cells #[.pointer (some ⟨b_0, 0, none⟩)] 175 (0, 0)), (b1, .cells #[.pointer (some ⟨2, 175, none⟩), .pointer (some ⟨b_1, 0, none⟩), .int .u64 150] 106 (0, 0))]) (fun b1 => []) (fun b1 => by kernel_rfl) (fun b1 => ?_)
  refine WP.block ?_
  refine WP.unroll 40 ?_
  refine WP.block ?_
  refine WP.seq ?_
  refine WP.seq ?_
  refine WP.run [] [0, 1, 3, 6, 8, 16, 17, 18, 19] (fun _ => [(0, .iface 188 (.agg #[.int .i64 a0.err])), (1, .iface 175 (.pointer (some ⟨b_0, 0, none⟩))), (3, .iface 148 (.agg #[.pointer (some ⟨2, 30, none⟩)])), (6, .pointer (some ⟨b1, 0, none⟩)), (8, .bool false), (16, .iface 188 (.agg #[.int .i64 a0.err])), (17, .iface 148 (.agg #[.pointer (some ⟨2, 188, none⟩)])), (18, .iface 148 (.agg #[.pointer (some ⟨2, 30, none⟩)])), (19, .bool false)]) (fun _ => [(b_0, .cells #[.int .i64 a1] 30 (0, 0)), (b_1, .cells #[.pointer (some ⟨b_0, 0, none⟩)] 175 (0, 0)), (b1, .cells #[.pointer (some ⟨2, 175, none⟩), .pointer (some ⟨b_1, 0, none⟩), .int .u64 150] 106 (0, 0))]) (fun _ => []) (fun _ => by kernel_rfl) (fun _ => ?_)
  refine WP.no rfl rfl ?_
  refine WP.skip ?_
  refine WP.seq ?_
  refine WP.seq ?_
  refine WP.region ?_
  refine WL.run 1 [] [0, 1, 3, 6, 8, 16, 17, 18, 19, 26] (fun _ => [(0, .iface 188 (.agg #[.int .i64 a0.err])), (1, .iface 175 (.pointer (some ⟨b_0, 0, none⟩))), (3, .iface 148 (.agg #[.pointer (some ⟨2, 30, none⟩)])), (6, .pointer (some ⟨b1, 0, none⟩)), (8, .bool false), (16, .iface 188 (.agg #[.int .i64 a0.err])), (17, .iface 148 (.agg #[.pointer (some ⟨2, 188, none⟩)])), (18, .iface 148 (.agg #[.pointer (some ⟨2, 30, none⟩)])), (19, .bool false), (26, .iface 188 (.agg #[.int .i64 a0.err]))]) (fun _ => [(b_0, .cells #[.int .i64 a1] 30 (0, 0)), (b_1, .cells #[.pointer (some ⟨b_0, 0, none⟩)] 175 (0, 0)), (b1, .cells #[.pointer (some ⟨2, 175, none⟩), .pointer (some ⟨b_1, 0, none⟩), .int .u64 150] 106 (0, 0))]) (fun _ => []) (fun _ => by kernel_rfl) (fun _ => ?_)
  refine WL.val (fun _ => run_assertLacks (t := 188) (v := .agg #[.int .i64 a0.err]) (z := .nilIface) (by kernel_rfl) (by kernel_rfl) (by kernel_rfl)) (by kernel_rfl) (by kernel_rfl) rfl ?_
  refine WL.run 5 [] [0, 1, 3, 6, 8, 9, 10, 16, 17, 18, 19, 25, 26, 27, 28, 29] (fun _ => [(0, .iface 188 (.agg #[.int .i64 a0.err])), (1, .iface 175 (.pointer (some ⟨b_0, 0, none⟩))), (3, .iface 148 (.agg #[.pointer (some ⟨2, 30, none⟩)])), (6, .pointer (some ⟨b1, 0, none⟩)), (8, .bool false), (9, .nilIface), (10, .bool false), (16, .iface 188 (.agg #[.int .i64 a0.err])), (17, .iface 148 (.agg #[.pointer (some ⟨2, 188, none⟩)])), (18, .iface 148 (.agg #[.pointer (some ⟨2, 30, none⟩)])), (19, .bool false), (25, .tuple #[.nilIface, .bool false]), (26, .iface 188 (.agg #[.int .i64 a0.err])), (27, .tuple #[.nilIface, .bool false]), (28, .nilIface), (29, .bool false)]) (fun _ => [(b_0, .cells #[.int .i64 a1] 30 (0, 0)), (b_1, .cells #[.pointer (some ⟨b_0, 0, none⟩)] 175 (0, 0)), (b1, .cells #[.pointer (some ⟨2, 175, none⟩), .pointer (some ⟨b_1, 0, none⟩), .int .u64 150] 106 (0, 0))]) (fun _ => []) (fun _ => by kernel_rfl) (fun _ => ?_)
  refine WP.done ?_
  refine WP.seq ?_
  refine WP.run [] [0, 1, 3, 6, 8, 9, 10, 16, 17, 18, 19, 25, 26, 27, 28, 29, 30, 31, 32, 33, 34, 35] (fun _ => [(0, .iface 188 (.agg #[.int .i64 a0.err])), (1, .iface 175 (.pointer (some ⟨b_0, 0, none⟩))), (3, .iface 148 (.agg #[.pointer (some ⟨2, 30, none⟩)])), (6, .pointer (some ⟨b1, 0, none⟩)), (8, .bool false), (9, .nilIface), (10, .bool false), (16, .iface 188 (.agg #[.int .i64 a0.err])), (17, .iface 148 (.agg #[.pointer (some ⟨2, 188, none⟩)])), (18, .iface 148 (.agg #[.pointer (some ⟨2, 30, none⟩)])), (19, .bool false), (25, .tuple #[.nilIface, .bool false]), (26, .iface 188 (.agg #[.int .i64 a0.err])), (27, .tuple #[.nilIface, .bool false]), (28, .nilIface), (29, .bool false), (30, .bool false), (31, .bool false), (32, .tuple #[]), (33, .tuple #[]), (34, .tuple #[]), (35, .bool false)]) (fun _ => [(b_0, .cells #[.int .i64 a1] 30 (0, 0)), (b_1, .cells #[.pointer (some ⟨b_0, 0, none⟩)] 175 (0, 0)), (b1, .cells #[.pointer (some ⟨2, 175, none⟩), .pointer (some ⟨b_1, 0, none⟩), .int .u64 150] 106 (0, 0))]) (fun _ => []) (fun _ => by kernel_rfl) (fun _ => ?_)
  refine WP.no rfl rfl ?_
  refine WP.skip ?_
  refine WP.seq ?_
  refine WP.run [] [0, 1, 3, 6, 8, 9, 10, 16, 17, 18, 19, 25, 26, 27, 28, 29, 30, 31, 32, 33, 34, 35, 36] (fun _ => [(0, .iface 188 (.agg #[.int .i64 a0.err])), (1, .iface 175 (.pointer (some ⟨b_0, 0, none⟩))), (3, .iface 148 (.agg #[.pointer (some ⟨2, 30, none⟩)])), (6, .pointer (some ⟨b1, 0, none⟩)), (8, .bool false), (9, .nilIface), (10, .bool false), (16, .iface 188 (.agg #[.int .i64 a0.err])), (17, .iface 148 (.agg #[.pointer (some ⟨2, 188, none⟩)])), (18, .iface 148 (.agg #[.pointer (some ⟨2, 30, none⟩)])), (19, .bool false), (25, .tuple #[.nilIface, .bool false]), (26, .iface 188 (.agg #[.int .i64 a0.err])), (27, .tuple #[.nilIface, .bool false]), (28, .nilIface), (29, .bool false), (30, .bool false), (31, .bool false), (32, .tuple #[]), (33, .tuple #[]), (34, .tuple #[]), (35, .bool false), (36, .iface 188 (.agg #[.int .i64 a0.err]))]) (fun _ => [(b_0, .cells #[.int .i64 a1] 30 (0, 0)), (b_1, .cells #[.pointer (some ⟨b_0, 0, none⟩)] 175 (0, 0)), (b1, .cells #[.pointer (some ⟨2, 175, none⟩), .pointer (some ⟨b_1, 0, none⟩), .int .u64 150] 106 (0, 0))]) (fun _ => []) (fun _ => by kernel_rfl) (fun _ => ?_)
  refine WP.block ?_
  refine WP.seq ?_
  refine WP.region ?_
  refine WL.val (fun _ => run_assertHas (t := 188) (v := .agg #[.int .i64 a0.err]) (by kernel_rfl) (by kernel_rfl)) (by kernel_rfl) (by kernel_rfl) rfl ?_
  refine WL.run 2 [] [0, 1, 3, 6, 8, 9, 10, 16, 17, 18, 19, 25, 26, 27, 28, 29, 30, 31, 32, 33, 34, 35, 36, 37, 38, 39] (fun _ => [(0, .iface 188 (.agg #[.int .i64 a0.err])), (1, .iface 175 (.pointer (some ⟨b_0, 0, none⟩))), (3, .iface 148 (.agg #[.pointer (some ⟨2, 30, none⟩)])), (6, .pointer (some ⟨b1, 0, none⟩)), (8, .bool false), (9, .nilIface), (10, .bool false), (16, .iface 188 (.agg #[.int .i64 a0.err])), (17, .iface 148 (.agg #[.pointer (some ⟨2, 188, none⟩)])), (18, .iface 148 (.agg #[.pointer (some ⟨2, 30, none⟩)])), (19, .bool false), (25, .tuple #[.nilIface, .bool false]), (26, .iface 188 (.agg #[.int .i64 a0.err])), (27, .tuple #[.nilIface, .bool false]), (28, .nilIface), (29, .bool false), (30, .bool false), (31, .bool false), (32, .tuple #[]), (33, .tuple #[]), (34, .tuple #[]), (35, .bool false), (36, .iface 188 (.agg #[.int .i64 a0.err])), (37, .tuple #[.iface 188 (.agg #[.int .i64 a0.err]), .bool true]), (38, .bool true), (39, .iface 188 (.agg #[.int .i64 a0.err]))]) (fun _ => [(b_0, .cells #[.int .i64 a1] 30 (0, 0)), (b_1, .cells #[.pointer (some ⟨b_0, 0, none⟩)] 175 (0, 0)), (b1, .cells #[.pointer (some ⟨2, 175, none⟩), .pointer (some ⟨b_1, 0, none⟩), .int .u64 150] 106 (0, 0))]) (fun _ => []) (fun _ => by kernel_rfl) (fun _ => ?_)
  refine WP.done ?_
  refine WP.yes rfl rfl ?_
  refine WP.seq ?_
  refine WP.run [] [0, 1, 3, 6, 8, 9, 10, 11, 16, 17, 18, 19, 25, 26, 27, 28, 29, 30, 31, 32, 33, 34, 35, 36, 37, 38, 39] (fun _ => [(0, .iface 188 (.agg #[.int .i64 a0.err])), (1, .iface 175 (.pointer (some ⟨b_0, 0, none⟩))), (3, .iface 148 (.agg #[.pointer (some ⟨2, 30, none⟩)])), (6, .pointer (some ⟨b1, 0, none⟩)), (8, .bool false), (9, .nilIface), (10, .bool false), (11, .iface 188 (.agg #[.int .i64 a0.err])), (16, .iface 188 (.agg #[.int .i64 a0.err])), (17, .iface 148 (.agg #[.pointer (some ⟨2, 188, none⟩)])), (18, .iface 148 (.agg #[.pointer (some ⟨2, 30, none⟩)])), (19, .bool false), (25, .tuple #[.nilIface, .bool false]), (26, .iface 188 (.agg #[.int .i64 a0.err])), (27, .tuple #[.nilIface, .bool false]), (28, .nilIface), (29, .bool false), (30, .bool false), (31, .bool false), (32, .tuple #[]), (33, .tuple #[]), (34, .tuple #[]), (35, .bool false), (36, .iface 188 (.agg #[.int .i64 a0.err])), (37, .tuple #[.iface 188 (.agg #[.int .i64 a0.err]), .bool true]), (38, .bool true), (39, .iface 188 (.agg #[.int .i64 a0.err]))]) (fun _ => [(b_0, .cells #[.int .i64 a1] 30 (0, 0)), (b_1, .cells #[.pointer (some ⟨b_0, 0, none⟩)] 175 (0, 0)), (b1, .cells #[.pointer (some ⟨2, 175, none⟩), .pointer (some ⟨b_1, 0, none⟩), .int .u64 150] 106 (0, 0))]) (fun _ => []) (fun _ => by kernel_rfl) (fun _ => ?_)
  refine WP.seq ?_
  refine WP.region ?_
  refine WL.run 1 [] [0, 1, 3, 6, 8, 9, 10, 11, 16, 17, 18, 19, 25, 26, 27, 28, 29, 30, 31, 32, 33, 34, 35, 36, 37, 38, 39, 40] (fun _ => [(0, .iface 188 (.agg #[.int .i64 a0.err])), (1, .iface 175 (.pointer (some ⟨b_0, 0, none⟩))), (3, .iface 148 (.agg #[.pointer (some ⟨2, 30, none⟩)])), (6, .pointer (some ⟨b1, 0, none⟩)), (8, .bool false), (9, .nilIface), (10, .bool false), (11, .iface 188 (.agg #[.int .i64 a0.err])), (16, .iface 188 (.agg #[.int .i64 a0.err])), (17, .iface 148 (.agg #[.pointer (some ⟨2, 188, none⟩)])), (18, .iface 148 (.agg #[.pointer (some ⟨2, 30, none⟩)])), (19, .bool false), (25, .tuple #[.nilIface, .bool false]), (26, .iface 188 (.agg #[.int .i64 a0.err])), (27, .tuple #[.nilIface, .bool false]), (28, .nilIface), (29, .bool false), (30, .bool false), (31, .bool false), (32, .tuple #[]), (33, .tuple #[]), (34, .tuple #[]), (35, .bool false), (36, .iface 188 (.agg #[.int .i64 a0.err])), (37, .tuple #[.iface 188 (.agg #[.int .i64 a0.err]), .bool true]), (38, .bool true), (39, .iface 188 (.agg #[.int .i64 a0.err])), (40, .iface 188 (.agg #[.int .i64 a0.err]))]) (fun _ => [(b_0, .cells #[.int .i64 a1] 30 (0, 0)), (b_1, .cells #[.pointer (some ⟨b_0, 0, none⟩)] 175 (0, 0)), (b1, .cells #[.pointer (some ⟨2, 175, none⟩), .pointer (some ⟨b_1, 0, none⟩), .int .u64 150] 106 (0, 0))]) (fun _ => []) (fun _ => by kernel_rfl) (fun _ => ?_)
  obtain ⟨r3, h4, hM⟩ := bind_some hM
  refine WL.callP [] [] (inet_odd_Unwrap_calls a0 _ h4) (fun _ h => h) (by kernel_rfl) (by kernel_rfl) rfl ?_
  refine WL.run 1 [] [0, 1, 3, 6, 8, 9, 10, 11, 16, 17, 18, 19, 25, 26, 27, 28, 29, 30, 31, 32, 33, 34, 35, 36, 37, 38, 39, 40, 41] (fun _ => [(0, .iface 30 (.int .i64 r3)), (1, .iface 175 (.pointer (some ⟨b_0, 0, none⟩))), (3, .iface 148 (.agg #[.pointer (some ⟨2, 30, none⟩)])), (6, .pointer (some ⟨b1, 0, none⟩)), (8, .bool false), (9, .nilIface), (10, .bool false), (11, .iface 188 (.agg #[.int .i64 a0.err])), (16, .iface 188 (.agg #[.int .i64 a0.err])), (17, .iface 148 (.agg #[.pointer (some ⟨2, 188, none⟩)])), (18, .iface 148 (.agg #[.pointer (some ⟨2, 30, none⟩)])), (19, .bool false), (25, .tuple #[.nilIface, .bool false]), (26, .iface 188 (.agg #[.int .i64 a0.err])), (27, .tuple #[.nilIface, .bool false]), (28, .nilIface), (29, .bool false), (30, .bool false), (31, .bool false), (32, .tuple #[]), (33, .tuple #[]), (34, .tuple #[]), (35, .bool false), (36, .iface 188 (.agg #[.int .i64 a0.err])), (37, .tuple #[.iface 188 (.agg #[.int .i64 a0.err]), .bool true]), (38, .bool true), (39, .iface 188 (.agg #[.int .i64 a0.err])), (40, .iface 188 (.agg #[.int .i64 a0.err])), (41, .iface 30 (.int .i64 r3))]) (fun _ => [(b_0, .cells #[.int .i64 a1] 30 (0, 0)), (b_1, .cells #[.pointer (some ⟨b_0, 0, none⟩)] 175 (0, 0)), (b1, .cells #[.pointer (some ⟨2, 175, none⟩), .pointer (some ⟨b_1, 0, none⟩), .int .u64 150] 106 (0, 0))]) (fun _ => []) (fun _ => by kernel_rfl) (fun _ => ?_)
  refine WP.done ?_
  refine WP.seq ?_
  refine WP.run [] [0, 1, 3, 6, 8, 9, 10, 11, 16, 17, 18, 19, 25, 26, 27, 28, 29, 30, 31, 32, 33, 34, 35, 36, 37, 38, 39, 40, 41, 42, 43] (fun _ => [(0, .iface 30 (.int .i64 r3)), (1, .iface 175 (.pointer (some ⟨b_0, 0, none⟩))), (3, .iface 148 (.agg #[.pointer (some ⟨2, 30, none⟩)])), (6, .pointer (some ⟨b1, 0, none⟩)), (8, .bool false), (9, .nilIface), (10, .bool false), (11, .iface 188 (.agg #[.int .i64 a0.err])), (16, .iface 188 (.agg #[.int .i64 a0.err])), (17, .iface 148 (.agg #[.pointer (some ⟨2, 188, none⟩)])), (18, .iface 148 (.agg #[.pointer (some ⟨2, 30, none⟩)])), (19, .bool false), (25, .tuple #[.nilIface, .bool false]), (26, .iface 188 (.agg #[.int .i64 a0.err])), (27, .tuple #[.nilIface, .bool false]), (28, .nilIface), (29, .bool false), (30, .bool false), (31, .bool false), (32, .tuple #[]), (33, .tuple #[]), (34, .tuple #[]), (35, .bool false), (36, .iface 188 (.agg #[.int .i64 a0.err])), (37, .tuple #[.iface 188 (.agg #[.int .i64 a0.err]), .bool true]), (38, .bool true), (39, .iface 188 (.agg #[.int .i64 a0.err])), (40, .iface 188 (.agg #[.int .i64 a0.err])), (41, .iface 30 (.int .i64 r3)), (42, .iface 30 (.int .i64 r3)), (43, .bool false)]) (fun _ => [(b_0, .cells #[.int .i64 a1] 30 (0, 0)), (b_1, .cells #[.pointer (some ⟨b_0, 0, none⟩)] 175 (0, 0)), (b1, .cells #[.pointer (some ⟨2, 175, none⟩), .pointer (some ⟨b_1, 0, none⟩), .int .u64 150] 106 (0, 0))]) (fun _ => []) (fun _ => by kernel_rfl) (fun _ => ?_)
  refine WP.no rfl rfl ?_
  refine WP.skip ?_
  refine WP.leave ?_
  refine WP.leave ?_
  refine WP.round ?_
  refine WP.block ?_
  refine WP.seq ?_
  refine WP.seq ?_
  refine WP.run [] [0, 1, 3, 6, 8, 9, 10, 11, 16, 17, 18, 19, 25, 26, 27, 28, 29, 30, 31, 32, 33, 34, 35, 36, 37, 38, 39, 40, 41, 42, 43] (fun _ => [(0, .iface 30 (.int .i64 r3)), (1, .iface 175 (.pointer (some ⟨b_0, 0, none⟩))), (3, .iface 148 (.agg #[.pointer (some ⟨2, 30, none⟩)])), (6, .pointer (some ⟨b1, 0, none⟩)), (8, .bool false), (9, .nilIface), (10, .bool false), (11, .iface 188 (.agg #[.int .i64 a0.err])), (16, .iface 30 (.int .i64 r3)), (17, .iface 148 (.agg #[.pointer (some ⟨2, 30, none⟩)])), (18, .iface 148 (.agg #[.pointer (some ⟨2, 30, none⟩)])), (19, .bool true), (25, .tuple #[.nilIface, .bool false]), (26, .iface 188 (.agg #[.int .i64 a0.err])), (27, .tuple #[.nilIface, .bool false]), (28, .nilIface), (29, .bool false), (30, .bool false), (31, .bool false), (32, .tuple #[]), (33, .tuple #[]), (34, .tuple #[]), (35, .bool false), (36, .iface 188 (.agg #[.int .i64 a0.err])), (37, .tuple #[.iface 188 (.agg #[.int .i64 a0.err]), .bool true]), (38, .bool true), (39, .iface 188 (.agg #[.int .i64 a0.err])), (40, .iface 188 (.agg #[.int .i64 a0.err])), (41, .iface 30 (.int .i64 r3)), (42, .iface 30 (.int .i64 r3)), (43, .bool false)]) (fun _ => [(b_0, .cells #[.int .i64 a1] 30 (0, 0)), (b_1, .cells #[.pointer (some ⟨b_0, 0, none⟩)] 175 (0, 0)), (b1, .cells #[.pointer (some ⟨2, 175, none⟩), .pointer (some ⟨b_1, 0, none⟩), .int .u64 150] 106 (0, 0))]) (fun _ => []) (fun _ => by kernel_rfl) (fun _ => ?_)
  refine WP.yes rfl rfl ?_
  refine WP.seq ?_
  refine WP.run [2, 2, 2, 1, 3, 0] [0, 1, 3, 6, 8, 9, 10, 11, 16, 17, 18, 19, 20, 21, 22, 23, 25, 26, 27, 28, 29, 30, 31, 32, 33, 34, 35, 36, 37, 38, 39, 40, 41, 42, 43] (fun b5 => [(0, .iface 30 (.int .i64 r3)), (1, .iface 175 (.pointer (some ⟨b_0, 0, none⟩))), (3, .iface 148 (.agg #[.pointer (some ⟨2, 30, none⟩)])), (6, .pointer (some ⟨b1, 0, none⟩)), (8, .bool false), (9, .nilIface), (10, .bool false), (11, .iface 188 (.agg #[.int .i64 a0.err])), (16, .iface 30 (.int .i64 r3)), (17, .iface 148 (.agg #[.pointer (some ⟨2, 30, none⟩)])), (18, .iface 148 (.agg #[.pointer (some ⟨2, 30, none⟩)])), (19, .bool true), (20, .agg #[.pointer (some ⟨2, 175, none⟩), .pointer (some ⟨b_1, 0, none⟩), .int .u64 150]), (21, .agg #[.pointer (some ⟨2, 30, none⟩), .pointer (some ⟨b_0, 0, none⟩), .int .u64 386]), (22, .iface 30 (.int .i64 r3)), (23, .agg #[.pointer (some ⟨2, 30, none⟩), .pointer (some ⟨b5, 0, none⟩), .int .u64 130]), (25, .tuple #[.nilIface, .bool false]), (26, .iface 188 (.agg #[.int .i64 a0.err])), (27, .tuple #[.nilIface, .bool false]), (28, .nilIface), (29, .bool false), (30, .bool false), (31, .bool false), (32, .tuple #[]), (33, .tuple #[]), (34, .tuple #[]), (35, .bool false), (36, .iface 188 (.agg #[.int .i64 a0.err])), (37, .tuple #[.iface 188 (.agg #[.int .i64 a0.err]), .bool true]), (38, .bool true), (39, .iface 188 (.agg #[.int .i64 a0.err])), (40, .iface 188 (.agg #[.int .i64 a0.err])), (41, .iface 30 (.int .i64 r3)), (42, .iface 30 (.int .i64 r3)), (43, .bool false)]) (fun b5 => [(b_0, .cells #[.int .i64 r3] 30 (0, 0)), (b_1, .cells #[.pointer (some ⟨b_0, 0, none⟩)] 175 (0, 0)), (b1, .cells #[.pointer (some ⟨2, 175, none⟩), .pointer (some ⟨b_1, 0, none⟩), .int .u64 150] 106 (0, 0)), (b5, .cells #[.int .i64 r3] 30 (0, 0))]) (fun b5 => [b_0, b5, b_1, b1, b1, b1]) (fun b5 => by kernel_rfl) (fun b5 => ?_)
  refine WP.seq ?_
  refine WP.run [] [0, 1, 3, 6, 8, 9, 10, 11, 16, 17, 18, 19, 20, 21, 22, 23, 25, 26, 27, 28, 29, 30, 31, 32, 33, 34, 35, 36, 37, 38, 39, 40, 41, 42, 43] (fun _ => [(0, .iface 30 (.int .i64 r3)), (1, .iface 175 (.pointer (some ⟨b_0, 0, none⟩))), (3, .iface 148 (.agg #[.pointer (some ⟨2, 30, none⟩)])), (6, .pointer (some ⟨b1, 0, none⟩)), (8, .bool true), (9, .nilIface), (10, .bool false), (11, .iface 188 (.agg #[.int .i64 a0.err])), (16, .iface 30 (.int .i64 r3)), (17, .iface 148 (.agg #[.pointer (some ⟨2, 30, none⟩)])), (18, .iface 148 (.agg #[.pointer (some ⟨2, 30, none⟩)])), (19, .bool true), (20, .agg #[.pointer (some ⟨2, 175, none⟩), .pointer (some ⟨b_1, 0, none⟩), .int .u64 150]), (21, .agg #[.pointer (some ⟨2, 30, none⟩), .pointer (some ⟨b_0, 0, none⟩), .int .u64 386]), (22, .iface 30 (.int .i64 r3)), (23, .agg #[.pointer (some ⟨2, 30, none⟩), .pointer (some ⟨b5, 0, none⟩), .int .u64 130]), (25, .tuple #[.nilIface, .bool false]), (26, .iface 188 (.agg #[.int .i64 a0.err])), (27, .tuple #[.nilIface, .bool false]), (28, .nilIface), (29, .bool false), (30, .bool false), (31, .bool false), (32, .tuple #[]), (33, .tuple #[]), (34, .tuple #[]), (35, .bool false), (36, .iface 188 (.agg #[.int .i64 a0.err])), (37, .tuple #[.iface 188 (.agg #[.int .i64 a0.err]), .bool true]), (38, .bool true), (39, .iface 188 (.agg #[.int .i64 a0.err])), (40, .iface 188 (.agg #[.int .i64 a0.err])), (41, .iface 30 (.int .i64 r3)), (42, .iface 30 (.int .i64 r3)), (43, .bool false)]) (fun _ => [(b_0, .cells #[.int .i64 r3] 30 (0, 0)), (b_1, .cells #[.pointer (some ⟨b_0, 0, none⟩)] 175 (0, 0)), (b1, .cells #[.pointer (some ⟨2, 175, none⟩), .pointer (some ⟨b_1, 0, none⟩), .int .u64 150] 106 (0, 0)), (b5, .cells #[.int .i64 r3] 30 (0, 0))]) (fun _ => []) (fun _ => by kernel_rfl) (fun _ => ?_)
  obtain rfl := Option.some.inj hM
  exact WP.ret [] [] (.bool true) (by kernel_rfl) (fun w' hw => ⟨(), rfl, hw.pick [0, 1] (by kernel_rfl)⟩)

end Go.Proofs.YtbodofjnfmjbpaaGreatDoor

namespace Go.Proofs.YtbodofjnfmjbpaaGreatDoor
open Go Eng
set_option linter.unusedVariables false
set_option linter.unusedSimpArgs false

/-! ### errors.As: function 34 -/
def errors_As_2.f (a0 : inet_odd) (a1 : Int) : Option (Bool × Int) :=
  (errors_as_2.f a0 a1).bind fun (r2, r3) =>
  some (r2, r3)

set_option maxRecDepth 100000 in
theorem errors_As_2_calls (b_0 : Nat) (a0 : inet_odd) (a1 : Int) (r : Bool × Int) (h : errors_As_2.f a0 a1 = some r) : Does Tryz.prog 34 #[.iface 188 (.agg #[.int .i64 a0.err]), .iface 175 (.pointer (some ⟨b_0, 0, none⟩))] [(b_0, .cells #[.int .i64 a1] 30 (0, 0))] Glob (fun _ : Unit => .bool r.1) (fun _ => [(b_0, .cells #[.int .i64 r.2] 30 (0, 0))]) (fun _ => []) (fun _ => Glob) := by
  intro w Z hS
  refine calls_of (args := [.iface 188 (.agg #[.int .i64 a0.err]), .iface 175 (.pointer (some ⟨b_0, 0, none⟩))]) (L := [(0, .iface 188 (.agg #[.int .i64 a0.err])), (1, .iface 175 (.pointer (some ⟨b_0, 0, none⟩)))]) (N := 42) (S := Sat w Z [(b_0, .cells #[.int .i64 a1] 30 (0, 0))] [] Glob) Tryz.func34 rfl rfl (Nat.le_of_ble_eq_true rfl) rfl hS ?_
  have hM := h
  clear h hS
  unfold errors_As_2.f at hM
  refine WP.seq ?_
  refine WP.run [] [0, 1, 4] (fun _ => [(0, .iface 188 (.agg #[.int .i64 a0.err])), (1, .iface 175 (.pointer (some ⟨b_0, 0, none⟩))), (4, .bool false)]) (fun _ => [(b_0, .cells #[.int .i64 a1] 30 (0, 0))]) (fun _ => []) (fun _ => by kernel_rfl) (fun _ => ?_)
  refine WP.seq ?_
  refine WP.seq ?_
  refine WP.run [] [0, 1, 4, 9] (fun _ => [(0, .iface 188 (.agg #[.int .i64 a0.err])), (1, .iface 175 (.pointer (some ⟨b_0, 0, none⟩))), (4, .bool false), (9, .bool false)]) (fun _ => [(b_0, .cells #[.int .i64 a1] 30 (0, 0))]) (fun _ => []) (fun _ => by kernel_rfl) (fun _ => ?_)
  refine WP.no rfl rfl ?_
  refine WP.skip ?_
  refine WP.seq ?_
  refine WP.seq ?_
  refine WP.run [] [0, 1, 4, 11] (fun _ => [(0, .iface 188 (.agg #[.int .i64 a0.err])), (1, .iface 175 (.pointer (some ⟨b_0, 0, none⟩))), (4, .bool false), (11, .bool false)]) (fun _ => [(b_0, .cells #[.int .i64 a1] 30 (0, 0))]) (fun _ => []) (fun _ => by kernel_rfl) (fun _ => ?_)
  refine WP.no rfl rfl ?_
  refine WP.skip ?_
  refine WP.seq ?_
  refine WP.run [2, 2, 2] [0, 1, 4, 5] (fun b1 => [(0, .iface 188 (.agg #[.int .i64 a0.err])), (1, .iface 175 (.pointer (some ⟨b_0, 0, none⟩))), (4, .bool false), (5, .pointer (some ⟨(b1 + 1), 0, none⟩))]) (fun b1 => [(b_0, .cells #[.int .i64 a1] 30 (0, 0)), (b1, .cells #[.pointer (some ⟨b_0, 0, none⟩)] 175 (0, 0)), ((b1 + 1), .cells #[.pointer (some ⟨2, 175, none⟩), .pointer (some ⟨b1, 0, none⟩), .int .u64 150] 106 (0, 0))]) (fun b1 => [(b1 + 1), (b1 + 1), (b1 + 1)]) (fun b1 => by kernel_rfl) (fun b1 => ?_)
  refine WP.seq ?_
  refine WP.run [2, 2, 2] [0, 1, 4, 5, 6] (fun _ => [(0, .iface 188 (.agg #[.int .i64 a0.err])), (1, .iface 175 (.pointer (some ⟨b_0, 0, none⟩))), (4, .bool false), (5, .pointer (some ⟨(b1 + 1), 0, none⟩)), (6, .iface 148 (.agg #[.pointer (some ⟨2, 175, none⟩)]))]) (fun _ => [(b_0, .cells #[.int .i64 a1] 30 (0, 0)), (b1, .cells #[.pointer (some ⟨b_0, 0, none⟩)] 175 (0, 0)), ((b1 + 1), .cells #[.pointer (some ⟨2, 175, none⟩), .pointer (some ⟨b1, 0, none⟩), .int .u64 150] 106 (0, 0))]) (fun _ => [(b1 + 1), (b1 + 1), (b1 + 1)]) (fun _ => by kernel_rfl) (fun _ => ?_)
  refine WP.seq ?_
  refine WP.seq ?_
  refine WP.run [2, 2, 2, 1] [0, 1, 4, 5, 6, 23] (fun _ => [(0, .iface 188 (.agg #[.int .i64 a0.err])), (1, .iface 175 (.pointer (some ⟨b_0, 0, none⟩))), (4, .bool false), (5, .pointer (some ⟨(b1 + 1), 0, none⟩)), (6, .iface 148 (.agg #[.pointer (some ⟨2, 175, none⟩)])), (23, .bool false)]) (fun _ => [(b_0, .cells #[.int .i64 a1] 30 (0, 0)), (b1, .cells #[.pointer (some ⟨b_0, 0, none⟩)] 175 (0, 0)), ((b1 + 1), .cells #[.pointer (some ⟨2, 175, none⟩), .pointer (some ⟨b1, 0, none⟩), .int .u64 150] 106 (0, 0))]) (fun _ => [b1, (b1 + 1), (b1 + 1), (b1 + 1)]) (fun _ => by kernel_rfl) (fun _ => ?_)
  refine WP.no rfl rfl ?_
  refine WP.skip ?_
  refine WP.seq ?_
  refine WP.run [] [0, 1, 4, 5, 7] (fun _ => [(0, .iface 188 (.agg #[.int .i64 a0.err])), (1, .iface 175 (.pointer (some ⟨b_0, 0, none⟩))), (4, .bool false), (5, .pointer (some ⟨(b1 + 1), 0, none⟩)), (7, .iface 148 (.agg #[.pointer (some ⟨2, 30, none⟩)]))]) (fun _ => [(b_0, .cells #[.int .i64 a1] 30 (0, 0)), (b1, .cells #[.pointer (some ⟨b_0, 0, none⟩)] 175 (0, 0)), ((b1 + 1), .cells #[.pointer (some ⟨2, 175, none⟩), .pointer (some ⟨b1, 0, none⟩), .int .u64 150] 106 (0, 0))]) (fun _ => []) (fun _ => by kernel_rfl) (fun _ => ?_)
  refine WP.seq ?_
  refine WP.seq ?_
  refine WP.region ?_
  refine WL.run 5 [] [0, 1, 4, 5, 7, 30, 31] (fun _ => [(0, .iface 188 (.agg #[.int .i64 a0.err])), (1, .iface 175 (.pointer (some ⟨b_0, 0, none⟩))), (4, .bool false), (5, .pointer (some ⟨(b1 + 1), 0, none⟩)), (7, .iface 148 (.agg #[.pointer (some ⟨2, 30, none⟩)])), (30, .bool true), (31, .iface 148 (.agg #[.pointer (some ⟨2, 30, none⟩)]))]) (fun _ => [(b_0, .cells #[.int .i64 a1] 30 (0, 0)), (b1, .cells #[.pointer (some ⟨b_0, 0, none⟩)] 175 (0, 0)), ((b1 + 1), .cells #[.pointer (some ⟨2, 175, none⟩), .pointer (some ⟨b1, 0, none⟩), .int .u64 150] 106 (0, 0))]) (fun _ => []) (fun _ => by kernel_rfl) (fun _ => ?_)
  refine WL.loadGlob (v := .iface 148 (.agg #[.pointer (some ⟨2, 73, none⟩)])) (by simp [Glob]) (fun _ => by kernel_rfl) (by kernel_rfl) rfl ?_
  refine WL.run 3 [] [0, 1, 4, 5, 7, 35] (fun _ => [(0, .iface 188 (.agg #[.int .i64 a0.err])), (1, .iface 175 (.pointer (some ⟨b_0, 0, none⟩))), (4, .bool false), (5, .pointer (some ⟨(b1 + 1), 0, none⟩)), (7, .iface 148 (.agg #[.pointer (some ⟨2, 30, none⟩)])), (35, .bool false)]) (fun _ => [(b_0, .cells #[.int .i64 a1] 30 (0, 0)), (b1, .cells #[.pointer (some ⟨b_0, 0, none⟩)] 175 (0, 0)), ((b1 + 1), .cells #[.pointer (some ⟨2, 175, none⟩), .pointer (some ⟨b1, 0, none⟩), .int .u64 150] 106 (0, 0))]) (fun _ => []) (fun _ => by kernel_rfl) (fun _ => ?_)
  refine WP.done ?_
  refine WP.no rfl rfl ?_
  refine WP.skip ?_
  refine WP.seq ?_
  refine WP.region ?_
  refine WL.run 4 [2, 2, 2] [4, 37, 38, 39, 40] (fun _ => [(4, .bool false), (37, .iface 188 (.agg #[.int .i64 a0.err])), (38, .iface 175 (.pointer (some ⟨b_0, 0, none⟩))), (39, .agg #[.pointer (some ⟨2, 175, none⟩), .pointer (some ⟨b1, 0, none⟩), .int .u64 150]), (40, .iface 148 (.agg #[.pointer (some ⟨2, 30, none⟩)]))]) (fun _ => [(b_0, .cells #[.int .i64 a1] 30 (0, 0)), (b1, .cells #[.pointer (some ⟨b_0, 0, none⟩)] 175 (0, 0)), ((b1 + 1), .cells #[.pointer (some ⟨2, 175, none⟩), .pointer (some ⟨b1, 0, none⟩), .int .u64 150] 106 (0, 0))]) (fun _ => [(b1 + 1), (b1 + 1), (b1 + 1)]) (fun _ => by kernel_rfl) (fun _ => ?_)
  obtain ⟨⟨r2, r3⟩, h4, hM⟩ := bind_some hM
  dsimp only at hM
  refine WL.callE (X := Unit) [] [] [true, true, false] (fun _ => _) (errors_as_2_calls b_0 b1 a0 a1 _ h4) rfl rfl (fun _ h => h) (by kernel_rfl) (by kernel_rfl) (fun _ => rfl) (fun _ => ?_)
  refine WL.run 1 [] [4] (fun _ => [(4, .bool r2)]) (fun _ => [(b_0, .cells #[.int .i64 r3] 30 (0, 0)), (b1, .cells #[.pointer (some ⟨b_0, 0, none⟩)] 175 (0, 0)), ((b1 + 1), .cells #[.pointer (some ⟨2, 175, none⟩), .pointer (some ⟨b1, 0, none⟩), .int .u64 150] 106 (0, 0))]) (fun _ => []) (fun _ => by kernel_rfl) (fun _ => ?_)
  refine WP.done ?_
  refine WP.keep [true, false, false] (by kernel_rfl : _ = [(b_0, .cells #[.int .i64 r3] 30 (0, 0))]) ?_
  obtain rfl := Option.some.inj hM
  exact WP.ret [] [] (.bool r2) (by kernel_rfl) (fun w' hw => ⟨(), rfl, hw.pick [0] (by kernel_rfl)⟩)

end Go.Proofs.YtbodofjnfmjbpaaGreatDoor

namespace Go.Proofs.YtbodofjnfmjbpaaGreatDoor
open Go Eng
set_option linter.unusedVariables false
set_option linter.unusedSimpArgs false

/-! ### gangway/inet.number: function 112 -/
def inet_number.f (a0 : inet_odd) : Option (Int) :=
  (errors_As_2.f a0 0).bind fun (r2, r3) =>
  bif r2 then
    some r3
  else
    some 0

set_option maxRecDepth 100000 in
theorem inet_number_calls (a0 : inet_odd) (r : Int) (h : inet_number.f a0 = some r) : Pure Tryz.prog Glob 112 #[.iface 188 (.agg #[.int .i64 a0.err])] (.int .i64 r) := by
  intro w Z hS
  refine calls_of (args := [.iface 188 (.agg #[.int .i64 a0.err])]) (L := [(0, .iface 188 (.agg #[.int .i64 a0.err]))]) (N := 8) (S := Sat w Z [] [] Glob) Tryz.func112 rfl rfl (Nat.le_of_ble_eq_true rfl) rfl hS ?_
  have hM := h
  clear h hS
  unfold inet_number.f at hM
  refine WP.seq ?_
  refine WP.run [] [0, 2] (fun _ => [(0, .iface 188 (.agg #[.int .i64 a0.err])), (2, .int .i64 0)]) (fun _ => []) (fun _ => []) (fun _ => by kernel_rfl) (fun _ => ?_)
  refine WP.seq ?_
  refine WP.run [] [0, 2, 3] (fun b1 => [(0, .iface 188 (.agg #[.int .i64 a0.err])), (2, .int .i64 0), (3, .pointer (some ⟨b1, 0, none⟩))]) (fun b1 => [(b1, .cells #[.int .i64 0] 30 (0, 0))]) (fun b1 => []) (fun b1 => by kernel_rfl) (fun b1 => ?_)
  refine WP.seq ?_
  refine WP.seq ?_
  refine WP.region ?_
  refine WL.run 2 [] [2, 3, 4, 5] (fun _ => [(2, .int .i64 0), (3, .pointer (some ⟨b1, 0, none⟩)), (4, .iface 188 (.agg #[.int .i64 a0.err])), (5, .iface 175 (.pointer (some ⟨b1, 0, none⟩)))]) (fun _ => [(b1, .cells #[.int .i64 0] 30 (0, 0))]) (fun _ => []) (fun _ => by kernel_rfl) (fun _ => ?_)
  obtain ⟨⟨r2, r3⟩, h4, hM⟩ := bind_some hM
  dsimp only at hM
  refine WL.callE (X := Unit) [] [] [true] (fun _ => _) (errors_As_2_calls b1 a0 0 _ h4) rfl rfl (fun _ h => h) (by kernel_rfl) (by kernel_rfl) (fun _ => rfl) (fun _ => ?_)
  refine WP.done ?_
  refine WP.cond r2 rfl rfl (fun c5 => ?_) (fun c5 => ?_)
  · replace hM := cond_t hM c5
    refine WP.seq ?_
    refine WP.run [0] [2] (fun _ => [(2, .int .i64 r3)]) (fun _ => [(b1, .cells #[.int .i64 r3] 30 (0, 0))]) (fun _ => [b1]) (fun _ => by kernel_rfl) (fun _ => ?_)
    refine WP.keep [false] (by kernel_rfl : _ = []) ?_
    obtain rfl := Option.some.inj hM
    exact WP.ret [] [] (.int .i64 r3) (by kernel_rfl) (fun w' hw => ⟨rfl, hw.pick [] rfl⟩)
  · replace hM := cond_f hM c5
    refine WP.skip ?_
    refine WP.seq ?_
    refine WP.run [] [2] (fun _ => [(2, .int .i64 0)]) (fun _ => [(b1, .cells #[.int .i64 r3] 30 (0, 0))]) (fun _ => []) (fun _ => by kernel_rfl) (fun _ => ?_)
    refine WP.keep [false] (by kernel_rfl : _ = []) ?_
    obtain rfl := Option.some.inj hM
    exact WP.ret [] [] (.int .i64 0) (by kernel_rfl) (fun w' hw => ⟨rfl, hw.pick [] rfl⟩)

end Go.Proofs.YtbodofjnfmjbpaaGreatDoor

namespace Go.Proofs.YtbodofjnfmjbpaaGreatDoor
open Go Eng
set_option linter.unusedVariables false
set_option linter.unusedSimpArgs false

/-! ### gangway/inet.Parse: function 89 -/
def inet_Parse.f (k : Nat) (a0 : ByteArray) : Option (api_Ip × Int) :=
  (inet_read.f k a0).bind fun (r2, r3) =>
  match r3 with
  | none =>
    some (r2, 0)
  | some q6 =>
    (inet_number.f q6).bind fun r7 =>
    some ((api_Ip.mk 0 0 false false 0 0 0 0 0 (⟨#[]⟩ : ByteArray)), r7)

set_option maxRecDepth 100000 in
theorem inet_Parse_calls (k : Nat) (a0 : ByteArray) (r : api_Ip × Int) (h : inet_Parse.f k a0 = some r) : Pure Tryz.prog Glob 89 #[.string a0] (.tuple #[.agg #[.int .i64 r.1.Tos, .int .i64 r.1.Id, .bool r.1.Whole, .bool r.1.More, .int .i64 r.1.Off, .int .i64 r.1.Ttl, .int .i64 r.1.Proto, .int .u32 r.1.Src, .int .u32 r.1.Dst, .string r.1.Body], .int .i64 r.2]) := by
  intro w Z hS
  refine calls_of (args := [.string a0]) (L := [(0, .string a0)]) (N := 17) (S := Sat w Z [] [] Glob) Tryz.func89 rfl rfl (Nat.le_of_ble_eq_true rfl) rfl hS ?_
  have hM := h
  clear h hS
  unfold inet_Parse.f at hM
  refine WP.seq ?_
  refine WP.run [] [0, 2, 3] (fun b1 => [(0, .string a0), (2, .pointer (some ⟨b1, 0, none⟩)), (3, .int .i64 0)]) (fun b1 => [(b1, .cells #[.int .i64 0, .int .i64 0, .bool false, .bool false, .int .i64 0, .int .i64 0, .int .i64 0, .int .u32 0, .int .u32 0, .string (⟨#[]⟩ : ByteArray)] 91 (0, 0))]) (fun b1 => []) (fun b1 => by kernel_rfl) (fun b1 => ?_)
  refine WP.seq ?_
  refine WP.region ?_
  refine WL.run 1 [] [2, 3, 7] (fun _ => [(2, .pointer (some ⟨b1, 0, none⟩)), (3, .int .i64 0), (7, .string a0)]) (fun _ => [(b1, .cells #[.int .i64 0, .int .i64 0, .bool false, .bool false, .int .i64 0, .int .i64 0, .int .i64 0, .int .u32 0, .int .u32 0, .string (⟨#[]⟩ : ByteArray)] 91 (0, 0))]) (fun _ => []) (fun _ => by kernel_rfl) (fun _ => ?_)
  obtain ⟨⟨r2, r3⟩, h4, hM⟩ := bind_some hM
  dsimp only at hM
  refine WL.callP [] [] (inet_read_calls k a0 _ h4) (fun _ h => h) (by kernel_rfl) (by kernel_rfl) rfl ?_
  refine WL.run 6 [1, 1, 1, 1, 1, 1, 1, 1, 1, 1] [2, 3, 4, 5] (fun b5 => [(2, .pointer (some ⟨b1, 0, none⟩)), (3, .int .i64 0), (4, .pointer (some ⟨b5, 0, none⟩)), (5, Un3.v r3)]) (fun b5 => [(b1, .cells #[.int .i64 0, .int .i64 0, .bool false, .bool false, .int .i64 0, .int .i64 0, .int .i64 0, .int .u32 0, .int .u32 0, .string (⟨#[]⟩ : ByteArray)] 91 (0, 0)), (b5, .cells #[.int .i64 r2.Tos, .int .i64 r2.Id, .bool r2.Whole, .bool r2.More, .int .i64 r2.Off, .int .i64 r2.Ttl, .int .i64 r2.Proto, .int .u32 r2.Src, .int .u32 r2.Dst, .string r2.Body] 91 (0, 0))]) (fun b5 => [b5, b5, b5, b5, b5, b5, b5, b5, b5, b5]) (fun b5 => by kernel_rfl) (fun b5 => ?_)
  refine WP.done ?_
  refine WP.seq ?_
  refine WP.seq ?_
  refine WP.region ?_
  refine WL.run 1 [] [2, 3, 4, 5, 11] (fun _ => [(2, .pointer (some ⟨b1, 0, none⟩)), (3, .int .i64 0), (4, .pointer (some ⟨b5, 0, none⟩)), (5, Un3.v r3), (11, Un3.v r3)]) (fun _ => [(b1, .cells #[.int .i64 0, .int .i64 0, .bool false, .bool false, .int .i64 0, .int .i64 0, .int .i64 0, .int .u32 0, .int .u32 0, .string (⟨#[]⟩ : ByteArray)] 91 (0, 0)), (b5, .cells #[.int .i64 r2.Tos, .int .i64 r2.Id, .bool r2.Whole, .bool r2.More, .int .i64 r2.Off, .int .i64 r2.Ttl, .int .i64 r2.Proto, .int .u32 r2.Src, .int .u32 r2.Dst, .string r2.Body] 91 (0, 0))]) (fun _ => []) (fun _ => by kernel_rfl) (fun _ => ?_)
  rcases r3 with _ | q6
  · dsimp only at hM
    refine WL.run 1 [] [2, 3, 4, 5, 12] (fun _ => [(2, .pointer (some ⟨b1, 0, none⟩)), (3, .int .i64 0), (4, .pointer (some ⟨b5, 0, none⟩)), (5, .nilIface), (12, .bool false)]) (fun _ => [(b1, .cells #[.int .i64 0, .int .i64 0, .bool false, .bool false, .int .i64 0, .int .i64 0, .int .i64 0, .int .u32 0, .int .u32 0, .string (⟨#[]⟩ : ByteArray)] 91 (0, 0)), (b5, .cells #[.int .i64 r2.Tos, .int .i64 r2.Id, .bool r2.Whole, .bool r2.More, .int .i64 r2.Off, .int .i64 r2.Ttl, .int .i64 r2.Proto, .int .u32 r2.Src, .int .u32 r2.Dst, .string r2.Body] 91 (0, 0))]) (fun _ => []) (fun _ => by kernel_rfl) (fun _ => ?_)
    refine WP.done ?_
    refine WP.no rfl rfl ?_
    refine WP.skip ?_
    refine WP.seq ?_
    refine WP.run [1, 1, 1, 1, 1, 1, 1, 1, 1, 1, 0, 0, 0, 0, 0, 0, 0, 0, 0, 0] [2, 3] (fun _ => [(2, .pointer (some ⟨b1, 0, none⟩)), (3, .int .i64 0)]) (fun _ => [(b1, .cells #[.int .i64 r2.Tos, .int .i64 r2.Id, .bool r2.Whole, .bool r2.More, .int .i64 r2.Off, .int .i64 r2.Ttl, .int .i64 r2.Proto, .int .u32 r2.Src, .int .u32 r2.Dst, .string r2.Body] 91 (0, 0)), (b5, .cells #[.int .i64 r2.Tos, .int .i64 r2.Id, .bool r2.Whole, .bool r2.More, .int .i64 r2.Off, .int .i64 r2.Ttl, .int .i64 r2.Proto, .int .u32 r2.Src, .int .u32 r2.Dst, .string r2.Body] 91 (0, 0))]) (fun _ => [b1, b1, b1, b1, b1, b1, b1, b1, b1, b1, b5, b5, b5, b5, b5, b5, b5, b5, b5, b5]) (fun _ => by kernel_rfl) (fun _ => ?_)
    refine WP.keep [true, false] (by kernel_rfl : _ = [(b1, .cells #[.int .i64 r2.Tos, .int .i64 r2.Id, .bool r2.Whole, .bool r2.More, .int .i64 r2.Off, .int .i64 r2.Ttl, .int .i64 r2.Proto, .int .u32 r2.Src, .int .u32 r2.Dst, .string r2.Body] 91 (0, 0))]) ?_
    obtain rfl := Option.some.inj hM
    exact WP.ret [0, 0, 0, 0, 0, 0, 0, 0, 0, 0] [b1, b1, b1, b1, b1, b1, b1, b1, b1, b1] (.tuple #[.agg #[.int .i64 r2.Tos, .int .i64 r2.Id, .bool r2.Whole, .bool r2.More, .int .i64 r2.Off, .int .i64 r2.Ttl, .int .i64 r2.Proto, .int .u32 r2.Src, .int .u32 r2.Dst, .string r2.Body], .int .i64 0]) (by kernel_rfl) (fun w' hw => ⟨rfl, hw.pick [] rfl⟩)
  · dsimp only at hM
    refine WL.run 1 [] [2, 3, 4, 5, 12] (fun _ => [(2, .pointer (some ⟨b1, 0, none⟩)), (3, .int .i64 0), (4, .pointer (some ⟨b5, 0, none⟩)), (5, .iface 188 (.agg #[.int .i64 q6.err])), (12, .bool true)]) (fun _ => [(b1, .cells #[.int .i64 0, .int .i64 0, .bool false, .bool false, .int .i64 0, .int .i64 0, .int .i64 0, .int .u32 0, .int .u32 0, .string (⟨#[]⟩ : ByteArray)] 91 (0, 0)), (b5, .cells #[.int .i64 r2.Tos, .int .i64 r2.Id, .bool r2.Whole, .bool r2.More, .int .i64 r2.Off, .int .i64 r2.Ttl, .int .i64 r2.Proto, .int .u32 r2.Src, .int .u32 r2.Dst, .string r2.Body] 91 (0, 0))]) (fun _ => []) (fun _ => by kernel_rfl) (fun _ => ?_)
    refine WP.done ?_
    refine WP.yes rfl rfl ?_
    refine WP.seq ?_
    refine WP.region ?_
    refine WL.run 2 [] [2, 3, 4, 13, 14] (fun _ => [(2, .pointer (some ⟨b1, 0, none⟩)), (3, .int .i64 0), (4, .pointer (some ⟨b5, 0, none⟩)), (13, .agg #[.int .i64 0, .int .i64 0, .bool false, .bool false, .int .i64 0, .int .i64 0, .int .i64 0, .int .u32 0, .int .u32 0, .string (⟨#[]⟩ : ByteArray)]), (14, .iface 188 (.agg #[.int .i64 q6.err]))]) (fun _ => [(b1, .cells #[.int .i64 0, .int .i64 0, .bool false, .bool false, .int .i64 0, .int .i64 0, .int .i64 0, .int .u32 0, .int .u32 0, .string (⟨#[]⟩ : ByteArray)] 91 (0, 0)), (b5, .cells #[.int .i64 r2.Tos, .int .i64 r2.Id, .bool r2.Whole, .bool r2.More, .int .i64 r2.Off, .int .i64 r2.Ttl, .int .i64 r2.Proto, .int .u32 r2.Src, .int .u32 r2.Dst, .string r2.Body] 91 (0, 0))]) (fun _ => []) (fun _ => by kernel_rfl) (fun _ => ?_)
    obtain ⟨r7, h8, hM⟩ := bind_some hM
    refine WL.callP [] [] (inet_number_calls q6 _ h8) (fun _ h => h) (by kernel_rfl) (by kernel_rfl) rfl ?_
    refine WL.run 2 [0, 0, 0, 0, 0, 0, 0, 0, 0, 0] [2, 3, 4] (fun _ => [(2, .pointer (some ⟨b1, 0, none⟩)), (3, .int .i64 r7), (4, .pointer (some ⟨b5, 0, none⟩))]) (fun _ => [(b1, .cells #[.int .i64 0, .int .i64 0, .bool false, .bool false, .int .i64 0, .int .i64 0, .int .i64 0, .int .u32 0, .int .u32 0, .string (⟨#[]⟩ : ByteArray)] 91 (0, 0)), (b5, .cells #[.int .i64 r2.Tos, .int .i64 r2.Id, .bool r2.Whole, .bool r2.More, .int .i64 r2.Off, .int .i64 r2.Ttl, .int .i64 r2.Proto, .int .u32 r2.Src, .int .u32 r2.Dst, .string r2.Body] 91 (0, 0))]) (fun _ => [b1, b1, b1, b1, b1, b1, b1, b1, b1, b1]) (fun _ => by kernel_rfl) (fun _ => ?_)
    refine WP.done ?_
    obtain rfl := Option.some.inj hM
    exact WP.ret [0, 0, 0, 0, 0, 0, 0, 0, 0, 0] [b1, b1, b1, b1, b1, b1, b1, b1, b1, b1] (.tuple #[.agg #[.int .i64 0, .int .i64 0, .bool false, .bool false, .int .i64 0, .int .i64 0, .int .i64 0, .int .u32 0, .int .u32 0, .string (⟨#[]⟩ : ByteArray)], .int .i64 r7]) (by kernel_rfl) (fun w' hw => ⟨rfl, hw.pick [] rfl⟩)

end Go.Proofs.YtbodofjnfmjbpaaGreatDoor

namespace Go.Proofs.YtbodofjnfmjbpaaGreatDoor
open Go Eng
set_option linter.unusedVariables false
set_option linter.unusedSimpArgs false

/-! ### gangway/inet.Part: function 90 -/
def inet_Part.f (a0 : api_Ip) : Option (Bool) :=
  some (a0.More || (decide (a0.Off > 0)))

set_option maxRecDepth 100000 in
theorem inet_Part_calls (a0 : api_Ip) (r : Bool) (h : inet_Part.f a0 = some r) : Pure Tryz.prog Glob 90 #[.agg #[.int .i64 a0.Tos, .int .i64 a0.Id, .bool a0.Whole, .bool a0.More, .int .i64 a0.Off, .int .i64 a0.Ttl, .int .i64 a0.Proto, .int .u32 a0.Src, .int .u32 a0.Dst, .string a0.Body]] (.bool r) := by
  intro w Z hS
  refine calls_of (args := [.agg #[.int .i64 a0.Tos, .int .i64 a0.Id, .bool a0.Whole, .bool a0.More, .int .i64 a0.Off, .int .i64 a0.Ttl, .int .i64 a0.Proto, .int .u32 a0.Src, .int .u32 a0.Dst, .string a0.Body]]) (L := [(0, .agg #[.int .i64 a0.Tos, .int .i64 a0.Id, .bool a0.Whole, .bool a0.More, .int .i64 a0.Off, .int .i64 a0.Ttl, .int .i64 a0.Proto, .int .u32 a0.Src, .int .u32 a0.Dst, .string a0.Body])]) (N := 10) (S := Sat w Z [] [] Glob) Tryz.func90 rfl rfl (Nat.le_of_ble_eq_true rfl) rfl hS ?_
  have hM := h
  clear h hS
  unfold inet_Part.f at hM
  refine WP.seq ?_
  refine WP.run [] [1, 2] (fun b1 => [(1, .pointer (some ⟨b1, 0, none⟩)), (2, .bool false)]) (fun b1 => [(b1, .cells #[.int .i64 a0.Tos, .int .i64 a0.Id, .bool a0.Whole, .bool a0.More, .int .i64 a0.Off, .int .i64 a0.Ttl, .int .i64 a0.Proto, .int .u32 a0.Src, .int .u32 a0.Dst, .string a0.Body] 91 (0, 0))]) (fun b1 => []) (fun b1 => by kernel_rfl) (fun b1 => ?_)
  refine WP.seq ?_
  refine WP.region ?_
  refine WL.run 3 [0] [1, 2, 5] (fun _ => [(1, .pointer (some ⟨b1, 0, none⟩)), (2, .bool false), (5, .bool a0.More)]) (fun _ => [(b1, .cells #[.int .i64 a0.Tos, .int .i64 a0.Id, .bool a0.Whole, .bool a0.More, .int .i64 a0.Off, .int .i64 a0.Ttl, .int .i64 a0.Proto, .int .u32 a0.Src, .int .u32 a0.Dst, .string a0.Body] 91 (0, 0))]) (fun _ => [b1]) (fun _ => by kernel_rfl) (fun _ => ?_)
  refine WL.sub [1, 2, 5] (L' := [(1, .pointer (some ⟨b1, 0, none⟩)), (2, .bool false), (5, .bool a0.More)]) (by kernel_rfl) ?_
  refine WL.both (fun b' => [(1, .pointer (some ⟨b1, 0, none⟩)), (2, .bool false), (5, .bool b')]) a0.More 4 [] [0] [2, 9] (fun b' => [(2, .bool false), (9, .bool (b' || (decide (a0.Off > 0))))]) [] [b1] (fun _ => by kernel_rfl) (fun _ => by kernel_rfl) ?_
  refine WL.run 1 [] [2] (fun _ => [(2, .bool (a0.More || (decide (a0.Off > 0))))]) (fun _ => [(b1, .cells #[.int .i64 a0.Tos, .int .i64 a0.Id, .bool a0.Whole, .bool a0.More, .int .i64 a0.Off, .int .i64 a0.Ttl, .int .i64 a0.Proto, .int .u32 a0.Src, .int .u32 a0.Dst, .string a0.Body] 91 (0, 0))]) (fun _ => []) (fun _ => by kernel_rfl) (fun _ => ?_)
  refine WP.done ?_
  refine WP.keep [false] (by kernel_rfl : _ = []) ?_
  obtain rfl := Option.some.inj hM
  exact WP.ret [] [] (.bool (a0.More || (decide (a0.Off > 0)))) (by kernel_rfl) (fun w' hw => ⟨rfl, hw.pick [] rfl⟩)

end Go.Proofs.YtbodofjnfmjbpaaGreatDoor

namespace Go.Proofs.YtbodofjnfmjbpaaGreatDoor
open Go Eng
set_option linter.unusedVariables false
set_option linter.unusedSimpArgs false

/-! ### gangway/station.packet: function 57 -/
def station_packet.f (k : Nat) (a0 : Int) (a1 : ByteArray) : Option (api_Ip × Un2) :=
  (inet_Parse.f k a1).bind fun (r2, r3) =>
  bif ((r3 != 0) || (r2.Ttl == 0)) then
    (station_not.f (⟨#[112, 97, 99, 107, 101, 116]⟩ : ByteArray) 4).bind fun r8 =>
    some (r2, some (r8.1, r8.2))
  else
    bif (r2.Dst != a0) then
      (station_not.f (⟨#[112, 97, 99, 107, 101, 116]⟩ : ByteArray) 2).bind fun r12 =>
      some (r2, some (r12.1, r12.2))
    else
      (inet_Part.f r2).bind fun r14 =>
      bif r14 then
        (station_not.f (⟨#[112, 97, 99, 107, 101, 116]⟩ : ByteArray) 5).bind fun r18 =>
        some (r2, some (r18.1, r18.2))
      else
        some (r2, none)

set_option maxRecDepth 100000 in
theorem station_packet_calls (k : Nat) (a0 : Int) (a1 : ByteArray) (r : api_Ip × Un2) (h : station_packet.f k a0 a1 = some r) : Pure Tryz.prog Glob 57 #[.int .u32 a0, .string a1] (.tuple #[.agg #[.int .i64 r.1.Tos, .int .i64 r.1.Id, .bool r.1.Whole, .bool r.1.More, .int .i64 r.1.Off, .int .i64 r.1.Ttl, .int .i64 r.1.Proto, .int .u32 r.1.Src, .int .u32 r.1.Dst, .string r.1.Body], Un2.v r.2]) := by
  intro w Z hS
  refine calls_of (args := [.int .u32 a0, .string a1]) (L := [(0, .int .u32 a0), (1, .string a1)]) (N := 36) (S := Sat w Z [] [] Glob) Tryz.func57 rfl rfl (Nat.le_of_ble_eq_true rfl) rfl hS ?_
  have hM := h
  clear h hS
  unfold station_packet.f at hM
  refine WP.seq ?_
  refine WP.run [] [0, 1, 4, 5] (fun b1 => [(0, .int .u32 a0), (1, .string a1), (4, .pointer (some ⟨b1, 0, none⟩)), (5, .nilIface)]) (fun b1 => [(b1, .cells #[.int .i64 0, .int .i64 0, .bool false, .bool false, .int .i64 0, .int .i64 0, .int .i64 0, .int .u32 0, .int .u32 0, .string (⟨#[]⟩ : ByteArray)] 91 (0, 0))]) (fun b1 => []) (fun b1 => by kernel_rfl) (fun b1 => ?_)
  refine WP.seq ?_
  refine WP.region ?_
  refine WL.run 1 [] [0, 4, 5, 9] (fun _ => [(0, .int .u32 a0), (4, .pointer (some ⟨b1, 0, none⟩)), (5, .nilIface), (9, .string a1)]) (fun _ => [(b1, .cells #[.int .i64 0, .int .i64 0, .bool false, .bool false, .int .i64 0, .int .i64 0, .int .i64 0, .int .u32 0, .int .u32 0, .string (⟨#[]⟩ : ByteArray)] 91 (0, 0))]) (fun _ => []) (fun _ => by kernel_rfl) (fun _ => ?_)
  obtain ⟨⟨r2, r3⟩, h4, hM⟩ := bind_some hM
  dsimp only at hM
  refine WL.callP [] [] (inet_Parse_calls k a1 _ h4) (fun _ h => h) (by kernel_rfl) (by kernel_rfl) rfl ?_
  refine WL.run 6 [1, 1, 1, 1, 1, 1, 1, 1, 1, 1] [0, 4, 5, 6, 7] (fun b5 => [(0, .int .u32 a0), (4, .pointer (some ⟨b1, 0, none⟩)), (5, .nilIface), (6, .pointer (some ⟨b5, 0, none⟩)), (7, .int .i64 r3)]) (fun b5 => [(b1, .cells #[.int .i64 0, .int .i64 0, .bool false, .bool false, .int .i64 0, .int .i64 0, .int .i64 0, .int .u32 0, .int .u32 0, .string (⟨#[]⟩ : ByteArray)] 91 (0, 0)), (b5, .cells #[.int .i64 r2.Tos, .int .i64 r2.Id, .bool r2.Whole, .bool r2.More, .int .i64 r2.Off, .int .i64 r2.Ttl, .int .i64 r2.Proto, .int .u32 r2.Src, .int .u32 r2.Dst, .string r2.Body] 91 (0, 0))]) (fun b5 => [b5, b5, b5, b5, b5, b5, b5, b5, b5, b5]) (fun b5 => by kernel_rfl) (fun b5 => ?_)
  refine WP.done ?_
  refine WP.seq ?_
  refine WP.block ?_
  refine WP.seq ?_
  refine WP.region ?_
  refine WL.run 3 [] [0, 4, 5, 6, 16] (fun _ => [(0, .int .u32 a0), (4, .pointer (some ⟨b1, 0, none⟩)), (5, .nilIface), (6, .pointer (some ⟨b5, 0, none⟩)), (16, .bool (r3 != 0))]) (fun _ => [(b1, .cells #[.int .i64 0, .int .i64 0, .bool false, .bool false, .int .i64 0, .int .i64 0, .int .i64 0, .int .u32 0, .int .u32 0, .string (⟨#[]⟩ : ByteArray)] 91 (0, 0)), (b5, .cells #[.int .i64 r2.Tos, .int .i64 r2.Id, .bool r2.Whole, .bool r2.More, .int .i64 r2.Off, .int .i64 r2.Ttl, .int .i64 r2.Proto, .int .u32 r2.Src, .int .u32 r2.Dst, .string r2.Body] 91 (0, 0))]) (fun _ => []) (fun _ => by kernel_rfl) (fun _ => ?_)
  refine WL.sub [0, 4, 5, 6, 16] (L' := [(0, .int .u32 a0), (4, .pointer (some ⟨b1, 0, none⟩)), (5, .nilIface), (6, .pointer (some ⟨b5, 0, none⟩)), (16, .bool (r3 != 0))]) (by kernel_rfl) ?_
  refine WL.both (fun b' => [(0, .int .u32 a0), (4, .pointer (some ⟨b1, 0, none⟩)), (5, .nilIface), (6, .pointer (some ⟨b5, 0, none⟩)), (16, .bool b')]) (r3 != 0) 4 [] [1] [0, 4, 5, 6, 20] (fun b' => [(0, .int .u32 a0), (4, .pointer (some ⟨b1, 0, none⟩)), (5, .nilIface), (6, .pointer (some ⟨b5, 0, none⟩)), (20, .bool (b' || (r2.Ttl == 0)))]) [] [b5] (fun _ => by kernel_rfl) (fun _ => by kernel_rfl) ?_
  refine WL.run 1 [] [0, 4, 5, 6, 13] (fun _ => [(0, .int .u32 a0), (4, .pointer (some ⟨b1, 0, none⟩)), (5, .nilIface), (6, .pointer (some ⟨b5, 0, none⟩)), (13, .bool ((r3 != 0) || (r2.Ttl == 0)))]) (fun _ => [(b1, .cells #[.int .i64 0, .int .i64 0, .bool false, .bool false, .int .i64 0, .int .i64 0, .int .i64 0, .int .u32 0, .int .u32 0, .string (⟨#[]⟩ : ByteArray)] 91 (0, 0)), (b5, .cells #[.int .i64 r2.Tos, .int .i64 r2.Id, .bool r2.Whole, .bool r2.More, .int .i64 r2.Off, .int .i64 r2.Ttl, .int .i64 r2.Proto, .int .u32 r2.Src, .int .u32 r2.Dst, .string r2.Body] 91 (0, 0))]) (fun _ => []) (fun _ => by kernel_rfl) (fun _ => ?_)
  refine WP.done ?_
  refine WP.cond ((r3 != 0) || (r2.Ttl == 0)) rfl rfl (fun c6 => ?_) (fun c6 => ?_)
  · replace hM := cond_t hM c6
    refine WP.seq ?_
    obtain ⟨r8, h9, hM⟩ := bind_some hM
    refine WP.sub [4, 5, 6] (L' := [(4, .pointer (some ⟨b1, 0, none⟩)), (5, .nilIface), (6, .pointer (some ⟨b5, 0, none⟩))]) (by kernel_rfl) ?_
    refine WP.mixed (X := Unit) 2 [.val (.agg #[.int .i64 r2.Tos, .int .i64 r2.Id, .bool r2.Whole, .bool r2.More, .int .i64 r2.Off, .int .i64 r2.Ttl, .int .i64 r2.Proto, .int .u32 r2.Src, .int .u32 r2.Dst, .string r2.Body]), .val (.iface 138 (.agg #[.string r8.1, .iface 80 (.agg #[.int .i64 r8.2.n])]))] [(b1, .cells #[.int .i64 0, .int .i64 0, .bool false, .bool false, .int .i64 0, .int .i64 0, .int .i64 0, .int .u32 0, .int .u32 0, .string (⟨#[]⟩ : ByteArray)] 91 (0, 0)), (b5, .cells #[.int .i64 r2.Tos, .int .i64 r2.Id, .bool r2.Whole, .bool r2.More, .int .i64 r2.Off, .int .i64 r2.Ttl, .int .i64 r2.Proto, .int .u32 r2.Src, .int .u32 r2.Dst, .string r2.Body] 91 (0, 0))] [] (by kernel_rfl) (by kernel_rfl) (by kernel_rfl) (by kernel_rfl) (Heads.val (fun tt Ψ => OpV.run [1, 1, 1, 1, 1, 1, 1, 1, 1, 1] [b5, b5, b5, b5, b5, b5, b5, b5, b5, b5] (by kernel_rfl) (fun _ => by kernel_rfl)) (Heads.val (fun tt Ψ => OpV.callF [] [] (fun _ h => (List.mem_append_right _ h)) (station_not_calls (⟨#[112, 97, 99, 107, 101, 116]⟩ : ByteArray) 4 _ h9)  (fun _ => by kernel_rfl)) Heads.nil)) (fun s7 tt => [(21, .agg #[.int .i64 r2.Tos, .int .i64 r2.Id, .bool r2.Whole, .bool r2.More, .int .i64 r2.Off, .int .i64 r2.Ttl, .int .i64 r2.Proto, .int .u32 r2.Src, .int .u32 r2.Dst, .string r2.Body]), (22, .iface 138 (.agg #[.string r8.1, .iface 80 (.agg #[.int .i64 r8.2.n])])), (4, .pointer (some ⟨b1, 0, none⟩)), (5, .nilIface), (6, .pointer (some ⟨b5, 0, none⟩))]) (fun s7 tt => [(b1, .cells #[.int .i64 0, .int .i64 0, .bool false, .bool false, .int .i64 0, .int .i64 0, .int .i64 0, .int .u32 0, .int .u32 0, .string (⟨#[]⟩ : ByteArray)] 91 (0, 0)), (b5, .cells #[.int .i64 r2.Tos, .int .i64 r2.Id, .bool r2.Whole, .bool r2.More, .int .i64 r2.Off, .int .i64 r2.Ttl, .int .i64 r2.Proto, .int .u32 r2.Src, .int .u32 r2.Dst, .string r2.Body] 91 (0, 0))]) (fun tt => Glob) (fun _ _ => by kernel_rfl) (fun _ _ => by kernel_rfl) (fun _ => by kernel_rfl) (fun s7 tt => ?_)
    refine WL.run 2 [0, 0, 0, 0, 0, 0, 0, 0, 0, 0] [4, 5, 6] (fun _ => [(4, .pointer (some ⟨b1, 0, none⟩)), (5, .iface 138 (.agg #[.string r8.1, .iface 80 (.agg #[.int .i64 r8.2.n])])), (6, .pointer (some ⟨b5, 0, none⟩))]) (fun _ => [(b1, .cells #[.int .i64 r2.Tos, .int .i64 r2.Id, .bool r2.Whole, .bool r2.More, .int .i64 r2.Off, .int .i64 r2.Ttl, .int .i64 r2.Proto, .int .u32 r2.Src, .int .u32 r2.Dst, .string r2.Body] 91 (0, 0)), (b5, .cells #[.int .i64 r2.Tos, .int .i64 r2.Id, .bool r2.Whole, .bool r2.More, .int .i64 r2.Off, .int .i64 r2.Ttl, .int .i64 r2.Proto, .int .u32 r2.Src, .int .u32 r2.Dst, .string r2.Body] 91 (0, 0))]) (fun _ => [b1, b1, b1, b1, b1, b1, b1, b1, b1, b1]) (fun _ => by kernel_rfl) (fun _ => ?_)
    refine WP.done ?_
    obtain rfl := Option.some.inj hM
    exact WP.ret [0, 0, 0, 0, 0, 0, 0, 0, 0, 0] [b1, b1, b1, b1, b1, b1, b1, b1, b1, b1] (.tuple #[.agg #[.int .i64 r2.Tos, .int .i64 r2.Id, .bool r2.Whole, .bool r2.More, .int .i64 r2.Off, .int .i64 r2.Ttl, .int .i64 r2.Proto, .int .u32 r2.Src, .int .u32 r2.Dst, .string r2.Body], .iface 138 (.agg #[.string r8.1, .iface 80 (.agg #[.int .i64 r8.2.n])])]) (by kernel_rfl) (fun w' hw => ⟨rfl, hw.pick [] rfl⟩)
  · replace hM := cond_f hM c6
    refine WP.seq ?_
    refine WP.run [1] [4, 5, 6, 23] (fun _ => [(4, .pointer (some ⟨b1, 0, none⟩)), (5, .nilIface), (6, .pointer (some ⟨b5, 0, none⟩)), (23, .bool (r2.Dst != a0))]) (fun _ => [(b1, .cells #[.int .i64 0, .int .i64 0, .bool false, .bool false, .int .i64 0, .int .i64 0, .int .i64 0, .int .u32 0, .int .u32 0, .string (⟨#[]⟩ : ByteArray)] 91 (0, 0)), (b5, .cells #[.int .i64 r2.Tos, .int .i64 r2.Id, .bool r2.Whole, .bool r2.More, .int .i64 r2.Off, .int .i64 r2.Ttl, .int .i64 r2.Proto, .int .u32 r2.Src, .int .u32 r2.Dst, .string r2.Body] 91 (0, 0))]) (fun _ => [b5]) (fun _ => by kernel_rfl) (fun _ => ?_)
    refine WP.cond (r2.Dst != a0) rfl rfl (fun c10 => ?_) (fun c10 => ?_)
    · replace hM := cond_t hM c10
      refine WP.seq ?_
      obtain ⟨r12, h13, hM⟩ := bind_some hM
      refine WP.sub [4, 5, 6] (L' := [(4, .pointer (some ⟨b1, 0, none⟩)), (5, .nilIface), (6, .pointer (some ⟨b5, 0, none⟩))]) (by kernel_rfl) ?_
      refine WP.mixed (X := Unit) 2 [.val (.agg #[.int .i64 r2.Tos, .int .i64 r2.Id, .bool r2.Whole, .bool r2.More, .int .i64 r2.Off, .int .i64 r2.Ttl, .int .i64 r2.Proto, .int .u32 r2.Src, .int .u32 r2.Dst, .string r2.Body]), .val (.iface 138 (.agg #[.string r12.1, .iface 80 (.agg #[.int .i64 r12.2.n])]))] [(b1, .cells #[.int .i64 0, .int .i64 0, .bool false, .bool false, .int .i64 0, .int .i64 0, .int .i64 0, .int .u32 0, .int .u32 0, .string (⟨#[]⟩ : ByteArray)] 91 (0, 0)), (b5, .cells #[.int .i64 r2.Tos, .int .i64 r2.Id, .bool r2.Whole, .bool r2.More, .int .i64 r2.Off, .int .i64 r2.Ttl, .int .i64 r2.Proto, .int .u32 r2.Src, .int .u32 r2.Dst, .string r2.Body] 91 (0, 0))] [] (by kernel_rfl) (by kernel_rfl) (by kernel_rfl) (by kernel_rfl) (Heads.val (fun tt Ψ => OpV.run [1, 1, 1, 1, 1, 1, 1, 1, 1, 1] [b5, b5, b5, b5, b5, b5, b5, b5, b5, b5] (by kernel_rfl) (fun _ => by kernel_rfl)) (Heads.val (fun tt Ψ => OpV.callF [] [] (fun _ h => (List.mem_append_right _ h)) (station_not_calls (⟨#[112, 97, 99, 107, 101, 116]⟩ : ByteArray) 2 _ h13)  (fun _ => by kernel_rfl)) Heads.nil)) (fun s11 tt => [(28, .agg #[.int .i64 r2.Tos, .int .i64 r2.Id, .bool r2.Whole, .bool r2.More, .int .i64 r2.Off, .int .i64 r2.Ttl, .int .i64 r2.Proto, .int .u32 r2.Src, .int .u32 r2.Dst, .string r2.Body]), (29, .iface 138 (.agg #[.string r12.1, .iface 80 (.agg #[.int .i64 r12.2.n])])), (4, .pointer (some ⟨b1, 0, none⟩)), (5, .nilIface), (6, .pointer (some ⟨b5, 0, none⟩))]) (fun s11 tt => [(b1, .cells #[.int .i64 0, .int .i64 0, .bool false, .bool false, .int .i64 0, .int .i64 0, .int .i64 0, .int .u32 0, .int .u32 0, .string (⟨#[]⟩ : ByteArray)] 91 (0, 0)), (b5, .cells #[.int .i64 r2.Tos, .int .i64 r2.Id, .bool r2.Whole, .bool r2.More, .int .i64 r2.Off, .int .i64 r2.Ttl, .int .i64 r2.Proto, .int .u32 r2.Src, .int .u32 r2.Dst, .string r2.Body] 91 (0, 0))]) (fun tt => Glob) (fun _ _ => by kernel_rfl) (fun _ _ => by kernel_rfl) (fun _ => by kernel_rfl) (fun s11 tt => ?_)
      refine WL.run 2 [0, 0, 0, 0, 0, 0, 0, 0, 0, 0] [4, 5, 6] (fun _ => [(4, .pointer (some ⟨b1, 0, none⟩)), (5, .iface 138 (.agg #[.string r12.1, .iface 80 (.agg #[.int .i64 r12.2.n])])), (6, .pointer (some ⟨b5, 0, none⟩))]) (fun _ => [(b1, .cells #[.int .i64 r2.Tos, .int .i64 r2.Id, .bool r2.Whole, .bool r2.More, .int .i64 r2.Off, .int .i64 r2.Ttl, .int .i64 r2.Proto, .int .u32 r2.Src, .int .u32 r2.Dst, .string r2.Body] 91 (0, 0)), (b5, .cells #[.int .i64 r2.Tos, .int .i64 r2.Id, .bool r2.Whole, .bool r2.More, .int .i64 r2.Off, .int .i64 r2.Ttl, .int .i64 r2.Proto, .int .u32 r2.Src, .int .u32 r2.Dst, .string r2.Body] 91 (0, 0))]) (fun _ => [b1, b1, b1, b1, b1, b1, b1, b1, b1, b1]) (fun _ => by kernel_rfl) (fun _ => ?_)
      refine WP.done ?_
      obtain rfl := Option.some.inj hM
      exact WP.ret [0, 0, 0, 0, 0, 0, 0, 0, 0, 0] [b1, b1, b1, b1, b1, b1, b1, b1, b1, b1] (.tuple #[.agg #[.int .i64 r2.Tos, .int .i64 r2.Id, .bool r2.Whole, .bool r2.More, .int .i64 r2.Off, .int .i64 r2.Ttl, .int .i64 r2.Proto, .int .u32 r2.Src, .int .u32 r2.Dst, .string r2.Body], .iface 138 (.agg #[.string r12.1, .iface 80 (.agg #[.int .i64 r12.2.n])])]) (by kernel_rfl) (fun w' hw => ⟨rfl, hw.pick [] rfl⟩)
    · replace hM := cond_f hM c10
      refine WP.seq ?_
      refine WP.region ?_
      refine WL.run 1 [1, 1, 1, 1, 1, 1, 1, 1, 1, 1] [4, 5, 6, 31] (fun _ => [(4, .pointer (some ⟨b1, 0, none⟩)), (5, .nilIface), (6, .pointer (some ⟨b5, 0, none⟩)), (31, .agg #[.int .i64 r2.Tos, .int .i64 r2.Id, .bool r2.Whole, .bool r2.More, .int .i64 r2.Off, .int .i64 r2.Ttl, .int .i64 r2.Proto, .int .u32 r2.Src, .int .u32 r2.Dst, .string r2.Body])]) (fun _ => [(b1, .cells #[.int .i64 0, .int .i64 0, .bool false, .bool false, .int .i64 0, .int .i64 0, .int .i64 0, .int .u32 0, .int .u32 0, .string (⟨#[]⟩ : ByteArray)] 91 (0, 0)), (b5, .cells #[.int .i64 r2.Tos, .int .i64 r2.Id, .bool r2.Whole, .bool r2.More, .int .i64 r2.Off, .int .i64 r2.Ttl, .int .i64 r2.Proto, .int .u32 r2.Src, .int .u32 r2.Dst, .string r2.Body] 91 (0, 0))]) (fun _ => [b5, b5, b5, b5, b5, b5, b5, b5, b5, b5]) (fun _ => by kernel_rfl) (fun _ => ?_)
      obtain ⟨r14, h15, hM⟩ := bind_some hM
      refine WL.callP [] [] (inet_Part_calls r2 _ h15) (fun _ h => h) (by kernel_rfl) (by kernel_rfl) rfl ?_
      refine WL.run 1 [] [4, 5, 6, 30] (fun _ => [(4, .pointer (some ⟨b1, 0, none⟩)), (5, .nilIface), (6, .pointer (some ⟨b5, 0, none⟩)), (30, .bool r14)]) (fun _ => [(b1, .cells #[.int .i64 0, .int .i64 0, .bool false, .bool false, .int .i64 0, .int .i64 0, .int .i64 0, .int .u32 0, .int .u32 0, .string (⟨#[]⟩ : ByteArray)] 91 (0, 0)), (b5, .cells #[.int .i64 r2.Tos, .int .i64 r2.Id, .bool r2.Whole, .bool r2.More, .int .i64 r2.Off, .int .i64 r2.Ttl, .int .i64 r2.Proto, .int .u32 r2.Src, .int .u32 r2.Dst, .string r2.Body] 91 (0, 0))]) (fun _ => []) (fun _ => by kernel_rfl) (fun _ => ?_)
      refine WP.done ?_
      refine WP.cond r14 rfl rfl (fun c16 => ?_) (fun c16 => ?_)
      · replace hM := cond_t hM c16
        refine WP.seq ?_
        obtain ⟨r18, h19, hM⟩ := bind_some hM
        refine WP.sub [4, 5, 6] (L' := [(4, .pointer (some ⟨b1, 0, none⟩)), (5, .nilIface), (6, .pointer (some ⟨b5, 0, none⟩))]) (by kernel_rfl) ?_
        refine WP.mixed (X := Unit) 2 [.val (.agg #[.int .i64 r2.Tos, .int .i64 r2.Id, .bool r2.Whole, .bool r2.More, .int .i64 r2.Off, .int .i64 r2.Ttl, .int .i64 r2.Proto, .int .u32 r2.Src, .int .u32 r2.Dst, .string r2.Body]), .val (.iface 138 (.agg #[.string r18.1, .iface 80 (.agg #[.int .i64 r18.2.n])]))] [(b1, .cells #[.int .i64 0, .int .i64 0, .bool false, .bool false, .int .i64 0, .int .i64 0, .int .i64 0, .int .u32 0, .int .u32 0, .string (⟨#[]⟩ : ByteArray)] 91 (0, 0)), (b5, .cells #[.int .i64 r2.Tos, .int .i64 r2.Id, .bool r2.Whole, .bool r2.More, .int .i64 r2.Off, .int .i64 r2.Ttl, .int .i64 r2.Proto, .int .u32 r2.Src, .int .u32 r2.Dst, .string r2.Body] 91 (0, 0))] [] (by kernel_rfl) (by kernel_rfl) (by kernel_rfl) (by kernel_rfl) (Heads.val (fun tt Ψ => OpV.run [1, 1, 1, 1, 1, 1, 1, 1, 1, 1] [b5, b5, b5, b5, b5, b5, b5, b5, b5, b5] (by kernel_rfl) (fun _ => by kernel_rfl)) (Heads.val (fun tt Ψ => OpV.callF [] [] (fun _ h => (List.mem_append_right _ h)) (station_not_calls (⟨#[112, 97, 99, 107, 101, 116]⟩ : ByteArray) 5 _ h19)  (fun _ => by kernel_rfl)) Heads.nil)) (fun s17 tt => [(33, .agg #[.int .i64 r2.Tos, .int .i64 r2.Id, .bool r2.Whole, .bool r2.More, .int .i64 r2.Off, .int .i64 r2.Ttl, .int .i64 r2.Proto, .int .u32 r2.Src, .int .u32 r2.Dst, .string r2.Body]), (34, .iface 138 (.agg #[.string r18.1, .iface 80 (.agg #[.int .i64 r18.2.n])])), (4, .pointer (some ⟨b1, 0, none⟩)), (5, .nilIface), (6, .pointer (some ⟨b5, 0, none⟩))]) (fun s17 tt => [(b1, .cells #[.int .i64 0, .int .i64 0, .bool false, .bool false, .int .i64 0, .int .i64 0, .int .i64 0, .int .u32 0, .int .u32 0, .string (⟨#[]⟩ : ByteArray)] 91 (0, 0)), (b5, .cells #[.int .i64 r2.Tos, .int .i64 r2.Id, .bool r2.Whole, .bool r2.More, .int .i64 r2.Off, .int .i64 r2.Ttl, .int .i64 r2.Proto, .int .u32 r2.Src, .int .u32 r2.Dst, .string r2.Body] 91 (0, 0))]) (fun tt => Glob) (fun _ _ => by kernel_rfl) (fun _ _ => by kernel_rfl) (fun _ => by kernel_rfl) (fun s17 tt => ?_)
        refine WL.run 2 [0, 0, 0, 0, 0, 0, 0, 0, 0, 0] [4, 5, 6] (fun _ => [(4, .pointer (some ⟨b1, 0, none⟩)), (5, .iface 138 (.agg #[.string r18.1, .iface 80 (.agg #[.int .i64 r18.2.n])])), (6, .pointer (some ⟨b5, 0, none⟩))]) (fun _ => [(b1, .cells #[.int .i64 r2.Tos, .int .i64 r2.Id, .bool r2.Whole, .bool r2.More, .int .i64 r2.Off, .int .i64 r2.Ttl, .int .i64 r2.Proto, .int .u32 r2.Src, .int .u32 r2.Dst, .string r2.Body] 91 (0, 0)), (b5, .cells #[.int .i64 r2.Tos, .int .i64 r2.Id, .bool r2.Whole, .bool r2.More, .int .i64 r2.Off, .int .i64 r2.Ttl, .int .i64 r2.Proto, .int .u32 r2.Src, .int .u32 r2.Dst, .string r2.Body] 91 (0, 0))]) (fun _ => [b1, b1, b1, b1, b1, b1, b1, b1, b1, b1]) (fun _ => by kernel_rfl) (fun _ => ?_)
        refine WP.done ?_
        obtain rfl := Option.some.inj hM
        exact WP.ret [0, 0, 0, 0, 0, 0, 0, 0, 0, 0] [b1, b1, b1, b1, b1, b1, b1, b1, b1, b1] (.tuple #[.agg #[.int .i64 r2.Tos, .int .i64 r2.Id, .bool r2.Whole, .bool r2.More, .int .i64 r2.Off, .int .i64 r2.Ttl, .int .i64 r2.Proto, .int .u32 r2.Src, .int .u32 r2.Dst, .string r2.Body], .iface 138 (.agg #[.string r18.1, .iface 80 (.agg #[.int .i64 r18.2.n])])]) (by kernel_rfl) (fun w' hw => ⟨rfl, hw.pick [] rfl⟩)
      · replace hM := cond_f hM c16
        refine WP.skip ?_
        refine WP.leave ?_
        refine WP.seq ?_
        refine WP.run [1, 1, 1, 1, 1, 1, 1, 1, 1, 1, 0, 0, 0, 0, 0, 0, 0, 0, 0, 0] [4, 5] (fun _ => [(4, .pointer (some ⟨b1, 0, none⟩)), (5, .nilIface)]) (fun _ => [(b1, .cells #[.int .i64 r2.Tos, .int .i64 r2.Id, .bool r2.Whole, .bool r2.More, .int .i64 r2.Off, .int .i64 r2.Ttl, .int .i64 r2.Proto, .int .u32 r2.Src, .int .u32 r2.Dst, .string r2.Body] 91 (0, 0)), (b5, .cells #[.int .i64 r2.Tos, .int .i64 r2.Id, .bool r2.Whole, .bool r2.More, .int .i64 r2.Off, .int .i64 r2.Ttl, .int .i64 r2.Proto, .int .u32 r2.Src, .int .u32 r2.Dst, .string r2.Body] 91 (0, 0))]) (fun _ => [b1, b1, b1, b1, b1, b1, b1, b1, b1, b1, b5, b5, b5, b5, b5, b5, b5, b5, b5, b5]) (fun _ => by kernel_rfl) (fun _ => ?_)
        refine WP.keep [true, false] (by kernel_rfl : _ = [(b1, .cells #[.int .i64 r2.Tos, .int .i64 r2.Id, .bool r2.Whole, .bool r2.More, .int .i64 r2.Off, .int .i64 r2.Ttl, .int .i64 r2.Proto, .int .u32 r2.Src, .int .u32 r2.Dst, .string r2.Body] 91 (0, 0))]) ?_
        obtain rfl := Option.some.inj hM
        exact WP.ret [0, 0, 0, 0, 0, 0, 0, 0, 0, 0] [b1, b1, b1, b1, b1, b1, b1, b1, b1, b1] (.tuple #[.agg #[.int .i64 r2.Tos, .int .i64 r2.Id, .bool r2.Whole, .bool r2.More, .int .i64 r2.Off, .int .i64 r2.Ttl, .int .i64 r2.Proto, .int .u32 r2.Src, .int .u32 r2.Dst, .string r2.Body], .nilIface]) (by kernel_rfl) (fun w' hw => ⟨rfl, hw.pick [] rfl⟩)

end Go.Proofs.YtbodofjnfmjbpaaGreatDoor

namespace Go.Proofs.YtbodofjnfmjbpaaGreatDoor
open Go Eng
set_option linter.unusedVariables false
set_option linter.unusedSimpArgs false

/-! ### gangway/udp.wrong: function 113 -/
def udp_wrong.k1 (r2 : Int) (x21 : Bool) : Option (Int × Int) :=
  bif x21 then
    some (3, 0)
  else
    some (4, i64 r2)

def udp_wrong.f (k : Nat) (a0 : Int) (a1 : Int) (a2 : ByteArray) : Option (Int × Int) :=
  bif decide ((a2.size : Int) < 8) then
    some (0, 0)
  else
    (octets_Get.f k a2 4 2).bind fun (r2, r3) =>
    (octets_Get.f k a2 6 2).bind fun (r5, r6) =>
    bif decide ((i64 r2) < 8) then
      some (1, 0)
    else
      bif decide ((i64 r2) > (a2.size : Int)) then
        some (2, 0)
      else
        bif (r5 != 0) then
          (csum_Head.f k a0 a1 17 (i64 r2)).bind fun r13 =>
          (sliceS a2 0 (i64 r2)).bind fun t15 =>
          (csum_Right.f k ([r13, t15] : List ByteArray)).bind fun r18 =>
          udp_wrong.k1 r2 (!r18)
        else
          udp_wrong.k1 r2 false

set_option maxRecDepth 100000 in
theorem udp_wrong_calls (k : Nat) (a0 : Int) (a1 : Int) (a2 : ByteArray) (r : Int × Int) (h : udp_wrong.f k a0 a1 a2 = some r) : Pure Tryz.prog Glob 113 #[.int .u32 a0, .int .u32 a1, .string a2] (.tuple #[.int .i64 r.1, .int .i64 r.2]) := by
  intro w Z hS
  refine calls_of (args := [.int .u32 a0, .int .u32 a1, .string a2]) (L := [(0, .int .u32 a0), (1, .int .u32 a1), (2, .string a2)]) (N := 52) (S := Sat w Z [] [] Glob) Tryz.func113 rfl rfl (Nat.le_of_ble_eq_true rfl) rfl hS ?_
  have hM := h
  clear h hS
  unfold udp_wrong.f at hM
  refine WP.less (Φ' := [] ++ Glob) (fun _ h => h) ?_
  refine WP.seq ?_
  refine WP.run [] [0, 1, 2, 6, 7] (fun _ => [(0, .int .u32 a0), (1, .int .u32 a1), (2, .string a2), (6, .int .i64 0), (7, .int .i64 0)]) (fun _ => []) (fun _ => []) (fun _ => by kernel_rfl) (fun _ => ?_)
  refine WP.seq ?_
  refine WP.seq ?_
  refine WP.run [] [0, 1, 2, 6, 7, 15] (fun _ => [(0, .int .u32 a0), (1, .int .u32 a1), (2, .string a2), (6, .int .i64 0), (7, .int .i64 0), (15, .bool (decide ((a2.size : Int) < 8)))]) (fun _ => []) (fun _ => []) (fun _ => by kernel_rfl) (fun _ => ?_)
  refine WP.cond (decide ((a2.size : Int) < 8)) rfl rfl (fun c1 => ?_) (fun c1 => ?_)
  · replace hM := cond_t hM c1
    refine WP.seq ?_
    refine WP.run [] [0, 1, 2, 6, 7] (fun _ => [(0, .int .u32 a0), (1, .int .u32 a1), (2, .string a2), (6, .int .i64 0), (7, .int .i64 0)]) (fun _ => []) (fun _ => []) (fun _ => by kernel_rfl) (fun _ => ?_)
    obtain rfl := Option.some.inj hM
    exact WP.ret [] [] (.tuple #[.int .i64 0, .int .i64 0]) (by kernel_rfl) (fun w' hw => ⟨rfl, (hw.pick [] rfl).less (fun _ h => List.mem_append_right _ h)⟩)
  · replace hM := cond_f hM c1
    refine WP.skip ?_
    refine WP.seq ?_
    refine WP.region ?_
    refine WL.run 1 [] [0, 1, 2, 6, 7, 17] (fun _ => [(0, .int .u32 a0), (1, .int .u32 a1), (2, .string a2), (6, .int .i64 0), (7, .int .i64 0), (17, .string a2)]) (fun _ => []) (fun _ => []) (fun _ => by kernel_rfl) (fun _ => ?_)
    obtain ⟨⟨r2, r3⟩, h4, hM⟩ := bind_some hM
    dsimp only at hM
    refine WL.callP [] [] (octets_Get_calls k a2 4 2 _ h4) (fun _ h => List.mem_append_right _ h) (by kernel_rfl) (by kernel_rfl) rfl ?_
    refine WL.run 5 [] [0, 1, 2, 6, 7, 8] (fun _ => [(0, .int .u32 a0), (1, .int .u32 a1), (2, .string a2), (6, .int .i64 0), (7, .int .i64 0), (8, .int .u64 r2)]) (fun _ => []) (fun _ => []) (fun _ => by kernel_rfl) (fun _ => ?_)
    refine WP.done ?_
    refine WP.seq ?_
    refine WP.region ?_
    refine WL.run 1 [] [0, 1, 2, 6, 7, 8, 22] (fun _ => [(0, .int .u32 a0), (1, .int .u32 a1), (2, .string a2), (6, .int .i64 0), (7, .int .i64 0), (8, .int .u64 r2), (22, .string a2)]) (fun _ => []) (fun _ => []) (fun _ => by kernel_rfl) (fun _ => ?_)
    obtain ⟨⟨r5, r6⟩, h7, hM⟩ := bind_some hM
    dsimp only at hM
    refine WL.callP [] [] (octets_Get_calls k a2 6 2 _ h7) (fun _ h => List.mem_append_right _ h) (by kernel_rfl) (by kernel_rfl) rfl ?_
    refine WL.run 5 [] [0, 1, 2, 6, 7, 8, 10] (fun _ => [(0, .int .u32 a0), (1, .int .u32 a1), (2, .string a2), (6, .int .i64 0), (7, .int .i64 0), (8, .int .u64 r2), (10, .int .u64 r5)]) (fun _ => []) (fun _ => []) (fun _ => by kernel_rfl) (fun _ => ?_)
    refine WP.done ?_
    refine WP.seq ?_
    refine WP.run [] [0, 1, 2, 6, 7, 10, 12] (fun _ => [(0, .int .u32 a0), (1, .int .u32 a1), (2, .string a2), (6, .int .i64 0), (7, .int .i64 0), (10, .int .u64 r5), (12, .int .i64 (i64 r2))]) (fun _ => []) (fun _ => []) (fun _ => by kernel_rfl) (fun _ => ?_)
    refine WP.seq ?_
    refine WP.block ?_
    refine WP.seq ?_
    refine WP.run [] [0, 1, 2, 6, 7, 10, 12, 28] (fun _ => [(0, .int .u32 a0), (1, .int .u32 a1), (2, .string a2), (6, .int .i64 0), (7, .int .i64 0), (10, .int .u64 r5), (12, .int .i64 (i64 r2)), (28, .bool (decide ((i64 r2) < 8)))]) (fun _ => []) (fun _ => []) (fun _ => by kernel_rfl) (fun _ => ?_)
    refine WP.cond (decide ((i64 r2) < 8)) rfl rfl (fun c8 => ?_) (fun c8 => ?_)
    · replace hM := cond_t hM c8
      refine WP.seq ?_
      refine WP.run [] [6, 7, 12] (fun _ => [(6, .int .i64 1), (7, .int .i64 0), (12, .int .i64 (i64 r2))]) (fun _ => []) (fun _ => []) (fun _ => by kernel_rfl) (fun _ => ?_)
      obtain rfl := Option.some.inj hM
      exact WP.ret [] [] (.tuple #[.int .i64 1, .int .i64 0]) (by kernel_rfl) (fun w' hw => ⟨rfl, (hw.pick [] rfl).less (fun _ h => List.mem_append_right _ h)⟩)
    · replace hM := cond_f hM c8
      refine WP.seq ?_
      refine WP.run [] [0, 1, 2, 6, 7, 10, 12, 31] (fun _ => [(0, .int .u32 a0), (1, .int .u32 a1), (2, .string a2), (6, .int .i64 0), (7, .int .i64 0), (10, .int .u64 r5), (12, .int .i64 (i64 r2)), (31, .bool (decide ((i64 r2) > (a2.size : Int))))]) (fun _ => []) (fun _ => []) (fun _ => by kernel_rfl) (fun _ => ?_)
      refine WP.cond (decide ((i64 r2) > (a2.size : Int))) rfl rfl (fun c9 => ?_) (fun c9 => ?_)
      · replace hM := cond_t hM c9
        refine WP.seq ?_
        refine WP.run [] [6, 7, 12] (fun _ => [(6, .int .i64 2), (7, .int .i64 0), (12, .int .i64 (i64 r2))]) (fun _ => []) (fun _ => []) (fun _ => by kernel_rfl) (fun _ => ?_)
        obtain rfl := Option.some.inj hM
        exact WP.ret [] [] (.tuple #[.int .i64 2, .int .i64 0]) (by kernel_rfl) (fun w' hw => ⟨rfl, (hw.pick [] rfl).less (fun _ h => List.mem_append_right _ h)⟩)
      · replace hM := cond_f hM c9
        refine WP.seq ?_
        refine WP.join (σ := Bool) (fun st => udp_wrong.k1 r2 st = some r) (fun st => [(6, .int .i64 0), (7, .int .i64 0), (12, .int .i64 (i64 r2)), (36, .bool st)]) (fun st => Sat w Z [] [] ([] ++ Glob)) (fun st hM => ?_) (fun K1 => ?_)
        ·
          obtain ⟨x21, rfl⟩ : ∃ y, y = st := ⟨st, rfl⟩
          replace hM : udp_wrong.k1 r2 x21 = some r := hM
          unfold udp_wrong.k1 at hM
          show WP _ _ _ _ _ [(6, .int .i64 0), (7, .int .i64 0), (12, .int .i64 (i64 r2)), (36, .bool x21)] (Sat w Z [] [] ([] ++ Glob))
          refine WP.cond x21 rfl rfl (fun c22 => ?_) (fun c22 => ?_)
          · replace hM := cond_t hM c22
            refine WP.seq ?_
            refine WP.run [] [6, 7, 12] (fun _ => [(6, .int .i64 3), (7, .int .i64 0), (12, .int .i64 (i64 r2))]) (fun _ => []) (fun _ => []) (fun _ => by kernel_rfl) (fun _ => ?_)
            obtain rfl := Option.some.inj hM
            exact WP.ret [] [] (.tuple #[.int .i64 3, .int .i64 0]) (by kernel_rfl) (fun w' hw => ⟨rfl, (hw.pick [] rfl).less (fun _ h => List.mem_append_right _ h)⟩)
          · replace hM := cond_f hM c22
            refine WP.skip ?_
            refine WP.leave ?_
            refine WP.seq ?_
            refine WP.run [] [6, 7] (fun _ => [(6, .int .i64 4), (7, .int .i64 (i64 r2))]) (fun _ => []) (fun _ => []) (fun _ => by kernel_rfl) (fun _ => ?_)
            obtain rfl := Option.some.inj hM
            exact WP.ret [] [] (.tuple #[.int .i64 4, .int .i64 (i64 r2)]) (by kernel_rfl) (fun w' hw => ⟨rfl, (hw.pick [] rfl).less (fun _ h => List.mem_append_right _ h)⟩)
        ·
          refine WP.byBool (r5 != 0) (fun c11 => ?_) (fun c11 => ?_)
          · replace hM := cond_t hM c11
            obtain ⟨r13, h14, hM⟩ := bind_some hM
            obtain ⟨t15, h16, hM⟩ := bind_some hM
            refine WP.sub [0, 1, 2, 6, 7, 10, 12] (L' := [(0, .int .u32 a0), (1, .int .u32 a1), (2, .string a2), (6, .int .i64 0), (7, .int .i64 0), (10, .int .u64 r5), (12, .int .i64 (i64 r2))]) (by kernel_rfl) ?_
            refine WP.mixed (X := Unit) 10 [.val (.int .u64 r5), .val (.bool true), .val (.bool true), .val (.int .u32 a0), .val (.int .u32 a1), .val (.int .i64 (i64 r2)), .val (.string r13), .val (.string a2), .val (.int .i64 (i64 r2)), .val (.string t15)] [] [] (by kernel_rfl) (by kernel_rfl) (by kernel_rfl) (by kernel_rfl) (Heads.val (fun tt Ψ => OpV.run [] [] (by kernel_rfl) (fun _ => by kernel_rfl)) (Heads.val (fun tt Ψ => OpV.cast (congrArg Value.bool c11) (OpV.run [] [] (by kernel_rfl) (fun _ => by kernel_rfl))) (Heads.val (fun tt Ψ => OpV.run [] [] (by kernel_rfl) (fun _ => by kernel_rfl)) (Heads.val (fun tt Ψ => OpV.run [] [] (by kernel_rfl) (fun _ => by kernel_rfl)) (Heads.val (fun tt Ψ => OpV.run [] [] (by kernel_rfl) (fun _ => by kernel_rfl)) (Heads.val (fun tt Ψ => OpV.run [] [] (by kernel_rfl) (fun _ => by kernel_rfl)) (Heads.val (fun tt Ψ => OpV.callF [] [] (fun _ h => (List.mem_append_right _ (List.mem_append_right _ h))) (csum_Head_calls k a0 a1 17 (i64 r2) _ h14)  (fun _ => by kernel_rfl)) (Heads.val (fun tt Ψ => OpV.run [] [] (by kernel_rfl) (fun _ => by kernel_rfl)) (Heads.val (fun tt Ψ => OpV.run [] [] (by kernel_rfl) (fun _ => by kernel_rfl)) (Heads.val (fun tt Ψ => OpV.val (fun _ => run_sliceS_hi (s := a2) (kh := .i64) (h := i64 r2) (by kernel_rfl) (by kernel_rfl) (by kernel_rfl) h16) (by kernel_rfl)) Heads.nil)))))))))) (fun s12 tt => [(37, .int .u64 r5), (38, .bool true), (39, .bool true), (40, .int .u32 a0), (41, .int .u32 a1), (42, .int .i64 (i64 r2)), (43, .string r13), (44, .string a2), (45, .int .i64 (i64 r2)), (46, .string t15), (0, .int .u32 a0), (1, .int .u32 a1), (2, .string a2), (6, .int .i64 0), (7, .int .i64 0), (10, .int .u64 r5), (12, .int .i64 (i64 r2))]) (fun s12 tt => []) (fun tt => ([] ++ []) ++ Glob) (fun _ _ => by kernel_rfl) (fun _ _ => by kernel_rfl) (fun _ => by kernel_rfl) (fun s12 tt => ?_)
            refine WL.run 1 [] [6, 7, 12, 39, 47] (fun b17 => [(6, .int .i64 0), (7, .int .i64 0), (12, .int .i64 (i64 r2)), (39, .bool true), (47, .slice (some ⟨b17, 0, none⟩) 2 2)]) (fun b17 => [(b17, .cells #[.string r13, .string t15] 9 (0, 0))]) (fun b17 => []) (fun b17 => by kernel_rfl) (fun b17 => ?_)
            refine WL.ice (H' := []) (Row 1 (pl encS) noK (SkL.at b17 2 (fun _ => ())) ([r13, t15] : List ByteArray)) 0 (b := b17) (ob := .cells #[.string r13, .string t15] 9 (0, 0)) (by kernel_rfl) [] [] (by kernel_rfl) (fun w hb hψ => row_of_block hb (fun _ _ => rfl) ⟨[], by kernel_rfl⟩ (Nat.le_of_ble_eq_true rfl) (InK.no _ _)) (by kernel_rfl) ?_
            obtain ⟨r18, h19, hM⟩ := bind_some hM
            refine WL.callP [] [] (csum_Right_calls k (SkL.at b17 2 (fun _ => ())) ([r13, t15] : List ByteArray) _ h19) (sub_pick [0] (by kernel_rfl)) (by kernel_rfl) (by kernel_rfl) rfl ?_
            refine WL.run 3 [] [6, 7, 12, 36] (fun _ => [(6, .int .i64 0), (7, .int .i64 0), (12, .int .i64 (i64 r2)), (36, .bool (!r18))]) (fun _ => []) (fun _ => []) (fun _ => by kernel_rfl) (fun _ => ?_)
            refine WP.done ?_
            exact WP.sub [6, 7, 12, 36] (by kernel_rfl) (WP.pick [] (by kernel_rfl) (by kernel_rfl) (WP.lessF [] (by kernel_rfl) (K1 (!r18) hM)))
          · replace hM := cond_f hM c11
            refine WP.sub [0, 1, 2, 6, 7, 10, 12] (L' := [(0, .int .u32 a0), (1, .int .u32 a1), (2, .string a2), (6, .int .i64 0), (7, .int .i64 0), (10, .int .u64 r5), (12, .int .i64 (i64 r2))]) (by kernel_rfl) ?_
            refine WP.mixed (X := Unit) 10 [.val (.int .u64 r5), .val (.bool false), .val (.bool false), .skip, .skip, .skip, .skip, .skip, .skip, .skip] [] [] (by kernel_rfl) (by kernel_rfl) (by kernel_rfl) (by kernel_rfl) (Heads.val (fun tt Ψ => OpV.run [] [] (by kernel_rfl) (fun _ => by kernel_rfl)) (Heads.val (fun tt Ψ => OpV.cast (congrArg Value.bool c11) (OpV.run [] [] (by kernel_rfl) (fun _ => by kernel_rfl))) (Heads.val (fun tt Ψ => OpV.run [] [] (by kernel_rfl) (fun _ => by kernel_rfl)) (Heads.skip (fun _ => by kernel_rfl) (Heads.skip (fun _ => by kernel_rfl) (Heads.skip (fun _ => by kernel_rfl) (Heads.skip (fun _ => by kernel_rfl) (Heads.skip (fun _ => by kernel_rfl) (Heads.skip (fun _ => by kernel_rfl) (Heads.skip (fun _ => by kernel_rfl) Heads.nil)))))))))) (fun s20 tt => [(37, .int .u64 r5), (38, .bool false), (39, .bool false), (40, .tuple #[]), (41, .tuple #[]), (42, .tuple #[]), (43, .tuple #[]), (44, .tuple #[]), (45, .tuple #[]), (46, .tuple #[]), (0, .int .u32 a0), (1, .int .u32 a1), (2, .string a2), (6, .int .i64 0), (7, .int .i64 0), (10, .int .u64 r5), (12, .int .i64 (i64 r2))]) (fun s20 tt => []) (fun tt => ([] ++ []) ++ Glob) (fun _ _ => by kernel_rfl) (fun _ _ => by kernel_rfl) (fun _ => by kernel_rfl) (fun s20 tt => ?_)
            refine WL.run 5 [] [6, 7, 12, 36] (fun _ => [(6, .int .i64 0), (7, .int .i64 0), (12, .int .i64 (i64 r2)), (36, .bool false)]) (fun _ => []) (fun _ => []) (fun _ => by kernel_rfl) (fun _ => ?_)
            refine WP.done ?_
            exact WP.sub [6, 7, 12, 36] (by kernel_rfl) (WP.pick [] (by kernel_rfl) (by kernel_rfl) (WP.lessF [] (by kernel_rfl) (K1 false hM)))

end Go.Proofs.YtbodofjnfmjbpaaGreatDoor
