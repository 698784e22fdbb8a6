/- The walks of the functions that the laws reach: each shows that a call returns what its plain model says, wherever the model gives an answer. -/
import Derived.Test.YtbodofjnfmjbpaaGreatDoorF1

namespace Go.Proofs.YtbodofjnfmjbpaaGreatDoor
open Go Eng
set_option linter.unusedVariables false
set_option linter.unusedSimpArgs false

/-! ### gangway/inet.Check: function 69 -/
def inet_Check.k1 (a0 : api_Ip) (x19 : Bool) : Option (Int) :=
  bif (x19 && (decide ((a0.Body.size : Int) ≤ 65515))) then
    some 0
  else
    some 61

def inet_Check.k2 (a0 : api_Ip) (x15 : Bool) : Option (Int) :=
  bif x15 then
    (inet_below.f a0.Off 8192).bind fun r17 =>
    inet_Check.k1 a0 r17
  else
    inet_Check.k1 a0 false

def inet_Check.k3 (a0 : api_Ip) (x11 : Bool) : Option (Int) :=
  bif x11 then
    (inet_below.f a0.Id 65536).bind fun r13 =>
    inet_Check.k2 a0 r13
  else
    inet_Check.k2 a0 false

def inet_Check.k4 (a0 : api_Ip) (x7 : Bool) : Option (Int) :=
  bif x7 then
    (inet_below.f a0.Proto 256).bind fun r9 =>
    inet_Check.k3 a0 r9
  else
    inet_Check.k3 a0 false

def inet_Check.f (a0 : api_Ip) : Option (Int) :=
  (inet_below.f a0.Tos 256).bind fun r2 =>
  bif r2 then
    (inet_below.f a0.Ttl 256).bind fun r5 =>
    inet_Check.k4 a0 r5
  else
    inet_Check.k4 a0 false

set_option maxRecDepth 100000 in
theorem inet_Check_calls (a0 : api_Ip) (r : Int) (h : inet_Check.f a0 = some r) : Pure Tryz.prog Glob 69 #[.agg #[.int .i64 a0.Tos, .int .i64 a0.Id, .bool a0.Whole, .bool a0.More, .int .i64 a0.Off, .int .i64 a0.Ttl, .int .i64 a0.Proto, .int .u32 a0.Src, .int .u32 a0.Dst, .string a0.Body]] (.int .i64 r) := by
  intro w Z hS
  refine calls_of (args := [.agg #[.int .i64 a0.Tos, .int .i64 a0.Id, .bool a0.Whole, .bool a0.More, .int .i64 a0.Off, .int .i64 a0.Ttl, .int .i64 a0.Proto, .int .u32 a0.Src, .int .u32 a0.Dst, .string a0.Body]]) (L := [(0, .agg #[.int .i64 a0.Tos, .int .i64 a0.Id, .bool a0.Whole, .bool a0.More, .int .i64 a0.Off, .int .i64 a0.Ttl, .int .i64 a0.Proto, .int .u32 a0.Src, .int .u32 a0.Dst, .string a0.Body])]) (N := 32) (S := Sat w Z [] [] Glob) Tryz.func69 rfl rfl (Nat.le_of_ble_eq_true rfl) rfl hS ?_
  have hM := h
  clear h hS
  unfold inet_Check.f at hM
  refine WP.seq ?_
  refine WP.run [] [1, 2] (fun b1 => [(1, .pointer (some ⟨b1, 0, none⟩)), (2, .int .i64 0)]) (fun b1 => [(b1, .cells #[.int .i64 a0.Tos, .int .i64 a0.Id, .bool a0.Whole, .bool a0.More, .int .i64 a0.Off, .int .i64 a0.Ttl, .int .i64 a0.Proto, .int .u32 a0.Src, .int .u32 a0.Dst, .string a0.Body] 91 (0, 0))]) (fun b1 => []) (fun b1 => by kernel_rfl) (fun b1 => ?_)
  refine WP.seq ?_
  refine WP.seq ?_
  refine WP.region ?_
  refine WL.run 2 [0] [1, 2, 4] (fun _ => [(1, .pointer (some ⟨b1, 0, none⟩)), (2, .int .i64 0), (4, .int .i64 a0.Tos)]) (fun _ => [(b1, .cells #[.int .i64 a0.Tos, .int .i64 a0.Id, .bool a0.Whole, .bool a0.More, .int .i64 a0.Off, .int .i64 a0.Ttl, .int .i64 a0.Proto, .int .u32 a0.Src, .int .u32 a0.Dst, .string a0.Body] 91 (0, 0))]) (fun _ => [b1]) (fun _ => by kernel_rfl) (fun _ => ?_)
  obtain ⟨r2, h3, hM⟩ := bind_some hM
  refine WL.callP [] [] (inet_below_calls a0.Tos 256 _ h3) (fun _ h => h) (by kernel_rfl) (by kernel_rfl) rfl ?_
  refine WL.run 1 [] [1, 2, 6] (fun _ => [(1, .pointer (some ⟨b1, 0, none⟩)), (2, .int .i64 0), (6, .bool r2)]) (fun _ => [(b1, .cells #[.int .i64 a0.Tos, .int .i64 a0.Id, .bool a0.Whole, .bool a0.More, .int .i64 a0.Off, .int .i64 a0.Ttl, .int .i64 a0.Proto, .int .u32 a0.Src, .int .u32 a0.Dst, .string a0.Body] 91 (0, 0))]) (fun _ => []) (fun _ => by kernel_rfl) (fun _ => ?_)
  refine WL.sub [1, 2, 6] (L' := [(1, .pointer (some ⟨b1, 0, none⟩)), (2, .int .i64 0), (6, .bool r2)]) (by kernel_rfl) ?_
  refine WL.join (σ := Bool) 4 (fun st => inet_Check.k4 a0 st = some r) (fun st => [(1, .pointer (some ⟨b1, 0, none⟩)), (2, .int .i64 0), (10, .bool st)]) (fun st => Sat w Z [(b1, .cells #[.int .i64 a0.Tos, .int .i64 a0.Id, .bool a0.Whole, .bool a0.More, .int .i64 a0.Off, .int .i64 a0.Ttl, .int .i64 a0.Proto, .int .u32 a0.Src, .int .u32 a0.Dst, .string a0.Body] 91 (0, 0))] [] Glob) (fun st hM => ?_) (fun K4 => ?_)
  ·
    obtain ⟨x7, rfl⟩ : ∃ y, y = st := ⟨st, rfl⟩
    replace hM : inet_Check.k4 a0 x7 = some r := hM
    unfold inet_Check.k4 at hM
    show WL _ _ _ _ _ [(1, .pointer (some ⟨b1, 0, none⟩)), (2, .int .i64 0), (10, .bool x7)] (Sat w Z [(b1, .cells #[.int .i64 a0.Tos, .int .i64 a0.Id, .bool a0.Whole, .bool a0.More, .int .i64 a0.Off, .int .i64 a0.Ttl, .int .i64 a0.Proto, .int .u32 a0.Src, .int .u32 a0.Dst, .string a0.Body] 91 (0, 0))] [] Glob)
    refine WL.run 1 [] [1, 2, 11] (fun _ => [(1, .pointer (some ⟨b1, 0, none⟩)), (2, .int .i64 0), (11, .bool x7)]) (fun _ => [(b1, .cells #[.int .i64 a0.Tos, .int .i64 a0.Id, .bool a0.Whole, .bool a0.More, .int .i64 a0.Off, .int .i64 a0.Ttl, .int .i64 a0.Proto, .int .u32 a0.Src, .int .u32 a0.Dst, .string a0.Body] 91 (0, 0))]) (fun _ => []) (fun _ => by kernel_rfl) (fun _ => ?_)
    refine WL.sub [1, 2, 11] (L' := [(1, .pointer (some ⟨b1, 0, none⟩)), (2, .int .i64 0), (11, .bool x7)]) (by kernel_rfl) ?_
    refine WL.join (σ := Bool) 4 (fun st => inet_Check.k3 a0 st = some r) (fun st => [(1, .pointer (some ⟨b1, 0, none⟩)), (2, .int .i64 0), (15, .bool st)]) (fun st => Sat w Z [(b1, .cells #[.int .i64 a0.Tos, .int .i64 a0.Id, .bool a0.Whole, .bool a0.More, .int .i64 a0.Off, .int .i64 a0.Ttl, .int .i64 a0.Proto, .int .u32 a0.Src, .int .u32 a0.Dst, .string a0.Body] 91 (0, 0))] [] Glob) (fun st hM => ?_) (fun K3 => ?_)
    ·
      obtain ⟨x11, rfl⟩ : ∃ y, y = st := ⟨st, rfl⟩
      replace hM : inet_Check.k3 a0 x11 = some r := hM
      unfold inet_Check.k3 at hM
      show WL _ _ _ _ _ [(1, .pointer (some ⟨b1, 0, none⟩)), (2, .int .i64 0), (15, .bool x11)] (Sat w Z [(b1, .cells #[.int .i64 a0.Tos, .int .i64 a0.Id, .bool a0.Whole, .bool a0.More, .int .i64 a0.Off, .int .i64 a0.Ttl, .int .i64 a0.Proto, .int .u32 a0.Src, .int .u32 a0.Dst, .string a0.Body] 91 (0, 0))] [] Glob)
      refine WL.run 1 [] [1, 2, 16] (fun _ => [(1, .pointer (some ⟨b1, 0, none⟩)), (2, .int .i64 0), (16, .bool x11)]) (fun _ => [(b1, .cells #[.int .i64 a0.Tos, .int .i64 a0.Id, .bool a0.Whole, .bool a0.More, .int .i64 a0.Off, .int .i64 a0.Ttl, .int .i64 a0.Proto, .int .u32 a0.Src, .int .u32 a0.Dst, .string a0.Body] 91 (0, 0))]) (fun _ => []) (fun _ => by kernel_rfl) (fun _ => ?_)
      refine WL.sub [1, 2, 16] (L' := [(1, .pointer (some ⟨b1, 0, none⟩)), (2, .int .i64 0), (16, .bool x11)]) (by kernel_rfl) ?_
      refine WL.join (σ := Bool) 4 (fun st => inet_Check.k2 a0 st = some r) (fun st => [(1, .pointer (some ⟨b1, 0, none⟩)), (2, .int .i64 0), (20, .bool st)]) (fun st => Sat w Z [(b1, .cells #[.int .i64 a0.Tos, .int .i64 a0.Id, .bool a0.Whole, .bool a0.More, .int .i64 a0.Off, .int .i64 a0.Ttl, .int .i64 a0.Proto, .int .u32 a0.Src, .int .u32 a0.Dst, .string a0.Body] 91 (0, 0))] [] Glob) (fun st hM => ?_) (fun K2 => ?_)
      ·
        obtain ⟨x15, rfl⟩ : ∃ y, y = st := ⟨st, rfl⟩
        replace hM : inet_Check.k2 a0 x15 = some r := hM
        unfold inet_Check.k2 at hM
        show WL _ _ _ _ _ [(1, .pointer (some ⟨b1, 0, none⟩)), (2, .int .i64 0), (20, .bool x15)] (Sat w Z [(b1, .cells #[.int .i64 a0.Tos, .int .i64 a0.Id, .bool a0.Whole, .bool a0.More, .int .i64 a0.Off, .int .i64 a0.Ttl, .int .i64 a0.Proto, .int .u32 a0.Src, .int .u32 a0.Dst, .string a0.Body] 91 (0, 0))] [] Glob)
        refine WL.run 1 [] [1, 2, 21] (fun _ => [(1, .pointer (some ⟨b1, 0, none⟩)), (2, .int .i64 0), (21, .bool x15)]) (fun _ => [(b1, .cells #[.int .i64 a0.Tos, .int .i64 a0.Id, .bool a0.Whole, .bool a0.More, .int .i64 a0.Off, .int .i64 a0.Ttl, .int .i64 a0.Proto, .int .u32 a0.Src, .int .u32 a0.Dst, .string a0.Body] 91 (0, 0))]) (fun _ => []) (fun _ => by kernel_rfl) (fun _ => ?_)
        refine WL.sub [1, 2, 21] (L' := [(1, .pointer (some ⟨b1, 0, none⟩)), (2, .int .i64 0), (21, .bool x15)]) (by kernel_rfl) ?_
        refine WL.join (σ := Bool) 4 (fun st => inet_Check.k1 a0 st = some r) (fun st => [(1, .pointer (some ⟨b1, 0, none⟩)), (2, .int .i64 0), (25, .bool st)]) (fun st => Sat w Z [(b1, .cells #[.int .i64 a0.Tos, .int .i64 a0.Id, .bool a0.Whole, .bool a0.More, .int .i64 a0.Off, .int .i64 a0.Ttl, .int .i64 a0.Proto, .int .u32 a0.Src, .int .u32 a0.Dst, .string a0.Body] 91 (0, 0))] [] Glob) (fun st hM => ?_) (fun K1 => ?_)
        ·
          obtain ⟨x19, rfl⟩ : ∃ y, y = st := ⟨st, rfl⟩
          replace hM : inet_Check.k1 a0 x19 = some r := hM
          unfold inet_Check.k1 at hM
          show WL _ _ _ _ _ [(1, .pointer (some ⟨b1, 0, none⟩)), (2, .int .i64 0), (25, .bool x19)] (Sat w Z [(b1, .cells #[.int .i64 a0.Tos, .int .i64 a0.Id, .bool a0.Whole, .bool a0.More, .int .i64 a0.Off, .int .i64 a0.Ttl, .int .i64 a0.Proto, .int .u32 a0.Src, .int .u32 a0.Dst, .string a0.Body] 91 (0, 0))] [] Glob)
          refine WL.run 1 [] [1, 2, 26] (fun _ => [(1, .pointer (some ⟨b1, 0, none⟩)), (2, .int .i64 0), (26, .bool x19)]) (fun _ => [(b1, .cells #[.int .i64 a0.Tos, .int .i64 a0.Id, .bool a0.Whole, .bool a0.More, .int .i64 a0.Off, .int .i64 a0.Ttl, .int .i64 a0.Proto, .int .u32 a0.Src, .int .u32 a0.Dst, .string a0.Body] 91 (0, 0))]) (fun _ => []) (fun _ => by kernel_rfl) (fun _ => ?_)
          refine WL.sub [1, 2, 26] (L' := [(1, .pointer (some ⟨b1, 0, none⟩)), (2, .int .i64 0), (26, .bool x19)]) (by kernel_rfl) ?_
          refine WL.both (fun b' => [(1, .pointer (some ⟨b1, 0, none⟩)), (2, .int .i64 0), (26, .bool b')]) x19 5 [0] [] [2, 31] (fun b' => [(2, .int .i64 0), (31, .bool (b' && (decide ((a0.Body.size : Int) ≤ 65515))))]) [b1] [] (fun _ => by kernel_rfl) (fun _ => by kernel_rfl) ?_
          refine WP.done ?_
          refine WP.keep [false] (by kernel_rfl : _ = []) ?_
          refine WP.cond (x19 && (decide ((a0.Body.size : Int) ≤ 65515))) rfl rfl (fun c20 => ?_) (fun c20 => ?_)
          · replace hM := cond_t hM c20
            refine WP.seq ?_
            refine WP.run [] [2] (fun _ => [(2, .int .i64 0)]) (fun _ => []) (fun _ => []) (fun _ => by kernel_rfl) (fun _ => ?_)
            obtain rfl := Option.some.inj hM
            exact WP.ret [] [] (.int .i64 0) (by kernel_rfl) (fun w' hw => ⟨rfl, hw.pick [] rfl⟩)
          · replace hM := cond_f hM c20
            refine WP.skip ?_
            refine WP.seq ?_
            refine WP.run [] [2] (fun _ => [(2, .int .i64 61)]) (fun _ => []) (fun _ => []) (fun _ => by kernel_rfl) (fun _ => ?_)
            obtain rfl := Option.some.inj hM
            exact WP.ret [] [] (.int .i64 61) (by kernel_rfl) (fun w' hw => ⟨rfl, hw.pick [] rfl⟩)
        ·
          refine WL.split (fun b' => [(1, .pointer (some ⟨b1, 0, none⟩)), (2, .int .i64 0), (21, .bool b')]) x15 (fun c16 => ?_) (fun c16 => ?_)
          · replace hM := cond_t hM c16
            refine WL.run 2 [0] [1, 2, 21, 23] (fun _ => [(1, .pointer (some ⟨b1, 0, none⟩)), (2, .int .i64 0), (21, .bool true), (23, .int .i64 a0.Off)]) (fun _ => [(b1, .cells #[.int .i64 a0.Tos, .int .i64 a0.Id, .bool a0.Whole, .bool a0.More, .int .i64 a0.Off, .int .i64 a0.Ttl, .int .i64 a0.Proto, .int .u32 a0.Src, .int .u32 a0.Dst, .string a0.Body] 91 (0, 0))]) (fun _ => [b1]) (fun _ => by kernel_rfl) (fun _ => ?_)
            obtain ⟨r17, h18, hM⟩ := bind_some hM
            refine WL.callP [] [] (inet_below_calls a0.Off 8192 _ h18) (fun _ h => h) (by kernel_rfl) (by kernel_rfl) rfl ?_
            refine WL.run 1 [] [1, 2, 25] (fun _ => [(1, .pointer (some ⟨b1, 0, none⟩)), (2, .int .i64 0), (25, .bool r17)]) (fun _ => [(b1, .cells #[.int .i64 a0.Tos, .int .i64 a0.Id, .bool a0.Whole, .bool a0.More, .int .i64 a0.Off, .int .i64 a0.Ttl, .int .i64 a0.Proto, .int .u32 a0.Src, .int .u32 a0.Dst, .string a0.Body] 91 (0, 0))]) (fun _ => []) (fun _ => by kernel_rfl) (fun _ => ?_)
            exact WL.sub [1, 2, 25] (by kernel_rfl) (WL.pick [0] (by kernel_rfl) (by kernel_rfl) (K1 r17 hM))
          · replace hM := cond_f hM c16
            refine WL.run 4 [] [1, 2, 25] (fun _ => [(1, .pointer (some ⟨b1, 0, none⟩)), (2, .int .i64 0), (25, .bool false)]) (fun _ => [(b1, .cells #[.int .i64 a0.Tos, .int .i64 a0.Id, .bool a0.Whole, .bool a0.More, .int .i64 a0.Off, .int .i64 a0.Ttl, .int .i64 a0.Proto, .int .u32 a0.Src, .int .u32 a0.Dst, .string a0.Body] 91 (0, 0))]) (fun _ => []) (fun _ => by kernel_rfl) (fun _ => ?_)
            exact WL.sub [1, 2, 25] (by kernel_rfl) (WL.pick [0] (by kernel_rfl) (by kernel_rfl) (K1 false hM))
      ·
        refine WL.split (fun b' => [(1, .pointer (some ⟨b1, 0, none⟩)), (2, .int .i64 0), (16, .bool b')]) x11 (fun c12 => ?_) (fun c12 => ?_)
        · replace hM := cond_t hM c12
          refine WL.run 2 [0] [1, 2, 16, 18] (fun _ => [(1, .pointer (some ⟨b1, 0, none⟩)), (2, .int .i64 0), (16, .bool true), (18, .int .i64 a0.Id)]) (fun _ => [(b1, .cells #[.int .i64 a0.Tos, .int .i64 a0.Id, .bool a0.Whole, .bool a0.More, .int .i64 a0.Off, .int .i64 a0.Ttl, .int .i64 a0.Proto, .int .u32 a0.Src, .int .u32 a0.Dst, .string a0.Body] 91 (0, 0))]) (fun _ => [b1]) (fun _ => by kernel_rfl) (fun _ => ?_)
          obtain ⟨r13, h14, hM⟩ := bind_some hM
          refine WL.callP [] [] (inet_below_calls a0.Id 65536 _ h14) (fun _ h => h) (by kernel_rfl) (by kernel_rfl) rfl ?_
          refine WL.run 1 [] [1, 2, 20] (fun _ => [(1, .pointer (some ⟨b1, 0, none⟩)), (2, .int .i64 0), (20, .bool r13)]) (fun _ => [(b1, .cells #[.int .i64 a0.Tos, .int .i64 a0.Id, .bool a0.Whole, .bool a0.More, .int .i64 a0.Off, .int .i64 a0.Ttl, .int .i64 a0.Proto, .int .u32 a0.Src, .int .u32 a0.Dst, .string a0.Body] 91 (0, 0))]) (fun _ => []) (fun _ => by kernel_rfl) (fun _ => ?_)
          exact WL.sub [1, 2, 20] (by kernel_rfl) (WL.pick [0] (by kernel_rfl) (by kernel_rfl) (K2 r13 hM))
        · replace hM := cond_f hM c12
          refine WL.run 4 [] [1, 2, 20] (fun _ => [(1, .pointer (some ⟨b1, 0, none⟩)), (2, .int .i64 0), (20, .bool false)]) (fun _ => [(b1, .cells #[.int .i64 a0.Tos, .int .i64 a0.Id, .bool a0.Whole, .bool a0.More, .int .i64 a0.Off, .int .i64 a0.Ttl, .int .i64 a0.Proto, .int .u32 a0.Src, .int .u32 a0.Dst, .string a0.Body] 91 (0, 0))]) (fun _ => []) (fun _ => by kernel_rfl) (fun _ => ?_)
          exact WL.sub [1, 2, 20] (by kernel_rfl) (WL.pick [0] (by kernel_rfl) (by kernel_rfl) (K2 false hM))
    ·
      refine WL.split (fun b' => [(1, .pointer (some ⟨b1, 0, none⟩)), (2, .int .i64 0), (11, .bool b')]) x7 (fun c8 => ?_) (fun c8 => ?_)
      · replace hM := cond_t hM c8
        refine WL.run 2 [0] [1, 2, 11, 13] (fun _ => [(1, .pointer (some ⟨b1, 0, none⟩)), (2, .int .i64 0), (11, .bool true), (13, .int .i64 a0.Proto)]) (fun _ => [(b1, .cells #[.int .i64 a0.Tos, .int .i64 a0.Id, .bool a0.Whole, .bool a0.More, .int .i64 a0.Off, .int .i64 a0.Ttl, .int .i64 a0.Proto, .int .u32 a0.Src, .int .u32 a0.Dst, .string a0.Body] 91 (0, 0))]) (fun _ => [b1]) (fun _ => by kernel_rfl) (fun _ => ?_)
        obtain ⟨r9, h10, hM⟩ := bind_some hM
        refine WL.callP [] [] (inet_below_calls a0.Proto 256 _ h10) (fun _ h => h) (by kernel_rfl) (by kernel_rfl) rfl ?_
        refine WL.run 1 [] [1, 2, 15] (fun _ => [(1, .pointer (some ⟨b1, 0, none⟩)), (2, .int .i64 0), (15, .bool r9)]) (fun _ => [(b1, .cells #[.int .i64 a0.Tos, .int .i64 a0.Id, .bool a0.Whole, .bool a0.More, .int .i64 a0.Off, .int .i64 a0.Ttl, .int .i64 a0.Proto, .int .u32 a0.Src, .int .u32 a0.Dst, .string a0.Body] 91 (0, 0))]) (fun _ => []) (fun _ => by kernel_rfl) (fun _ => ?_)
        exact WL.sub [1, 2, 15] (by kernel_rfl) (WL.pick [0] (by kernel_rfl) (by kernel_rfl) (K3 r9 hM))
      · replace hM := cond_f hM c8
        refine WL.run 4 [] [1, 2, 15] (fun _ => [(1, .pointer (some ⟨b1, 0, none⟩)), (2, .int .i64 0), (15, .bool false)]) (fun _ => [(b1, .cells #[.int .i64 a0.Tos, .int .i64 a0.Id, .bool a0.Whole, .bool a0.More, .int .i64 a0.Off, .int .i64 a0.Ttl, .int .i64 a0.Proto, .int .u32 a0.Src, .int .u32 a0.Dst, .string a0.Body] 91 (0, 0))]) (fun _ => []) (fun _ => by kernel_rfl) (fun _ => ?_)
        exact WL.sub [1, 2, 15] (by kernel_rfl) (WL.pick [0] (by kernel_rfl) (by kernel_rfl) (K3 false hM))
  ·
    refine WL.split (fun b' => [(1, .pointer (some ⟨b1, 0, none⟩)), (2, .int .i64 0), (6, .bool b')]) r2 (fun c4 => ?_) (fun c4 => ?_)
    · replace hM := cond_t hM c4
      refine WL.run 2 [0] [1, 2, 6, 8] (fun _ => [(1, .pointer (some ⟨b1, 0, none⟩)), (2, .int .i64 0), (6, .bool true), (8, .int .i64 a0.Ttl)]) (fun _ => [(b1, .cells #[.int .i64 a0.Tos, .int .i64 a0.Id, .bool a0.Whole, .bool a0.More, .int .i64 a0.Off, .int .i64 a0.Ttl, .int .i64 a0.Proto, .int .u32 a0.Src, .int .u32 a0.Dst, .string a0.Body] 91 (0, 0))]) (fun _ => [b1]) (fun _ => by kernel_rfl) (fun _ => ?_)
      obtain ⟨r5, h6, hM⟩ := bind_some hM
      refine WL.callP [] [] (inet_below_calls a0.Ttl 256 _ h6) (fun _ h => h) (by kernel_rfl) (by kernel_rfl) rfl ?_
      refine WL.run 1 [] [1, 2, 10] (fun _ => [(1, .pointer (some ⟨b1, 0, none⟩)), (2, .int .i64 0), (10, .bool r5)]) (fun _ => [(b1, .cells #[.int .i64 a0.Tos, .int .i64 a0.Id, .bool a0.Whole, .bool a0.More, .int .i64 a0.Off, .int .i64 a0.Ttl, .int .i64 a0.Proto, .int .u32 a0.Src, .int .u32 a0.Dst, .string a0.Body] 91 (0, 0))]) (fun _ => []) (fun _ => by kernel_rfl) (fun _ => ?_)
      exact WL.sub [1, 2, 10] (by kernel_rfl) (WL.pick [0] (by kernel_rfl) (by kernel_rfl) (K4 r5 hM))
    · replace hM := cond_f hM c4
      refine WL.run 4 [] [1, 2, 10] (fun _ => [(1, .pointer (some ⟨b1, 0, none⟩)), (2, .int .i64 0), (10, .bool false)]) (fun _ => [(b1, .cells #[.int .i64 a0.Tos, .int .i64 a0.Id, .bool a0.Whole, .bool a0.More, .int .i64 a0.Off, .int .i64 a0.Ttl, .int .i64 a0.Proto, .int .u32 a0.Src, .int .u32 a0.Dst, .string a0.Body] 91 (0, 0))]) (fun _ => []) (fun _ => by kernel_rfl) (fun _ => ?_)
      exact WL.sub [1, 2, 10] (by kernel_rfl) (WL.pick [0] (by kernel_rfl) (by kernel_rfl) (K4 false hM))

end Go.Proofs.YtbodofjnfmjbpaaGreatDoor

namespace Go.Proofs.YtbodofjnfmjbpaaGreatDoor
open Go Eng
set_option linter.unusedVariables false
set_option linter.unusedSimpArgs false

/-! ### gangway/inet.word: function 70 -/
def inet_word.f (k : Nat) (a0 : Int) : Option (ByteArray) :=
  (octets_Put.f k (u64 a0) 2).bind fun (r1, r2) =>
  some r1

set_option maxRecDepth 100000 in
theorem inet_word_calls (k : Nat) (a0 : Int) (r : ByteArray) (h : inet_word.f k a0 = some r) : Pure Tryz.prog Glob 70 #[.int .i64 a0] (.string r) := by
  intro w Z hS
  refine calls_of (args := [.int .i64 a0]) (L := [(0, .int .i64 a0)]) (N := 12) (S := Sat w Z [] [] Glob) Tryz.func70 rfl rfl (Nat.le_of_ble_eq_true rfl) rfl hS ?_
  have hM := h
  clear h hS
  unfold inet_word.f at hM
  refine WP.seq ?_
  refine WP.run [] [0, 2] (fun _ => [(0, .int .i64 a0), (2, .string (⟨#[]⟩ : ByteArray))]) (fun _ => []) (fun _ => []) (fun _ => by kernel_rfl) (fun _ => ?_)
  refine WP.seq ?_
  refine WP.region ?_
  refine WL.run 2 [] [2, 7] (fun _ => [(2, .string (⟨#[]⟩ : ByteArray)), (7, .int .u64 (u64 a0))]) (fun _ => []) (fun _ => []) (fun _ => by kernel_rfl) (fun _ => ?_)
  obtain ⟨⟨r1, r2⟩, h3, hM⟩ := bind_some hM
  dsimp only at hM
  refine WL.callP [] [] (octets_Put_calls k (u64 a0) 2 _ h3) (fun _ h => h) (by kernel_rfl) (by kernel_rfl) rfl ?_
  refine WL.run 5 [] [2, 3] (fun _ => [(2, .string (⟨#[]⟩ : ByteArray)), (3, .string r1)]) (fun _ => []) (fun _ => []) (fun _ => by kernel_rfl) (fun _ => ?_)
  refine WP.done ?_
  refine WP.seq ?_
  refine WP.run [] [2] (fun _ => [(2, .string r1)]) (fun _ => []) (fun _ => []) (fun _ => by kernel_rfl) (fun _ => ?_)
  obtain rfl := Option.some.inj hM
  exact WP.ret [] [] (.string r1) (by kernel_rfl) (fun w' hw => ⟨rfl, hw.pick [] rfl⟩)

end Go.Proofs.YtbodofjnfmjbpaaGreatDoor

namespace Go.Proofs.YtbodofjnfmjbpaaGreatDoor
open Go Eng
set_option linter.unusedVariables false
set_option linter.unusedSimpArgs false

/-! ### gangway/inet.flags: function 71 -/
def inet_flags.k1 (x5 : Int) : Option (Int) :=
  some x5

def inet_flags.k2 (a0 : api_Ip) (x3 : Int) : Option (Int) :=
  bif a0.More then
    inet_flags.k1 (bOr .i64 x3 8192)
  else
    inet_flags.k1 x3

def inet_flags.f (a0 : api_Ip) : Option (Int) :=
  bif a0.Whole then
    inet_flags.k2 a0 (bOr .i64 a0.Off 16384)
  else
    inet_flags.k2 a0 a0.Off

set_option maxRecDepth 100000 in
theorem inet_flags_calls (a0 : api_Ip) (r : Int) (h : inet_flags.f a0 = some r) : Pure Tryz.prog Glob 71 #[.agg #[.int .i64 a0.Tos, .int .i64 a0.Id, .bool a0.Whole, .bool a0.More, .int .i64 a0.Off, .int .i64 a0.Ttl, .int .i64 a0.Proto, .int .u32 a0.Src, .int .u32 a0.Dst, .string a0.Body]] (.int .i64 r) := by
  intro w Z hS
  refine calls_of (args := [.agg #[.int .i64 a0.Tos, .int .i64 a0.Id, .bool a0.Whole, .bool a0.More, .int .i64 a0.Off, .int .i64 a0.Ttl, .int .i64 a0.Proto, .int .u32 a0.Src, .int .u32 a0.Dst, .string a0.Body]]) (L := [(0, .agg #[.int .i64 a0.Tos, .int .i64 a0.Id, .bool a0.Whole, .bool a0.More, .int .i64 a0.Off, .int .i64 a0.Ttl, .int .i64 a0.Proto, .int .u32 a0.Src, .int .u32 a0.Dst, .string a0.Body])]) (N := 15) (S := Sat w Z [] [] Glob) Tryz.func71 rfl rfl (Nat.le_of_ble_eq_true rfl) rfl hS ?_
  have hM := h
  clear h hS
  unfold inet_flags.f at hM
  refine WP.seq ?_
  refine WP.run [] [1, 2] (fun b1 => [(1, .pointer (some ⟨b1, 0, none⟩)), (2, .int .i64 0)]) (fun b1 => [(b1, .cells #[.int .i64 a0.Tos, .int .i64 a0.Id, .bool a0.Whole, .bool a0.More, .int .i64 a0.Off, .int .i64 a0.Ttl, .int .i64 a0.Proto, .int .u32 a0.Src, .int .u32 a0.Dst, .string a0.Body] 91 (0, 0))]) (fun b1 => []) (fun b1 => by kernel_rfl) (fun b1 => ?_)
  refine WP.seq ?_
  refine WP.run [0] [1, 2, 3] (fun _ => [(1, .pointer (some ⟨b1, 0, none⟩)), (2, .int .i64 0), (3, .int .i64 a0.Off)]) (fun _ => [(b1, .cells #[.int .i64 a0.Tos, .int .i64 a0.Id, .bool a0.Whole, .bool a0.More, .int .i64 a0.Off, .int .i64 a0.Ttl, .int .i64 a0.Proto, .int .u32 a0.Src, .int .u32 a0.Dst, .string a0.Body] 91 (0, 0))]) (fun _ => [b1]) (fun _ => by kernel_rfl) (fun _ => ?_)
  refine WP.seqJoin (σ := Int) (fun st => inet_flags.k2 a0 st = some r) (fun st => [(1, .pointer (some ⟨b1, 0, none⟩)), (2, .int .i64 0), (3, .int .i64 st)]) (fun st => Sat w Z [(b1, .cells #[.int .i64 a0.Tos, .int .i64 a0.Id, .bool a0.Whole, .bool a0.More, .int .i64 a0.Off, .int .i64 a0.Ttl, .int .i64 a0.Proto, .int .u32 a0.Src, .int .u32 a0.Dst, .string a0.Body] 91 (0, 0))] [] Glob) (fun st hM => ?_) (fun K2 => ?_)
  ·
    obtain ⟨x3, rfl⟩ : ∃ y, y = st := ⟨st, rfl⟩
    replace hM : inet_flags.k2 a0 x3 = some r := hM
    unfold inet_flags.k2 at hM
    show WP _ _ _ _ _ [(1, .pointer (some ⟨b1, 0, none⟩)), (2, .int .i64 0), (3, .int .i64 x3)] (Sat w Z [(b1, .cells #[.int .i64 a0.Tos, .int .i64 a0.Id, .bool a0.Whole, .bool a0.More, .int .i64 a0.Off, .int .i64 a0.Ttl, .int .i64 a0.Proto, .int .u32 a0.Src, .int .u32 a0.Dst, .string a0.Body] 91 (0, 0))] [] Glob)
    refine WP.seqJoin (σ := Int) (fun st => inet_flags.k1 st = some r) (fun st => [(2, .int .i64 0), (3, .int .i64 st)]) (fun st => Sat w Z [] [] Glob) (fun st hM => ?_) (fun K1 => ?_)
    ·
      obtain ⟨x5, rfl⟩ : ∃ y, y = st := ⟨st, rfl⟩
      replace hM : inet_flags.k1 x5 = some r := hM
      unfold inet_flags.k1 at hM
      show WP _ _ _ _ _ [(2, .int .i64 0), (3, .int .i64 x5)] (Sat w Z [] [] Glob)
      refine WP.seq ?_
      refine WP.run [] [2] (fun _ => [(2, .int .i64 x5)]) (fun _ => []) (fun _ => []) (fun _ => by kernel_rfl) (fun _ => ?_)
      obtain rfl := Option.some.inj hM
      exact WP.ret [] [] (.int .i64 x5) (by kernel_rfl) (fun w' hw => ⟨rfl, hw.pick [] rfl⟩)
    ·
      refine WP.seq ?_
      refine WP.run [0] [2, 3, 11] (fun _ => [(2, .int .i64 0), (3, .int .i64 x3), (11, .bool a0.More)]) (fun _ => [(b1, .cells #[.int .i64 a0.Tos, .int .i64 a0.Id, .bool a0.Whole, .bool a0.More, .int .i64 a0.Off, .int .i64 a0.Ttl, .int .i64 a0.Proto, .int .u32 a0.Src, .int .u32 a0.Dst, .string a0.Body] 91 (0, 0))]) (fun _ => [b1]) (fun _ => by kernel_rfl) (fun _ => ?_)
      refine WP.keep [false] (by kernel_rfl : _ = []) ?_
      refine WP.cond a0.More rfl rfl (fun c4 => ?_) (fun c4 => ?_)
      · replace hM := cond_t hM c4
        refine WP.run [] [2, 3] (fun _ => [(2, .int .i64 0), (3, .int .i64 (bOr .i64 x3 8192))]) (fun _ => []) (fun _ => []) (fun _ => by kernel_rfl) (fun _ => ?_)
        exact WP.sub [2, 3] (by kernel_rfl) (WP.pick [] (by kernel_rfl) (by kernel_rfl) (K1 (bOr .i64 x3 8192) hM))
      · replace hM := cond_f hM c4
        refine WP.skip ?_
        exact WP.sub [2, 3] (by kernel_rfl) (WP.pick [] (by kernel_rfl) (by kernel_rfl) (K1 x3 hM))
  ·
    refine WP.seq ?_
    refine WP.run [0] [1, 2, 3, 7] (fun _ => [(1, .pointer (some ⟨b1, 0, none⟩)), (2, .int .i64 0), (3, .int .i64 a0.Off), (7, .bool a0.Whole)]) (fun _ => [(b1, .cells #[.int .i64 a0.Tos, .int .i64 a0.Id, .bool a0.Whole, .bool a0.More, .int .i64 a0.Off, .int .i64 a0.Ttl, .int .i64 a0.Proto, .int .u32 a0.Src, .int .u32 a0.Dst, .string a0.Body] 91 (0, 0))]) (fun _ => [b1]) (fun _ => by kernel_rfl) (fun _ => ?_)
    refine WP.cond a0.Whole rfl rfl (fun c2 => ?_) (fun c2 => ?_)
    · replace hM := cond_t hM c2
      refine WP.run [] [1, 2, 3] (fun _ => [(1, .pointer (some ⟨b1, 0, none⟩)), (2, .int .i64 0), (3, .int .i64 (bOr .i64 a0.Off 16384))]) (fun _ => [(b1, .cells #[.int .i64 a0.Tos, .int .i64 a0.Id, .bool a0.Whole, .bool a0.More, .int .i64 a0.Off, .int .i64 a0.Ttl, .int .i64 a0.Proto, .int .u32 a0.Src, .int .u32 a0.Dst, .string a0.Body] 91 (0, 0))]) (fun _ => []) (fun _ => by kernel_rfl) (fun _ => ?_)
      exact WP.sub [1, 2, 3] (by kernel_rfl) (WP.pick [0] (by kernel_rfl) (by kernel_rfl) (K2 (bOr .i64 a0.Off 16384) hM))
    · replace hM := cond_f hM c2
      refine WP.skip ?_
      exact WP.sub [1, 2, 3] (by kernel_rfl) (WP.pick [0] (by kernel_rfl) (by kernel_rfl) (K2 a0.Off hM))

end Go.Proofs.YtbodofjnfmjbpaaGreatDoor

namespace Go.Proofs.YtbodofjnfmjbpaaGreatDoor
open Go Eng
set_option linter.unusedVariables false
set_option linter.unusedSimpArgs false

/-! ### gangway/inet.Build: function 41 -/
def inet_Build.f (k : Nat) (a0 : api_Ip) : Option (ByteArray × Int) :=
  (inet_Check.f a0).bind fun r2 =>
  bif (r2 != 0) then
    some ((⟨#[]⟩ : ByteArray), r2)
  else
    (octets_Put.f k (u64 a0.Src) 4).bind fun (r5, r6) =>
    (octets_Put.f k (u64 a0.Dst) 4).bind fun (r8, r9) =>
    (inet_word.f k (i64 (20 + (a0.Body.size : Int)))).bind fun r13 =>
    (catS (ByteArray.push (ByteArray.push ByteArray.empty (UInt8.ofNat (Int.toNat 69))) (UInt8.ofNat (Int.toNat (u8 a0.Tos)))) r13).bind fun t15 =>
    (inet_word.f k a0.Id).bind fun r17 =>
    (catS t15 r17).bind fun t19 =>
    (inet_flags.f a0).bind fun r21 =>
    (inet_word.f k r21).bind fun r23 =>
    (catS t19 r23).bind fun t25 =>
    (catS t25 (ByteArray.push (ByteArray.push ByteArray.empty (UInt8.ofNat (Int.toNat (u8 a0.Ttl)))) (UInt8.ofNat (Int.toNat (u8 a0.Proto))))).bind fun t28 =>
    (catS r5 r8).bind fun t30 =>
    (inet_word.f k 0).bind fun r33 =>
    (csum_Of.f k ([t28, r33, t30] : List ByteArray)).bind fun r36 =>
    (inet_word.f k r36).bind fun r38 =>
    (catS t28 r38).bind fun t40 =>
    (catS t40 t30).bind fun t42 =>
    (catS t42 a0.Body).bind fun t44 =>
    some (t44, 0)

set_option maxRecDepth 100000 in
theorem inet_Build_calls (k : Nat) (a0 : api_Ip) (r : ByteArray × Int) (h : inet_Build.f k a0 = some r) : Pure Tryz.prog Glob 41 #[.agg #[.int .i64 a0.Tos, .int .i64 a0.Id, .bool a0.Whole, .bool a0.More, .int .i64 a0.Off, .int .i64 a0.Ttl, .int .i64 a0.Proto, .int .u32 a0.Src, .int .u32 a0.Dst, .string a0.Body]] (.tuple #[.string r.1, .int .i64 r.2]) := by
  intro w Z hS
  refine calls_of (args := [.agg #[.int .i64 a0.Tos, .int .i64 a0.Id, .bool a0.Whole, .bool a0.More, .int .i64 a0.Off, .int .i64 a0.Ttl, .int .i64 a0.Proto, .int .u32 a0.Src, .int .u32 a0.Dst, .string a0.Body]]) (L := [(0, .agg #[.int .i64 a0.Tos, .int .i64 a0.Id, .bool a0.Whole, .bool a0.More, .int .i64 a0.Off, .int .i64 a0.Ttl, .int .i64 a0.Proto, .int .u32 a0.Src, .int .u32 a0.Dst, .string a0.Body])]) (N := 74) (S := Sat w Z [] [] Glob) Tryz.func41 rfl rfl (Nat.le_of_ble_eq_true rfl) rfl hS ?_
  have hM := h
  clear h hS
  unfold inet_Build.f at hM
  refine WP.less (Φ' := [] ++ Glob) (fun _ h => h) ?_
  refine WP.seq ?_
  refine WP.run [] [1, 2, 3] (fun b1 => [(1, .pointer (some ⟨b1, 0, none⟩)), (2, .string (⟨#[]⟩ : ByteArray)), (3, .int .i64 0)]) (fun b1 => [(b1, .cells #[.int .i64 a0.Tos, .int .i64 a0.Id, .bool a0.Whole, .bool a0.More, .int .i64 a0.Off, .int .i64 a0.Ttl, .int .i64 a0.Proto, .int .u32 a0.Src, .int .u32 a0.Dst, .string a0.Body] 91 (0, 0))]) (fun b1 => []) (fun b1 => by kernel_rfl) (fun b1 => ?_)
  refine WP.seq ?_
  refine WP.seq ?_
  refine WP.region ?_
  refine WL.run 1 [0, 0, 0, 0, 0, 0, 0, 0, 0, 0] [1, 2, 3, 11] (fun _ => [(1, .pointer (some ⟨b1, 0, none⟩)), (2, .string (⟨#[]⟩ : ByteArray)), (3, .int .i64 0), (11, .agg #[.int .i64 a0.Tos, .int .i64 a0.Id, .bool a0.Whole, .bool a0.More, .int .i64 a0.Off, .int .i64 a0.Ttl, .int .i64 a0.Proto, .int .u32 a0.Src, .int .u32 a0.Dst, .string a0.Body])]) (fun _ => [(b1, .cells #[.int .i64 a0.Tos, .int .i64 a0.Id, .bool a0.Whole, .bool a0.More, .int .i64 a0.Off, .int .i64 a0.Ttl, .int .i64 a0.Proto, .int .u32 a0.Src, .int .u32 a0.Dst, .string a0.Body] 91 (0, 0))]) (fun _ => [b1, b1, b1, b1, b1, b1, b1, b1, b1, b1]) (fun _ => by kernel_rfl) (fun _ => ?_)
  obtain ⟨r2, h3, hM⟩ := bind_some hM
  refine WL.callP [] [] (inet_Check_calls a0 _ h3) (fun _ h => List.mem_append_right _ h) (by kernel_rfl) (by kernel_rfl) rfl ?_
  refine WL.run 1 [] [1, 2, 3, 4] (fun _ => [(1, .pointer (some ⟨b1, 0, none⟩)), (2, .string (⟨#[]⟩ : ByteArray)), (3, .int .i64 0), (4, .int .i64 r2)]) (fun _ => [(b1, .cells #[.int .i64 a0.Tos, .int .i64 a0.Id, .bool a0.Whole, .bool a0.More, .int .i64 a0.Off, .int .i64 a0.Ttl, .int .i64 a0.Proto, .int .u32 a0.Src, .int .u32 a0.Dst, .string a0.Body] 91 (0, 0))]) (fun _ => []) (fun _ => by kernel_rfl) (fun _ => ?_)
  refine WP.done ?_
  refine WP.seq ?_
  refine WP.run [] [1, 2, 3, 4, 14] (fun _ => [(1, .pointer (some ⟨b1, 0, none⟩)), (2, .string (⟨#[]⟩ : ByteArray)), (3, .int .i64 0), (4, .int .i64 r2), (14, .bool (r2 != 0))]) (fun _ => [(b1, .cells #[.int .i64 a0.Tos, .int .i64 a0.Id, .bool a0.Whole, .bool a0.More, .int .i64 a0.Off, .int .i64 a0.Ttl, .int .i64 a0.Proto, .int .u32 a0.Src, .int .u32 a0.Dst, .string a0.Body] 91 (0, 0))]) (fun _ => []) (fun _ => by kernel_rfl) (fun _ => ?_)
  refine WP.cond (r2 != 0) rfl rfl (fun c4 => ?_) (fun c4 => ?_)
  · replace hM := cond_t hM c4
    refine WP.seq ?_
    refine WP.run [] [1, 2, 3] (fun _ => [(1, .pointer (some ⟨b1, 0, none⟩)), (2, .string (⟨#[]⟩ : ByteArray)), (3, .int .i64 r2)]) (fun _ => [(b1, .cells #[.int .i64 a0.Tos, .int .i64 a0.Id, .bool a0.Whole, .bool a0.More, .int .i64 a0.Off, .int .i64 a0.Ttl, .int .i64 a0.Proto, .int .u32 a0.Src, .int .u32 a0.Dst, .string a0.Body] 91 (0, 0))]) (fun _ => []) (fun _ => by kernel_rfl) (fun _ => ?_)
    obtain rfl := Option.some.inj hM
    exact WP.ret [] [] (.tuple #[.string (⟨#[]⟩ : ByteArray), .int .i64 r2]) (by kernel_rfl) (fun w' hw => ⟨rfl, (hw.pick [] rfl).less (fun _ h => List.mem_append_right _ h)⟩)
  · replace hM := cond_f hM c4
    refine WP.skip ?_
    refine WP.seq ?_
    refine WP.region ?_
    refine WL.run 3 [0] [1, 2, 3, 19] (fun _ => [(1, .pointer (some ⟨b1, 0, none⟩)), (2, .string (⟨#[]⟩ : ByteArray)), (3, .int .i64 0), (19, .int .u64 (u64 a0.Src))]) (fun _ => [(b1, .cells #[.int .i64 a0.Tos, .int .i64 a0.Id, .bool a0.Whole, .bool a0.More, .int .i64 a0.Off, .int .i64 a0.Ttl, .int .i64 a0.Proto, .int .u32 a0.Src, .int .u32 a0.Dst, .string a0.Body] 91 (0, 0))]) (fun _ => [b1]) (fun _ => by kernel_rfl) (fun _ => ?_)
    obtain ⟨⟨r5, r6⟩, h7, hM⟩ := bind_some hM
    dsimp only at hM
    refine WL.callP [] [] (octets_Put_calls k (u64 a0.Src) 4 _ h7) (fun _ h => List.mem_append_right _ h) (by kernel_rfl) (by kernel_rfl) rfl ?_
    refine WL.run 5 [] [1, 2, 3, 5] (fun _ => [(1, .pointer (some ⟨b1, 0, none⟩)), (2, .string (⟨#[]⟩ : ByteArray)), (3, .int .i64 0), (5, .string r5)]) (fun _ => [(b1, .cells #[.int .i64 a0.Tos, .int .i64 a0.Id, .bool a0.Whole, .bool a0.More, .int .i64 a0.Off, .int .i64 a0.Ttl, .int .i64 a0.Proto, .int .u32 a0.Src, .int .u32 a0.Dst, .string a0.Body] 91 (0, 0))]) (fun _ => []) (fun _ => by kernel_rfl) (fun _ => ?_)
    refine WP.done ?_
    refine WP.seq ?_
    refine WP.region ?_
    refine WL.run 3 [0] [1, 2, 3, 5, 26] (fun _ => [(1, .pointer (some ⟨b1, 0, none⟩)), (2, .string (⟨#[]⟩ : ByteArray)), (3, .int .i64 0), (5, .string r5), (26, .int .u64 (u64 a0.Dst))]) (fun _ => [(b1, .cells #[.int .i64 a0.Tos, .int .i64 a0.Id, .bool a0.Whole, .bool a0.More, .int .i64 a0.Off, .int .i64 a0.Ttl, .int .i64 a0.Proto, .int .u32 a0.Src, .int .u32 a0.Dst, .string a0.Body] 91 (0, 0))]) (fun _ => [b1]) (fun _ => by kernel_rfl) (fun _ => ?_)
    obtain ⟨⟨r8, r9⟩, h10, hM⟩ := bind_some hM
    dsimp only at hM
    refine WL.callP [] [] (octets_Put_calls k (u64 a0.Dst) 4 _ h10) (fun _ h => List.mem_append_right _ h) (by kernel_rfl) (by kernel_rfl) rfl ?_
    refine WL.run 5 [] [1, 2, 3, 5, 7] (fun _ => [(1, .pointer (some ⟨b1, 0, none⟩)), (2, .string (⟨#[]⟩ : ByteArray)), (3, .int .i64 0), (5, .string r5), (7, .string r8)]) (fun _ => [(b1, .cells #[.int .i64 a0.Tos, .int .i64 a0.Id, .bool a0.Whole, .bool a0.More, .int .i64 a0.Off, .int .i64 a0.Ttl, .int .i64 a0.Proto, .int .u32 a0.Src, .int .u32 a0.Dst, .string a0.Body] 91 (0, 0))]) (fun _ => []) (fun _ => by kernel_rfl) (fun _ => ?_)
    refine WP.done ?_
    refine WP.seq ?_
    obtain ⟨r13, h14, hM⟩ := bind_some hM
    obtain ⟨t15, h16, hM⟩ := bind_some hM
    obtain ⟨r17, h18, hM⟩ := bind_some hM
    obtain ⟨t19, h20, hM⟩ := bind_some hM
    obtain ⟨r21, h22, hM⟩ := bind_some hM
    obtain ⟨r23, h24, hM⟩ := bind_some hM
    obtain ⟨t25, h26, hM⟩ := bind_some hM
    refine WP.sub [1, 2, 3, 5, 7] (L' := [(1, .pointer (some ⟨b1, 0, none⟩)), (2, .string (⟨#[]⟩ : ByteArray)), (3, .int .i64 0), (5, .string r5), (7, .string r8)]) (by kernel_rfl) ?_
    refine WP.mixed (X := Unit) 27 [.val (.pointer (some ⟨b1, 0, none⟩)), .val (.int .i64 a0.Tos), .val (.int .u8 (u8 a0.Tos)), .alloc (.cells #[.int .u8 69, .int .u8 (u8 a0.Tos)] 5 (0, 0)) (fun b => .slice (some ⟨b, 0, none⟩) 2 2), .use 3 (.string (ByteArray.push (ByteArray.push ByteArray.empty (UInt8.ofNat (Int.toNat 69))) (UInt8.ofNat (Int.toNat (u8 a0.Tos))))), .val (.pointer (some ⟨b1, 9, none⟩)), .val (.string a0.Body), .val (.int .i64 (a0.Body.size : Int)), .val (.int .i64 (i64 (20 + (a0.Body.size : Int)))), .val (.string r13), .val (.string t15), .val (.pointer (some ⟨b1, 1, none⟩)), .val (.int .i64 a0.Id), .val (.string r17), .val (.string t19), .val (.agg #[.int .i64 a0.Tos, .int .i64 a0.Id, .bool a0.Whole, .bool a0.More, .int .i64 a0.Off, .int .i64 a0.Ttl, .int .i64 a0.Proto, .int .u32 a0.Src, .int .u32 a0.Dst, .string a0.Body]), .val (.int .i64 r21), .val (.string r23), .val (.string t25), .val (.pointer (some ⟨b1, 5, none⟩)), .val (.int .i64 a0.Ttl), .val (.int .u8 (u8 a0.Ttl)), .val (.pointer (some ⟨b1, 6, none⟩)), .val (.int .i64 a0.Proto), .val (.int .u8 (u8 a0.Proto)), .alloc (.cells #[.int .u8 (u8 a0.Ttl), .int .u8 (u8 a0.Proto)] 5 (0, 0)) (fun b => .slice (some ⟨b, 0, none⟩) 2 2), .use 25 (.string (ByteArray.push (ByteArray.push ByteArray.empty (UInt8.ofNat (Int.toNat (u8 a0.Ttl)))) (UInt8.ofNat (Int.toNat (u8 a0.Proto)))))] [(b1, .cells #[.int .i64 a0.Tos, .int .i64 a0.Id, .bool a0.Whole, .bool a0.More, .int .i64 a0.Off, .int .i64 a0.Ttl, .int .i64 a0.Proto, .int .u32 a0.Src, .int .u32 a0.Dst, .string a0.Body] 91 (0, 0))] [] (by kernel_rfl) (by kernel_rfl) (by kernel_rfl) (by kernel_rfl) (Heads.val (fun tt Ψ => OpV.run [] [] (by kernel_rfl) (fun _ => by kernel_rfl)) (Heads.val (fun tt Ψ => OpV.run [0] [b1] (by kernel_rfl) (fun _ => by kernel_rfl)) (Heads.val (fun tt Ψ => OpV.run [] [] (by kernel_rfl) (fun _ => by kernel_rfl)) (Heads.alloc (fun _ => by kernel_rfl) (fun _ _ => by kernel_rfl) (Heads.use 33 (fun b => .slice (some ⟨b, 0, none⟩) 2 2) (.cells #[.int .u8 69, .int .u8 (u8 a0.Tos)] 5 (0, 0)) rfl rfl (fun _ _ => OpU.run [1, 1] (fun b => [b, b]) (fun _ => by kernel_rfl) (fun _ _ => by kernel_rfl)) (Heads.val (fun tt Ψ => OpV.run [] [] (by kernel_rfl) (fun _ => by kernel_rfl)) (Heads.val (fun tt Ψ => OpV.run [0] [b1] (by kernel_rfl) (fun _ => by kernel_rfl)) (Heads.val (fun tt Ψ => OpV.run [] [] (by kernel_rfl) (fun _ => by kernel_rfl)) (Heads.val (fun tt Ψ => OpV.run [] [] (by kernel_rfl) (fun _ => by kernel_rfl)) (Heads.val (fun tt Ψ => OpV.callF [] [] (fun _ h => (List.mem_append_right _ (List.mem_append_right _ h))) (inet_word_calls k (i64 (20 + (a0.Body.size : Int))) _ h14)  (fun _ => by kernel_rfl)) (Heads.val (fun tt Ψ => OpV.val (fun _ => run_catS (a := (ByteArray.push (ByteArray.push ByteArray.empty (UInt8.ofNat (Int.toNat 69))) (UInt8.ofNat (Int.toNat (u8 a0.Tos))))) (b := r13) (by kernel_rfl) (by kernel_rfl) h16) (by kernel_rfl)) (Heads.val (fun tt Ψ => OpV.run [] [] (by kernel_rfl) (fun _ => by kernel_rfl)) (Heads.val (fun tt Ψ => OpV.run [0] [b1] (by kernel_rfl) (fun _ => by kernel_rfl)) (Heads.val (fun tt Ψ => OpV.callF [] [] (fun _ h => (List.mem_append_right _ (List.mem_append_right _ h))) (inet_word_calls k a0.Id _ h18)  (fun _ => by kernel_rfl)) (Heads.val (fun tt Ψ => OpV.val (fun _ => run_catS (a := t15) (b := r17) (by kernel_rfl) (by kernel_rfl) h20) (by kernel_rfl)) (Heads.val (fun tt Ψ => OpV.run [0, 0, 0, 0, 0, 0, 0, 0, 0, 0] [b1, b1, b1, b1, b1, b1, b1, b1, b1, b1] (by kernel_rfl) (fun _ => by kernel_rfl)) (Heads.val (fun tt Ψ => OpV.callF [] [] (fun _ h => (List.mem_append_right _ (List.mem_append_right _ h))) (inet_flags_calls a0 _ h22)  (fun _ => by kernel_rfl)) (Heads.val (fun tt Ψ => OpV.callF [] [] (fun _ h => (List.mem_append_right _ (List.mem_append_right _ h))) (inet_word_calls k r21 _ h24)  (fun _ => by kernel_rfl)) (Heads.val (fun tt Ψ => OpV.val (fun _ => run_catS (a := t19) (b := r23) (by kernel_rfl) (by kernel_rfl) h26) (by kernel_rfl)) (Heads.val (fun tt Ψ => OpV.run [] [] (by kernel_rfl) (fun _ => by kernel_rfl)) (Heads.val (fun tt Ψ => OpV.run [0] [b1] (by kernel_rfl) (fun _ => by kernel_rfl)) (Heads.val (fun tt Ψ => OpV.run [] [] (by kernel_rfl) (fun _ => by kernel_rfl)) (Heads.val (fun tt Ψ => OpV.run [] [] (by kernel_rfl) (fun _ => by kernel_rfl)) (Heads.val (fun tt Ψ => OpV.run [0] [b1] (by kernel_rfl) (fun _ => by kernel_rfl)) (Heads.val (fun tt Ψ => OpV.run [] [] (by kernel_rfl) (fun _ => by kernel_rfl)) (Heads.alloc (fun _ => by kernel_rfl) (fun _ _ => by kernel_rfl) (Heads.use 55 (fun b => .slice (some ⟨b, 0, none⟩) 2 2) (.cells #[.int .u8 (u8 a0.Ttl), .int .u8 (u8 a0.Proto)] 5 (0, 0)) rfl rfl (fun _ _ => OpU.run [1, 1] (fun b => [b, b]) (fun _ => by kernel_rfl) (fun _ _ => by kernel_rfl)) Heads.nil))))))))))))))))))))))))))) (fun s11 tt => [(30, .pointer (some ⟨b1, 0, none⟩)), (31, .int .i64 a0.Tos), (32, .int .u8 (u8 a0.Tos)), (33, .slice (some ⟨(s11 3), 0, none⟩) 2 2), (34, .string (ByteArray.push (ByteArray.push ByteArray.empty (UInt8.ofNat (Int.toNat 69))) (UInt8.ofNat (Int.toNat (u8 a0.Tos))))), (35, .pointer (some ⟨b1, 9, none⟩)), (36, .string a0.Body), (37, .int .i64 (a0.Body.size : Int)), (38, .int .i64 (i64 (20 + (a0.Body.size : Int)))), (39, .string r13), (40, .string t15), (41, .pointer (some ⟨b1, 1, none⟩)), (42, .int .i64 a0.Id), (43, .string r17), (44, .string t19), (45, .agg #[.int .i64 a0.Tos, .int .i64 a0.Id, .bool a0.Whole, .bool a0.More, .int .i64 a0.Off, .int .i64 a0.Ttl, .int .i64 a0.Proto, .int .u32 a0.Src, .int .u32 a0.Dst, .string a0.Body]), (46, .int .i64 r21), (47, .string r23), (48, .string t25), (49, .pointer (some ⟨b1, 5, none⟩)), (50, .int .i64 a0.Ttl), (51, .int .u8 (u8 a0.Ttl)), (52, .pointer (some ⟨b1, 6, none⟩)), (53, .int .i64 a0.Proto), (54, .int .u8 (u8 a0.Proto)), (55, .slice (some ⟨(s11 25), 0, none⟩) 2 2), (56, .string (ByteArray.push (ByteArray.push ByteArray.empty (UInt8.ofNat (Int.toNat (u8 a0.Ttl)))) (UInt8.ofNat (Int.toNat (u8 a0.Proto))))), (1, .pointer (some ⟨b1, 0, none⟩)), (2, .string (⟨#[]⟩ : ByteArray)), (3, .int .i64 0), (5, .string r5), (7, .string r8)]) (fun s11 tt => [(b1, .cells #[.int .i64 a0.Tos, .int .i64 a0.Id, .bool a0.Whole, .bool a0.More, .int .i64 a0.Off, .int .i64 a0.Ttl, .int .i64 a0.Proto, .int .u32 a0.Src, .int .u32 a0.Dst, .string a0.Body] 91 (0, 0)), ((s11 3), .cells #[.int .u8 69, .int .u8 (u8 a0.Tos)] 5 (0, 0)), ((s11 25), .cells #[.int .u8 (u8 a0.Ttl), .int .u8 (u8 a0.Proto)] 5 (0, 0))]) (fun tt => ([] ++ []) ++ Glob) (fun _ _ => by kernel_rfl) (fun _ _ => by kernel_rfl) (fun _ => by kernel_rfl) (fun s11 tt => ?_)
    generalize s11 3 = b12
    generalize s11 25 = b27
    obtain ⟨t28, h29, hM⟩ := bind_some hM
    refine WL.val (fun _ => run_catS (a := t25) (b := (ByteArray.push (ByteArray.push ByteArray.empty (UInt8.ofNat (Int.toNat (u8 a0.Ttl)))) (UInt8.ofNat (Int.toNat (u8 a0.Proto))))) (by kernel_rfl) (by kernel_rfl) h29) (by kernel_rfl) (by kernel_rfl) rfl ?_
    refine WL.run 1 [] [1, 2, 3, 5, 7, 9] (fun _ => [(1, .pointer (some ⟨b1, 0, none⟩)), (2, .string (⟨#[]⟩ : ByteArray)), (3, .int .i64 0), (5, .string r5), (7, .string r8), (9, .string t28)]) (fun _ => [(b1, .cells #[.int .i64 a0.Tos, .int .i64 a0.Id, .bool a0.Whole, .bool a0.More, .int .i64 a0.Off, .int .i64 a0.Ttl, .int .i64 a0.Proto, .int .u32 a0.Src, .int .u32 a0.Dst, .string a0.Body] 91 (0, 0)), (b12, .cells #[.int .u8 69, .int .u8 (u8 a0.Tos)] 5 (0, 0)), (b27, .cells #[.int .u8 (u8 a0.Ttl), .int .u8 (u8 a0.Proto)] 5 (0, 0))]) (fun _ => []) (fun _ => by kernel_rfl) (fun _ => ?_)
    refine WP.done ?_
    refine WP.keep [true, false, false] (by kernel_rfl : _ = [(b1, .cells #[.int .i64 a0.Tos, .int .i64 a0.Id, .bool a0.Whole, .bool a0.More, .int .i64 a0.Off, .int .i64 a0.Ttl, .int .i64 a0.Proto, .int .u32 a0.Src, .int .u32 a0.Dst, .string a0.Body] 91 (0, 0))]) ?_
    refine WP.seq ?_
    refine WP.region ?_
    refine WL.run 2 [] [1, 2, 3, 9, 58, 59] (fun _ => [(1, .pointer (some ⟨b1, 0, none⟩)), (2, .string (⟨#[]⟩ : ByteArray)), (3, .int .i64 0), (9, .string t28), (58, .string r5), (59, .string r8)]) (fun _ => [(b1, .cells #[.int .i64 a0.Tos, .int .i64 a0.Id, .bool a0.Whole, .bool a0.More, .int .i64 a0.Off, .int .i64 a0.Ttl, .int .i64 a0.Proto, .int .u32 a0.Src, .int .u32 a0.Dst, .string a0.Body] 91 (0, 0))]) (fun _ => []) (fun _ => by kernel_rfl) (fun _ => ?_)
    obtain ⟨t30, h31, hM⟩ := bind_some hM
    refine WL.val (fun _ => run_catS (a := r5) (b := r8) (by kernel_rfl) (by kernel_rfl) h31) (by kernel_rfl) (by kernel_rfl) rfl ?_
    refine WL.run 1 [] [1, 2, 3, 9, 10] (fun _ => [(1, .pointer (some ⟨b1, 0, none⟩)), (2, .string (⟨#[]⟩ : ByteArray)), (3, .int .i64 0), (9, .string t28), (10, .string t30)]) (fun _ => [(b1, .cells #[.int .i64 a0.Tos, .int .i64 a0.Id, .bool a0.Whole, .bool a0.More, .int .i64 a0.Off, .int .i64 a0.Ttl, .int .i64 a0.Proto, .int .u32 a0.Src, .int .u32 a0.Dst, .string a0.Body] 91 (0, 0))]) (fun _ => []) (fun _ => by kernel_rfl) (fun _ => ?_)
    refine WP.done ?_
    refine WP.seq ?_
    obtain ⟨r33, h34, hM⟩ := bind_some hM
    obtain ⟨r36, h37, hM⟩ := bind_some hM
    obtain ⟨r38, h39, hM⟩ := bind_some hM
    obtain ⟨t40, h41, hM⟩ := bind_some hM
    obtain ⟨t42, h43, hM⟩ := bind_some hM
    refine WP.sub [1, 2, 3, 9, 10] (L' := [(1, .pointer (some ⟨b1, 0, none⟩)), (2, .string (⟨#[]⟩ : ByteArray)), (3, .int .i64 0), (9, .string t28), (10, .string t30)]) (by kernel_rfl) ?_
    refine WP.mixed (X := Unit) 12 [.val (.string t28), .val (.string t28), .val (.string r33), .val (.string t30), .alloc (.cells #[.string t28, .string r33, .string t30] 9 (0, 0)) (fun b => .slice (some ⟨b, 0, none⟩) 3 3), .use 4 (.int .i64 r36), .val (.string r38), .val (.string t40), .val (.string t30), .val (.string t42), .val (.pointer (some ⟨b1, 9, none⟩)), .val (.string a0.Body)] [(b1, .cells #[.int .i64 a0.Tos, .int .i64 a0.Id, .bool a0.Whole, .bool a0.More, .int .i64 a0.Off, .int .i64 a0.Ttl, .int .i64 a0.Proto, .int .u32 a0.Src, .int .u32 a0.Dst, .string a0.Body] 91 (0, 0))] [] (by kernel_rfl) (by kernel_rfl) (by kernel_rfl) (by kernel_rfl) (Heads.val (fun tt Ψ => OpV.run [] [] (by kernel_rfl) (fun _ => by kernel_rfl)) (Heads.val (fun tt Ψ => OpV.run [] [] (by kernel_rfl) (fun _ => by kernel_rfl)) (Heads.val (fun tt Ψ => OpV.callF [] [] (fun _ h => (List.mem_append_right _ (List.mem_append_right _ h))) (inet_word_calls k 0 _ h34)  (fun _ => by kernel_rfl)) (Heads.val (fun tt Ψ => OpV.run [] [] (by kernel_rfl) (fun _ => by kernel_rfl)) (Heads.alloc (fun _ => by kernel_rfl) (fun _ _ => by kernel_rfl) (Heads.use 65 (fun b => .slice (some ⟨b, 0, none⟩) 3 3) (.cells #[.string t28, .string r33, .string t30] 9 (0, 0)) rfl rfl (fun tt Ψ => OpU.callL (fun b => Row 1 (pl encS) noK (SkL.at b 3 (fun _ => ())) ([t28, r33, t30] : List ByteArray)) [] (fun _ => []) (fun b w hb => row_of_block hb (fun _ _ => rfl) ⟨[], by kernel_rfl⟩ (Nat.le_of_ble_eq_true rfl) (InK.no _ _)) (fun b => (lent2 (lent lent0) (fun _ h => (List.mem_append_right _ (List.mem_append_right _ h))))) (fun b => (csum_Of_calls k (SkL.at b 3 (fun _ => ())) ([t28, r33, t30] : List ByteArray) _ h37)) (fun _ _ => by kernel_rfl)) (Heads.val (fun tt Ψ => OpV.callF [] [] (fun _ h => (List.mem_append_right _ (List.mem_append_right _ h))) (inet_word_calls k r36 _ h39)  (fun _ => by kernel_rfl)) (Heads.val (fun tt Ψ => OpV.val (fun _ => run_catS (a := t28) (b := r38) (by kernel_rfl) (by kernel_rfl) h41) (by kernel_rfl)) (Heads.val (fun tt Ψ => OpV.run [] [] (by kernel_rfl) (fun _ => by kernel_rfl)) (Heads.val (fun tt Ψ => OpV.val (fun _ => run_catS (a := t40) (b := t30) (by kernel_rfl) (by kernel_rfl) h43) (by kernel_rfl)) (Heads.val (fun tt Ψ => OpV.run [] [] (by kernel_rfl) (fun _ => by kernel_rfl)) (Heads.val (fun tt Ψ => OpV.run [0] [b1] (by kernel_rfl) (fun _ => by kernel_rfl)) Heads.nil)))))))))))) (fun s32 tt => [(61, .string t28), (62, .string t28), (63, .string r33), (64, .string t30), (65, .slice (some ⟨(s32 4), 0, none⟩) 3 3), (66, .int .i64 r36), (67, .string r38), (68, .string t40), (69, .string t30), (70, .string t42), (71, .pointer (some ⟨b1, 9, none⟩)), (72, .string a0.Body), (1, .pointer (some ⟨b1, 0, none⟩)), (2, .string (⟨#[]⟩ : ByteArray)), (3, .int .i64 0), (9, .string t28), (10, .string t30)]) (fun s32 tt => [(b1, .cells #[.int .i64 a0.Tos, .int .i64 a0.Id, .bool a0.Whole, .bool a0.More, .int .i64 a0.Off, .int .i64 a0.Ttl, .int .i64 a0.Proto, .int .u32 a0.Src, .int .u32 a0.Dst, .string a0.Body] 91 (0, 0)), ((s32 4), .cells #[.string t28, .string r33, .string t30] 9 (0, 0))]) (fun tt => ([] ++ []) ++ Glob) (fun _ _ => by kernel_rfl) (fun _ _ => by kernel_rfl) (fun _ => by kernel_rfl) (fun s32 tt => ?_)
    generalize s32 4 = b35
    obtain ⟨t44, h45, hM⟩ := bind_some hM
    refine WL.val (fun _ => run_catS (a := t42) (b := a0.Body) (by kernel_rfl) (by kernel_rfl) h45) (by kernel_rfl) (by kernel_rfl) rfl ?_
    refine WL.run 2 [] [2, 3] (fun _ => [(2, .string t44), (3, .int .i64 0)]) (fun _ => [(b1, .cells #[.int .i64 a0.Tos, .int .i64 a0.Id, .bool a0.Whole, .bool a0.More, .int .i64 a0.Off, .int .i64 a0.Ttl, .int .i64 a0.Proto, .int .u32 a0.Src, .int .u32 a0.Dst, .string a0.Body] 91 (0, 0)), (b35, .cells #[.string t28, .string r33, .string t30] 9 (0, 0))]) (fun _ => []) (fun _ => by kernel_rfl) (fun _ => ?_)
    refine WP.done ?_
    refine WP.keep [false, false] (by kernel_rfl : _ = []) ?_
    obtain rfl := Option.some.inj hM
    exact WP.ret [] [] (.tuple #[.string t44, .int .i64 0]) (by kernel_rfl) (fun w' hw => ⟨rfl, (hw.pick [] rfl).less (fun _ h => List.mem_append_right _ h)⟩)

end Go.Proofs.YtbodofjnfmjbpaaGreatDoor

namespace Go.Proofs.YtbodofjnfmjbpaaGreatDoor
open Go Eng
set_option linter.unusedVariables false
set_option linter.unusedSimpArgs false

/-! ### gangway/station.Make: function 20 -/
def station_Make.f (k : Nat) (a0 : Int) (a1 : Int) (a2 : api_Udp) (a3 : Int) (a4 : Int) : Option (ByteArray × Int) :=
  (udp_Build.f k a0 a1 a2).bind fun (r2, r3) =>
  bif (r3 != 0) then
    some ((⟨#[]⟩ : ByteArray), r3)
  else
    (inet_Build.f k (api_Ip.mk 0 (bAnd .i64 a3 65535) true false 0 64 17 a0 a1 r2)).bind fun (r7, r8) =>
    bif ((r8 != 0) || (decide ((r7.size : Int) > a4))) then
      some ((⟨#[]⟩ : ByteArray), 201)
    else
      some (r7, 0)

set_option maxRecDepth 100000 in
theorem station_Make_calls (k : Nat) (a0 : Int) (a1 : Int) (a2 : api_Udp) (a3 : Int) (a4 : Int) (r : ByteArray × Int) (h : station_Make.f k a0 a1 a2 a3 a4 = some r) : Pure Tryz.prog Glob 20 #[.int .u32 a0, .int .u32 a1, .agg #[.int .i64 a2.Src, .int .i64 a2.Dst, .bool a2.NoSum, .string a2.Body], .int .i64 a3, .int .i64 a4] (.tuple #[.string r.1, .int .i64 r.2]) := by
  intro w Z hS
  refine calls_of (args := [.int .u32 a0, .int .u32 a1, .agg #[.int .i64 a2.Src, .int .i64 a2.Dst, .bool a2.NoSum, .string a2.Body], .int .i64 a3, .int .i64 a4]) (L := [(0, .int .u32 a0), (1, .int .u32 a1), (2, .agg #[.int .i64 a2.Src, .int .i64 a2.Dst, .bool a2.NoSum, .string a2.Body]), (3, .int .i64 a3), (4, .int .i64 a4)]) (N := 46) (S := Sat w Z [] [] Glob) Tryz.func20 rfl rfl (Nat.le_of_ble_eq_true rfl) rfl hS ?_
  have hM := h
  clear h hS
  unfold station_Make.f at hM
  refine WP.seq ?_
  refine WP.run [] [0, 1, 3, 4, 7, 10, 11] (fun b1 => [(0, .int .u32 a0), (1, .int .u32 a1), (3, .int .i64 a3), (4, .int .i64 a4), (7, .pointer (some ⟨b1, 0, none⟩)), (10, .string (⟨#[]⟩ : ByteArray)), (11, .int .i64 0)]) (fun b1 => [(b1, .cells #[.int .i64 a2.Src, .int .i64 a2.Dst, .bool a2.NoSum, .string a2.Body] 40 (0, 0))]) (fun b1 => []) (fun b1 => by kernel_rfl) (fun b1 => ?_)
  refine WP.seq ?_
  refine WP.region ?_
  refine WL.run 3 [0, 0, 0, 0] [0, 1, 3, 4, 10, 11, 17, 18, 19] (fun _ => [(0, .int .u32 a0), (1, .int .u32 a1), (3, .int .i64 a3), (4, .int .i64 a4), (10, .string (⟨#[]⟩ : ByteArray)), (11, .int .i64 0), (17, .int .u32 a0), (18, .int .u32 a1), (19, .agg #[.int .i64 a2.Src, .int .i64 a2.Dst, .bool a2.NoSum, .string a2.Body])]) (fun _ => [(b1, .cells #[.int .i64 a2.Src, .int .i64 a2.Dst, .bool a2.NoSum, .string a2.Body] 40 (0, 0))]) (fun _ => [b1, b1, b1, b1]) (fun _ => by kernel_rfl) (fun _ => ?_)
  obtain ⟨⟨r2, r3⟩, h4, hM⟩ := bind_some hM
  dsimp only at hM
  refine WL.callP [] [] (udp_Build_calls k a0 a1 a2 _ h4) (fun _ h => h) (by kernel_rfl) (by kernel_rfl) rfl ?_
  refine WL.run 5 [] [0, 1, 3, 4, 10, 11, 12, 13] (fun _ => [(0, .int .u32 a0), (1, .int .u32 a1), (3, .int .i64 a3), (4, .int .i64 a4), (10, .string (⟨#[]⟩ : ByteArray)), (11, .int .i64 0), (12, .string r2), (13, .int .i64 r3)]) (fun _ => [(b1, .cells #[.int .i64 a2.Src, .int .i64 a2.Dst, .bool a2.NoSum, .string a2.Body] 40 (0, 0))]) (fun _ => []) (fun _ => by kernel_rfl) (fun _ => ?_)
  refine WP.done ?_
  refine WP.keep [false] (by kernel_rfl : _ = []) ?_
  refine WP.seq ?_
  refine WP.seq ?_
  refine WP.run [] [0, 1, 3, 4, 10, 11, 12, 13, 24] (fun _ => [(0, .int .u32 a0), (1, .int .u32 a1), (3, .int .i64 a3), (4, .int .i64 a4), (10, .string (⟨#[]⟩ : ByteArray)), (11, .int .i64 0), (12, .string r2), (13, .int .i64 r3), (24, .bool (r3 != 0))]) (fun _ => []) (fun _ => []) (fun _ => by kernel_rfl) (fun _ => ?_)
  refine WP.cond (r3 != 0) rfl rfl (fun c5 => ?_) (fun c5 => ?_)
  · replace hM := cond_t hM c5
    refine WP.seq ?_
    refine WP.run [] [0, 1, 3, 4, 10, 11, 12, 13] (fun _ => [(0, .int .u32 a0), (1, .int .u32 a1), (3, .int .i64 a3), (4, .int .i64 a4), (10, .string (⟨#[]⟩ : ByteArray)), (11, .int .i64 r3), (12, .string r2), (13, .int .i64 r3)]) (fun _ => []) (fun _ => []) (fun _ => by kernel_rfl) (fun _ => ?_)
    obtain rfl := Option.some.inj hM
    exact WP.ret [] [] (.tuple #[.string (⟨#[]⟩ : ByteArray), .int .i64 r3]) (by kernel_rfl) (fun w' hw => ⟨rfl, hw.pick [] rfl⟩)
  · replace hM := cond_f hM c5
    refine WP.skip ?_
    refine WP.seq ?_
    refine WP.run [0, 0, 0, 0, 0, 0, 0, 0, 0, 0] [4, 10, 11, 13, 14] (fun b6 => [(4, .int .i64 a4), (10, .string (⟨#[]⟩ : ByteArray)), (11, .int .i64 0), (13, .int .i64 r3), (14, .pointer (some ⟨b6, 0, none⟩))]) (fun b6 => [(b6, .cells #[.int .i64 0, .int .i64 (bAnd .i64 a3 65535), .bool true, .bool false, .int .i64 0, .int .i64 64, .int .i64 17, .int .u32 a0, .int .u32 a1, .string r2] 91 (0, 0))]) (fun b6 => [b6, b6, b6, b6, b6, b6, b6, b6, b6, b6]) (fun b6 => by kernel_rfl) (fun b6 => ?_)
    refine WP.seq ?_
    refine WP.region ?_
    refine WL.run 1 [0, 0, 0, 0, 0, 0, 0, 0, 0, 0] [4, 10, 11, 13, 33] (fun _ => [(4, .int .i64 a4), (10, .string (⟨#[]⟩ : ByteArray)), (11, .int .i64 0), (13, .int .i64 r3), (33, .agg #[.int .i64 0, .int .i64 (bAnd .i64 a3 65535), .bool true, .bool false, .int .i64 0, .int .i64 64, .int .i64 17, .int .u32 a0, .int .u32 a1, .string r2])]) (fun _ => [(b6, .cells #[.int .i64 0, .int .i64 (bAnd .i64 a3 65535), .bool true, .bool false, .int .i64 0, .int .i64 64, .int .i64 17, .int .u32 a0, .int .u32 a1, .string r2] 91 (0, 0))]) (fun _ => [b6, b6, b6, b6, b6, b6, b6, b6, b6, b6]) (fun _ => by kernel_rfl) (fun _ => ?_)
    obtain ⟨⟨r7, r8⟩, h9, hM⟩ := bind_some hM
    dsimp only at hM
    refine WL.callP [] [] (inet_Build_calls k (api_Ip.mk 0 (bAnd .i64 a3 65535) true false 0 64 17 a0 a1 r2) _ h9) (fun _ h => h) (by kernel_rfl) (by kernel_rfl) rfl ?_
    refine WL.run 5 [] [4, 10, 11, 13, 15] (fun _ => [(4, .int .i64 a4), (10, .string (⟨#[]⟩ : ByteArray)), (11, .int .i64 0), (13, .int .i64 r8), (15, .string r7)]) (fun _ => [(b6, .cells #[.int .i64 0, .int .i64 (bAnd .i64 a3 65535), .bool true, .bool false, .int .i64 0, .int .i64 64, .int .i64 17, .int .u32 a0, .int .u32 a1, .string r2] 91 (0, 0))]) (fun _ => []) (fun _ => by kernel_rfl) (fun _ => ?_)
    refine WP.done ?_
    refine WP.keep [false] (by kernel_rfl : _ = []) ?_
    refine WP.seq ?_
    refine WP.seq ?_
    refine WP.region ?_
    refine WL.run 3 [] [4, 10, 11, 15, 39] (fun _ => [(4, .int .i64 a4), (10, .string (⟨#[]⟩ : ByteArray)), (11, .int .i64 0), (15, .string r7), (39, .bool (r8 != 0))]) (fun _ => []) (fun _ => []) (fun _ => by kernel_rfl) (fun _ => ?_)
    refine WL.sub [4, 10, 11, 15, 39] (L' := [(4, .int .i64 a4), (10, .string (⟨#[]⟩ : ByteArray)), (11, .int .i64 0), (15, .string r7), (39, .bool (r8 != 0))]) (by kernel_rfl) ?_
    refine WL.both (fun b' => [(4, .int .i64 a4), (10, .string (⟨#[]⟩ : ByteArray)), (11, .int .i64 0), (15, .string r7), (39, .bool b')]) (r8 != 0) 5 [] [] [10, 11, 15, 44] (fun b' => [(10, .string (⟨#[]⟩ : ByteArray)), (11, .int .i64 0), (15, .string r7), (44, .bool (b' || (decide ((r7.size : Int) > a4))))]) [] [] (fun _ => by kernel_rfl) (fun _ => by kernel_rfl) ?_
    refine WP.done ?_
    refine WP.cond ((r8 != 0) || (decide ((r7.size : Int) > a4))) rfl rfl (fun c10 => ?_) (fun c10 => ?_)
    · replace hM := cond_t hM c10
      refine WP.seq ?_
      refine WP.run [] [10, 11, 15] (fun _ => [(10, .string (⟨#[]⟩ : ByteArray)), (11, .int .i64 201), (15, .string r7)]) (fun _ => []) (fun _ => []) (fun _ => by kernel_rfl) (fun _ => ?_)
      obtain rfl := Option.some.inj hM
      exact WP.ret [] [] (.tuple #[.string (⟨#[]⟩ : ByteArray), .int .i64 201]) (by kernel_rfl) (fun w' hw => ⟨rfl, hw.pick [] rfl⟩)
    · replace hM := cond_f hM c10
      refine WP.skip ?_
      refine WP.seq ?_
      refine WP.run [] [10, 11] (fun _ => [(10, .string r7), (11, .int .i64 0)]) (fun _ => []) (fun _ => []) (fun _ => by kernel_rfl) (fun _ => ?_)
      obtain rfl := Option.some.inj hM
      exact WP.ret [] [] (.tuple #[.string r7, .int .i64 0]) (by kernel_rfl) (fun w' hw => ⟨rfl, hw.pick [] rfl⟩)

end Go.Proofs.YtbodofjnfmjbpaaGreatDoor

namespace Go.Proofs.YtbodofjnfmjbpaaGreatDoor
open Go Eng
set_option linter.unusedVariables false
set_option linter.unusedSimpArgs false

/-! ### gangway/tunnel.Wrap: function 8 -/
def tunnel_Wrap.f (k : Nat) (a0 : Int) (a1 : Int) (a2 : Int) (a2_1 : Int) (a2_2 : (List Int)) (a3 : api_Frame) (a4 : Int) (a5 : Int) : Option (ByteArray × Int) :=
  (ether_Bare.f a3).bind fun r2 =>
  (ether_Build.f k r2).bind fun (r4, r5) =>
  bif (r5 != 0) then
    some ((⟨#[]⟩ : ByteArray), 220)
  else
    (vxlan_Build.f k a2_1 r4).bind fun (r8, r9) =>
    bif (r9 != 0) then
      some ((⟨#[]⟩ : ByteArray), r9)
    else
      (vxlan_Port.f k r4).bind fun r12 =>
      (station_Make.f k a0 a1 (api_Udp.mk r12 4789 true r8) a4 a5).bind fun (r15, r16) =>
      some (r15, r16)

set_option maxRecDepth 100000 in
theorem tunnel_Wrap_calls (k : Nat) (A00 : SkL Unit) (a0 : Int) (a1 : Int) (a2 : Int) (a2_1 : Int) (a2_2 : (List Int)) (a3 : api_Frame) (a4 : Int) (a5 : Int) (r : ByteArray × Int) (h : tunnel_Wrap.f k a0 a1 a2 a2_1 a2_2 a3 a4 a5 = some r) : Pure Tryz.prog ([Row 1 (pl (encI .u32)) noK A00 a2_2] ++ Glob) 8 #[.int .u32 a0, .int .u32 a1, .agg #[.int .i64 a2, .int .i64 a2_1, slcV A00 a2_2.length], .agg #[.int .u64 a3.Dst, .int .u64 a3.Src, .bool a3.Tag.Has, .int .i64 a3.Tag.Pri, .bool a3.Tag.Dei, .int .i64 a3.Tag.Vid, .int .i64 a3.Type_, .string a3.Body], .int .i64 a4, .int .i64 a5] (.tuple #[.string r.1, .int .i64 r.2]) := by
  intro w Z hS
  refine calls_of (args := [.int .u32 a0, .int .u32 a1, .agg #[.int .i64 a2, .int .i64 a2_1, slcV A00 a2_2.length], .agg #[.int .u64 a3.Dst, .int .u64 a3.Src, .bool a3.Tag.Has, .int .i64 a3.Tag.Pri, .bool a3.Tag.Dei, .int .i64 a3.Tag.Vid, .int .i64 a3.Type_, .string a3.Body], .int .i64 a4, .int .i64 a5]) (L := [(0, .int .u32 a0), (1, .int .u32 a1), (2, .agg #[.int .i64 a2, .int .i64 a2_1, slcV A00 a2_2.length]), (3, .agg #[.int .u64 a3.Dst, .int .u64 a3.Src, .bool a3.Tag.Has, .int .i64 a3.Tag.Pri, .bool a3.Tag.Dei, .int .i64 a3.Tag.Vid, .int .i64 a3.Type_, .string a3.Body]), (4, .int .i64 a4), (5, .int .i64 a5)]) (N := 48) (S := Sat w Z [] [] ([Row 1 (pl (encI .u32)) noK A00 a2_2] ++ Glob)) Tryz.func8 rfl rfl (Nat.le_of_ble_eq_true rfl) rfl hS ?_
  have hM := h
  clear h hS
  unfold tunnel_Wrap.f at hM
  refine WP.seq ?_
  refine WP.run [] [0, 1, 4, 5, 8, 9, 12, 13] (fun b1 => [(0, .int .u32 a0), (1, .int .u32 a1), (4, .int .i64 a4), (5, .int .i64 a5), (8, .pointer (some ⟨b1, 0, none⟩)), (9, .pointer (some ⟨(b1 + 1), 0, none⟩)), (12, .string (⟨#[]⟩ : ByteArray)), (13, .int .i64 0)]) (fun b1 => [(b1, .cells #[.int .i64 a2, .int .i64 a2_1, slcV A00 a2_2.length] 35 (0, 0)), ((b1 + 1), .cells #[.int .u64 a3.Dst, .int .u64 a3.Src, .bool a3.Tag.Has, .int .i64 a3.Tag.Pri, .bool a3.Tag.Dei, .int .i64 a3.Tag.Vid, .int .i64 a3.Type_, .string a3.Body] 29 (0, 0))]) (fun b1 => []) (fun b1 => by kernel_rfl) (fun b1 => ?_)
  refine WP.seq ?_
  refine WP.region ?_
  refine WL.run 1 [1, 1, 1, 1, 1, 1, 1, 1] [0, 1, 4, 5, 8, 12, 13, 19] (fun _ => [(0, .int .u32 a0), (1, .int .u32 a1), (4, .int .i64 a4), (5, .int .i64 a5), (8, .pointer (some ⟨b1, 0, none⟩)), (12, .string (⟨#[]⟩ : ByteArray)), (13, .int .i64 0), (19, .agg #[.int .u64 a3.Dst, .int .u64 a3.Src, .bool a3.Tag.Has, .int .i64 a3.Tag.Pri, .bool a3.Tag.Dei, .int .i64 a3.Tag.Vid, .int .i64 a3.Type_, .string a3.Body])]) (fun _ => [(b1, .cells #[.int .i64 a2, .int .i64 a2_1, slcV A00 a2_2.length] 35 (0, 0)), ((b1 + 1), .cells #[.int .u64 a3.Dst, .int .u64 a3.Src, .bool a3.Tag.Has, .int .i64 a3.Tag.Pri, .bool a3.Tag.Dei, .int .i64 a3.Tag.Vid, .int .i64 a3.Type_, .string a3.Body] 29 (0, 0))]) (fun _ => [(b1 + 1), (b1 + 1), (b1 + 1), (b1 + 1), (b1 + 1), (b1 + 1), (b1 + 1), (b1 + 1)]) (fun _ => by kernel_rfl) (fun _ => ?_)
  obtain ⟨r2, h3, hM⟩ := bind_some hM
  refine WL.callP [] [] (ether_Bare_calls a3 _ h3) (fun _ h => List.mem_append_right _ h) (by kernel_rfl) (by kernel_rfl) rfl ?_
  obtain ⟨⟨r4, r5⟩, h6, hM⟩ := bind_some hM
  dsimp only at hM
  refine WL.callP [] [] (ether_Build_calls k r2 _ h6) (fun _ h => List.mem_append_right _ h) (by kernel_rfl) (by kernel_rfl) rfl ?_
  refine WL.run 5 [] [0, 1, 4, 5, 8, 12, 13, 14, 15] (fun _ => [(0, .int .u32 a0), (1, .int .u32 a1), (4, .int .i64 a4), (5, .int .i64 a5), (8, .pointer (some ⟨b1, 0, none⟩)), (12, .string (⟨#[]⟩ : ByteArray)), (13, .int .i64 0), (14, .string r4), (15, .int .i64 r5)]) (fun _ => [(b1, .cells #[.int .i64 a2, .int .i64 a2_1, slcV A00 a2_2.length] 35 (0, 0)), ((b1 + 1), .cells #[.int .u64 a3.Dst, .int .u64 a3.Src, .bool a3.Tag.Has, .int .i64 a3.Tag.Pri, .bool a3.Tag.Dei, .int .i64 a3.Tag.Vid, .int .i64 a3.Type_, .string a3.Body] 29 (0, 0))]) (fun _ => []) (fun _ => by kernel_rfl) (fun _ => ?_)
  refine WP.done ?_
  refine WP.keep [true, false] (by kernel_rfl : _ = [(b1, .cells #[.int .i64 a2, .int .i64 a2_1, slcV A00 a2_2.length] 35 (0, 0))]) ?_
  refine WP.seq ?_
  refine WP.seq ?_
  refine WP.run [] [0, 1, 4, 5, 8, 12, 13, 14, 15, 25] (fun _ => [(0, .int .u32 a0), (1, .int .u32 a1), (4, .int .i64 a4), (5, .int .i64 a5), (8, .pointer (some ⟨b1, 0, none⟩)), (12, .string (⟨#[]⟩ : ByteArray)), (13, .int .i64 0), (14, .string r4), (15, .int .i64 r5), (25, .bool (r5 != 0))]) (fun _ => [(b1, .cells #[.int .i64 a2, .int .i64 a2_1, slcV A00 a2_2.length] 35 (0, 0))]) (fun _ => []) (fun _ => by kernel_rfl) (fun _ => ?_)
  refine WP.cond (r5 != 0) rfl rfl (fun c7 => ?_) (fun c7 => ?_)
  · replace hM := cond_t hM c7
    refine WP.seq ?_
    refine WP.run [] [0, 1, 4, 5, 8, 12, 13, 14, 15] (fun _ => [(0, .int .u32 a0), (1, .int .u32 a1), (4, .int .i64 a4), (5, .int .i64 a5), (8, .pointer (some ⟨b1, 0, none⟩)), (12, .string (⟨#[]⟩ : ByteArray)), (13, .int .i64 220), (14, .string r4), (15, .int .i64 r5)]) (fun _ => [(b1, .cells #[.int .i64 a2, .int .i64 a2_1, slcV A00 a2_2.length] 35 (0, 0))]) (fun _ => []) (fun _ => by kernel_rfl) (fun _ => ?_)
    obtain rfl := Option.some.inj hM
    exact WP.ret [] [] (.tuple #[.string (⟨#[]⟩ : ByteArray), .int .i64 220]) (by kernel_rfl) (fun w' hw => ⟨rfl, (hw.pick [] rfl).lessF [0] (by kernel_rfl)⟩)
  · replace hM := cond_f hM c7
    refine WP.skip ?_
    refine WP.seq ?_
    refine WP.region ?_
    refine WL.run 3 [0] [0, 1, 4, 5, 12, 13, 14, 15, 28, 29] (fun _ => [(0, .int .u32 a0), (1, .int .u32 a1), (4, .int .i64 a4), (5, .int .i64 a5), (12, .string (⟨#[]⟩ : ByteArray)), (13, .int .i64 0), (14, .string r4), (15, .int .i64 r5), (28, .int .i64 a2_1), (29, .string r4)]) (fun _ => [(b1, .cells #[.int .i64 a2, .int .i64 a2_1, slcV A00 a2_2.length] 35 (0, 0))]) (fun _ => [b1]) (fun _ => by kernel_rfl) (fun _ => ?_)
    obtain ⟨⟨r8, r9⟩, h10, hM⟩ := bind_some hM
    dsimp only at hM
    refine WL.callP [] [] (vxlan_Build_calls k a2_1 r4 _ h10) (fun _ h => List.mem_append_right _ h) (by kernel_rfl) (by kernel_rfl) rfl ?_
    refine WL.run 5 [] [0, 1, 4, 5, 12, 13, 14, 15, 16] (fun _ => [(0, .int .u32 a0), (1, .int .u32 a1), (4, .int .i64 a4), (5, .int .i64 a5), (12, .string (⟨#[]⟩ : ByteArray)), (13, .int .i64 0), (14, .string r4), (15, .int .i64 r9), (16, .string r8)]) (fun _ => [(b1, .cells #[.int .i64 a2, .int .i64 a2_1, slcV A00 a2_2.length] 35 (0, 0))]) (fun _ => []) (fun _ => by kernel_rfl) (fun _ => ?_)
    refine WP.done ?_
    refine WP.keep [false] (by kernel_rfl : _ = []) ?_
    refine WP.seq ?_
    refine WP.seq ?_
    refine WP.run [] [0, 1, 4, 5, 12, 13, 14, 15, 16, 34] (fun _ => [(0, .int .u32 a0), (1, .int .u32 a1), (4, .int .i64 a4), (5, .int .i64 a5), (12, .string (⟨#[]⟩ : ByteArray)), (13, .int .i64 0), (14, .string r4), (15, .int .i64 r9), (16, .string r8), (34, .bool (r9 != 0))]) (fun _ => []) (fun _ => []) (fun _ => by kernel_rfl) (fun _ => ?_)
    refine WP.cond (r9 != 0) rfl rfl (fun c11 => ?_) (fun c11 => ?_)
    · replace hM := cond_t hM c11
      refine WP.seq ?_
      refine WP.run [] [0, 1, 4, 5, 12, 13, 14, 16] (fun _ => [(0, .int .u32 a0), (1, .int .u32 a1), (4, .int .i64 a4), (5, .int .i64 a5), (12, .string (⟨#[]⟩ : ByteArray)), (13, .int .i64 r9), (14, .string r4), (16, .string r8)]) (fun _ => []) (fun _ => []) (fun _ => by kernel_rfl) (fun _ => ?_)
      obtain rfl := Option.some.inj hM
      exact WP.ret [] [] (.tuple #[.string (⟨#[]⟩ : ByteArray), .int .i64 r9]) (by kernel_rfl) (fun w' hw => ⟨rfl, (hw.pick [] rfl).lessF [0] (by kernel_rfl)⟩)
    · replace hM := cond_f hM c11
      refine WP.skip ?_
      refine WP.seq ?_
      refine WP.region ?_
      refine WL.run 1 [] [0, 1, 4, 5, 12, 13, 16, 36] (fun _ => [(0, .int .u32 a0), (1, .int .u32 a1), (4, .int .i64 a4), (5, .int .i64 a5), (12, .string (⟨#[]⟩ : ByteArray)), (13, .int .i64 0), (16, .string r8), (36, .string r4)]) (fun _ => []) (fun _ => []) (fun _ => by kernel_rfl) (fun _ => ?_)
      obtain ⟨r12, h13, hM⟩ := bind_some hM
      refine WL.callP [] [] (vxlan_Port_calls k r4 _ h13) (fun _ h => List.mem_append_right _ h) (by kernel_rfl) (by kernel_rfl) rfl ?_
      refine WL.run 4 [0, 0, 0, 0] [0, 1, 4, 5, 12, 13, 17] (fun b14 => [(0, .int .u32 a0), (1, .int .u32 a1), (4, .int .i64 a4), (5, .int .i64 a5), (12, .string (⟨#[]⟩ : ByteArray)), (13, .int .i64 0), (17, .pointer (some ⟨b14, 0, none⟩))]) (fun b14 => [(b14, .cells #[.int .i64 r12, .int .i64 4789, .bool true, .string r8] 40 (0, 0))]) (fun b14 => [b14, b14, b14, b14]) (fun b14 => by kernel_rfl) (fun b14 => ?_)
      refine WP.done ?_
      refine WP.seq ?_
      refine WP.region ?_
      refine WL.run 5 [0, 0, 0, 0] [12, 13, 40, 41, 42, 43, 44] (fun _ => [(12, .string (⟨#[]⟩ : ByteArray)), (13, .int .i64 0), (40, .int .u32 a0), (41, .int .u32 a1), (42, .agg #[.int .i64 r12, .int .i64 4789, .bool true, .string r8]), (43, .int .i64 a4), (44, .int .i64 a5)]) (fun _ => [(b14, .cells #[.int .i64 r12, .int .i64 4789, .bool true, .string r8] 40 (0, 0))]) (fun _ => [b14, b14, b14, b14]) (fun _ => by kernel_rfl) (fun _ => ?_)
      obtain ⟨⟨r15, r16⟩, h17, hM⟩ := bind_some hM
      dsimp only at hM
      refine WL.callP [] [] (station_Make_calls k a0 a1 (api_Udp.mk r12 4789 true r8) a4 a5 _ h17) (fun _ h => List.mem_append_right _ h) (by kernel_rfl) (by kernel_rfl) rfl ?_
      refine WL.run 4 [] [12, 13] (fun _ => [(12, .string r15), (13, .int .i64 r16)]) (fun _ => [(b14, .cells #[.int .i64 r12, .int .i64 4789, .bool true, .string r8] 40 (0, 0))]) (fun _ => []) (fun _ => by kernel_rfl) (fun _ => ?_)
      refine WP.done ?_
      refine WP.keep [false] (by kernel_rfl : _ = []) ?_
      obtain rfl := Option.some.inj hM
      exact WP.ret [] [] (.tuple #[.string r15, .int .i64 r16]) (by kernel_rfl) (fun w' hw => ⟨rfl, (hw.pick [] rfl).lessF [0] (by kernel_rfl)⟩)

end Go.Proofs.YtbodofjnfmjbpaaGreatDoor

namespace Go.Proofs.YtbodofjnfmjbpaaGreatDoor
open Go Eng
set_option linter.unusedVariables false
set_option linter.unusedSimpArgs false

/-! ### gangway/csum.Right: function 116 -/
def csum_Right.f (k : Nat) (a0 : (List ByteArray)) : Option (Bool) :=
  (csum_total.f k a0).bind fun r1 =>
  some (r1 == 65535)

set_option maxRecDepth 100000 in
theorem csum_Right_calls (k : Nat) (A00 : SkL Unit) (a0 : (List ByteArray)) (r : Bool) (h : csum_Right.f k a0 = some r) : Pure Tryz.prog ([Row 1 (pl encS) noK A00 a0] ++ Glob) 116 #[slcV A00 a0.length] (.bool r) := by
  intro w Z hS
  refine calls_of (args := [slcV A00 a0.length]) (L := [(0, slcV A00 a0.length)]) (N := 6) (S := Sat w Z [] [] ([Row 1 (pl encS) noK A00 a0] ++ Glob)) Tryz.func116 rfl rfl (Nat.le_of_ble_eq_true rfl) rfl hS ?_
  have hM := h
  clear h hS
  unfold csum_Right.f at hM
  refine WP.seq ?_
  refine WP.run [] [0, 2] (fun _ => [(0, slcV A00 a0.length), (2, .bool false)]) (fun _ => []) (fun _ => []) (fun _ => by kernel_rfl) (fun _ => ?_)
  refine WP.seq ?_
  refine WP.region ?_
  refine WL.run 1 [] [2, 3] (fun _ => [(2, .bool false), (3, slcV A00 a0.length)]) (fun _ => []) (fun _ => []) (fun _ => by kernel_rfl) (fun _ => ?_)
  obtain ⟨r1, h2, hM⟩ := bind_some hM
  refine WL.callP [] [] (csum_total_calls k A00 a0 _ h2) (sub_pick [0] (by kernel_rfl)) (by kernel_rfl) (by kernel_rfl) rfl ?_
  refine WL.run 2 [] [2] (fun _ => [(2, .bool (r1 == 65535))]) (fun _ => []) (fun _ => []) (fun _ => by kernel_rfl) (fun _ => ?_)
  refine WP.done ?_
  obtain rfl := Option.some.inj hM
  exact WP.ret [] [] (.bool (r1 == 65535)) (by kernel_rfl) (fun w' hw => ⟨rfl, (hw.pick [] rfl).lessF [0] (by kernel_rfl)⟩)

end Go.Proofs.YtbodofjnfmjbpaaGreatDoor

namespace Go.Proofs.YtbodofjnfmjbpaaGreatDoor
open Go Eng
set_option linter.unusedVariables false
set_option linter.unusedSimpArgs false

/-! ### gangway/octets.part: function 101 -/
def octets_part.f (a0 : ByteArray) (a1 : Int) (a2 : Int) : Option (ByteArray × Un0) :=
  bif ((decide (a1 < 0)) || (decide (a2 < 0))) then
    some ((⟨#[]⟩ : ByteArray), some (a1, 1))
  else
    bif ((decide (a1 > (a0.size : Int))) || (decide (a2 > (i64 ((a0.size : Int) - a1))))) then
      some ((⟨#[]⟩ : ByteArray), some (a1, 10))
    else
      (sliceS a0 a1 (i64 (a1 + a2))).bind fun t3 =>
      some (t3, none)

set_option maxRecDepth 100000 in
theorem octets_part_calls (a0 : ByteArray) (a1 : Int) (a2 : Int) (r : ByteArray × Un0) (h : octets_part.f a0 a1 a2 = some r) : Pure Tryz.prog Glob 101 #[.string a0, .int .i64 a1, .int .i64 a2] (.tuple #[.string r.1, Un0.v r.2]) := by
  intro w Z hS
  refine calls_of (args := [.string a0, .int .i64 a1, .int .i64 a2]) (L := [(0, .string a0), (1, .int .i64 a1), (2, .int .i64 a2)]) (N := 42) (S := Sat w Z [] [] Glob) Tryz.func101 rfl rfl (Nat.le_of_ble_eq_true rfl) rfl hS ?_
  have hM := h
  clear h hS
  unfold octets_part.f at hM
  refine WP.seq ?_
  refine WP.run [] [0, 1, 2, 6, 7] (fun _ => [(0, .string a0), (1, .int .i64 a1), (2, .int .i64 a2), (6, .string (⟨#[]⟩ : ByteArray)), (7, .nilIface)]) (fun _ => []) (fun _ => []) (fun _ => by kernel_rfl) (fun _ => ?_)
  refine WP.seq ?_
  refine WP.block ?_
  refine WP.seq ?_
  refine WP.region ?_
  refine WL.run 3 [] [0, 1, 2, 6, 7, 11] (fun _ => [(0, .string a0), (1, .int .i64 a1), (2, .int .i64 a2), (6, .string (⟨#[]⟩ : ByteArray)), (7, .nilIface), (11, .bool (decide (a1 < 0)))]) (fun _ => []) (fun _ => []) (fun _ => by kernel_rfl) (fun _ => ?_)
  refine WL.sub [0, 1, 2, 6, 7, 11] (L' := [(0, .string a0), (1, .int .i64 a1), (2, .int .i64 a2), (6, .string (⟨#[]⟩ : ByteArray)), (7, .nilIface), (11, .bool (decide (a1 < 0)))]) (by kernel_rfl) ?_
  refine WL.both (fun b' => [(0, .string a0), (1, .int .i64 a1), (2, .int .i64 a2), (6, .string (⟨#[]⟩ : ByteArray)), (7, .nilIface), (11, .bool b')]) (decide (a1 < 0)) 3 [] [] [0, 1, 2, 6, 7, 14] (fun b' => [(0, .string a0), (1, .int .i64 a1), (2, .int .i64 a2), (6, .string (⟨#[]⟩ : ByteArray)), (7, .nilIface), (14, .bool (b' || (decide (a2 < 0))))]) [] [] (fun _ => by kernel_rfl) (fun _ => by kernel_rfl) ?_
  refine WL.run 1 [] [0, 1, 2, 6, 7, 8] (fun _ => [(0, .string a0), (1, .int .i64 a1), (2, .int .i64 a2), (6, .string (⟨#[]⟩ : ByteArray)), (7, .nilIface), (8, .bool ((decide (a1 < 0)) || (decide (a2 < 0))))]) (fun _ => []) (fun _ => []) (fun _ => by kernel_rfl) (fun _ => ?_)
  refine WP.done ?_
  refine WP.cond ((decide (a1 < 0)) || (decide (a2 < 0))) rfl rfl (fun c1 => ?_) (fun c1 => ?_)
  · replace hM := cond_t hM c1
    refine WP.seq ?_
    refine WP.run [] [0, 1, 2, 6, 7] (fun _ => [(0, .string a0), (1, .int .i64 a1), (2, .int .i64 a2), (6, .string (⟨#[]⟩ : ByteArray)), (7, .iface 181 (.agg #[.int .i64 a1, .iface 30 (.int .i64 1)]))]) (fun _ => []) (fun _ => []) (fun _ => by kernel_rfl) (fun _ => ?_)
    obtain rfl := Option.some.inj hM
    exact WP.ret [] [] (.tuple #[.string (⟨#[]⟩ : ByteArray), .iface 181 (.agg #[.int .i64 a1, .iface 30 (.int .i64 1)])]) (by kernel_rfl) (fun w' hw => ⟨rfl, hw.pick [] rfl⟩)
  · replace hM := cond_f hM c1
    refine WP.seq ?_
    refine WP.region ?_
    refine WL.run 5 [] [0, 1, 2, 6, 7, 24] (fun _ => [(0, .string a0), (1, .int .i64 a1), (2, .int .i64 a2), (6, .string (⟨#[]⟩ : ByteArray)), (7, .nilIface), (24, .bool (decide (a1 > (a0.size : Int))))]) (fun _ => []) (fun _ => []) (fun _ => by kernel_rfl) (fun _ => ?_)
    refine WL.sub [0, 1, 2, 6, 7, 24] (L' := [(0, .string a0), (1, .int .i64 a1), (2, .int .i64 a2), (6, .string (⟨#[]⟩ : ByteArray)), (7, .nilIface), (24, .bool (decide (a1 > (a0.size : Int))))]) (by kernel_rfl) ?_
    refine WL.both (fun b' => [(0, .string a0), (1, .int .i64 a1), (2, .int .i64 a2), (6, .string (⟨#[]⟩ : ByteArray)), (7, .nilIface), (24, .bool b')]) (decide (a1 > (a0.size : Int))) 7 [] [] [0, 1, 2, 6, 7, 31] (fun b' => [(0, .string a0), (1, .int .i64 a1), (2, .int .i64 a2), (6, .string (⟨#[]⟩ : ByteArray)), (7, .nilIface), (31, .bool (b' || (decide (a2 > (i64 ((a0.size : Int) - a1))))))]) [] [] (fun _ => by kernel_rfl) (fun _ => by kernel_rfl) ?_
    refine WL.run 1 [] [0, 1, 2, 6, 7, 19] (fun _ => [(0, .string a0), (1, .int .i64 a1), (2, .int .i64 a2), (6, .string (⟨#[]⟩ : ByteArray)), (7, .nilIface), (19, .bool ((decide (a1 > (a0.size : Int))) || (decide (a2 > (i64 ((a0.size : Int) - a1))))))]) (fun _ => []) (fun _ => []) (fun _ => by kernel_rfl) (fun _ => ?_)
    refine WP.done ?_
    refine WP.cond ((decide (a1 > (a0.size : Int))) || (decide (a2 > (i64 ((a0.size : Int) - a1))))) rfl rfl (fun c2 => ?_) (fun c2 => ?_)
    · replace hM := cond_t hM c2
      refine WP.seq ?_
      refine WP.run [] [0, 1, 2, 6, 7] (fun _ => [(0, .string a0), (1, .int .i64 a1), (2, .int .i64 a2), (6, .string (⟨#[]⟩ : ByteArray)), (7, .iface 181 (.agg #[.int .i64 a1, .iface 30 (.int .i64 10)]))]) (fun _ => []) (fun _ => []) (fun _ => by kernel_rfl) (fun _ => ?_)
      obtain rfl := Option.some.inj hM
      exact WP.ret [] [] (.tuple #[.string (⟨#[]⟩ : ByteArray), .iface 181 (.agg #[.int .i64 a1, .iface 30 (.int .i64 10)])]) (by kernel_rfl) (fun w' hw => ⟨rfl, hw.pick [] rfl⟩)
    · replace hM := cond_f hM c2
      refine WP.skip ?_
      refine WP.leave ?_
      refine WP.seq ?_
      refine WP.region ?_
      refine WL.run 5 [] [6, 7, 36, 37, 40] (fun _ => [(6, .string (⟨#[]⟩ : ByteArray)), (7, .nilIface), (36, .string a0), (37, .int .i64 a1), (40, .int .i64 (i64 (a1 + a2)))]) (fun _ => []) (fun _ => []) (fun _ => by kernel_rfl) (fun _ => ?_)
      obtain ⟨t3, h4, hM⟩ := bind_some hM
      refine WL.val (fun _ => run_sliceS (s := a0) (kl := .i64) (kh := .i64) (l := a1) (h := i64 (a1 + a2)) (by kernel_rfl) (by kernel_rfl) (by kernel_rfl) (by kernel_rfl) h4) (by kernel_rfl) (by kernel_rfl) rfl ?_
      refine WL.run 2 [] [6, 7] (fun _ => [(6, .string t3), (7, .nilIface)]) (fun _ => []) (fun _ => []) (fun _ => by kernel_rfl) (fun _ => ?_)
      refine WP.done ?_
      obtain rfl := Option.some.inj hM
      exact WP.ret [] [] (.tuple #[.string t3, .nilIface]) (by kernel_rfl) (fun w' hw => ⟨rfl, hw.pick [] rfl⟩)

end Go.Proofs.YtbodofjnfmjbpaaGreatDoor

namespace Go.Proofs.YtbodofjnfmjbpaaGreatDoor
open Go Eng
set_option linter.unusedVariables false
set_option linter.unusedSimpArgs false

/-! ### (gangway/octets.at).Unwrap: function 161 -/
def octets_at_Unwrap.f (a0 : Int) (a0_1 : Int) : Option (Int) :=
  some a0_1

set_option maxRecDepth 100000 in
theorem octets_at_Unwrap_calls (a0 : Int) (a0_1 : Int) (r : Int) (h : octets_at_Unwrap.f a0 a0_1 = some r) : Pure Tryz.prog Glob 161 #[.agg #[.int .i64 a0, .iface 30 (.int .i64 a0_1)]] (.iface 30 (.int .i64 r)) := by
  intro w Z hS
  refine calls_of (args := [.agg #[.int .i64 a0, .iface 30 (.int .i64 a0_1)]]) (L := [(0, .agg #[.int .i64 a0, .iface 30 (.int .i64 a0_1)])]) (N := 5) (S := Sat w Z [] [] Glob) Tryz.func161 rfl rfl (Nat.le_of_ble_eq_true rfl) rfl hS ?_
  have hM := h
  clear h hS
  unfold octets_at_Unwrap.f at hM
  refine WP.seq ?_
  refine WP.run [] [1, 2] (fun b1 => [(1, .pointer (some ⟨b1, 0, none⟩)), (2, .nilIface)]) (fun b1 => [(b1, .cells #[.int .i64 a0, .iface 30 (.int .i64 a0_1)] 181 (0, 0))]) (fun b1 => []) (fun b1 => by kernel_rfl) (fun b1 => ?_)
  refine WP.seq ?_
  refine WP.run [0] [2] (fun _ => [(2, .iface 30 (.int .i64 a0_1))]) (fun _ => [(b1, .cells #[.int .i64 a0, .iface 30 (.int .i64 a0_1)] 181 (0, 0))]) (fun _ => [b1]) (fun _ => by kernel_rfl) (fun _ => ?_)
  refine WP.keep [false] (by kernel_rfl : _ = []) ?_
  obtain rfl := Option.some.inj hM
  exact WP.ret [] [] (.iface 30 (.int .i64 a0_1)) (by kernel_rfl) (fun w' hw => ⟨rfl, hw.pick [] rfl⟩)

end Go.Proofs.YtbodofjnfmjbpaaGreatDoor

namespace Go.Proofs.YtbodofjnfmjbpaaGreatDoor
open Go Eng
set_option linter.unusedVariables false
set_option linter.unusedSimpArgs false

/-! ### errors.as: function 62 -/
def errors_as.f (a0 : Int) (a0_1 : Int) (a1 : Int) : Option (Bool × Int) :=
  (octets_at_Unwrap.f a0 a0_1).bind fun r3 =>
  some (true, r3)

set_option maxRecDepth 100000 in
theorem errors_as_calls (b_0 : Nat) (b_1 : Nat) (a0 : Int) (a0_1 : Int) (a1 : Int) (r : Bool × Int) (h : errors_as.f a0 a0_1 a1 = some r) : Does Tryz.prog 62 #[.iface 181 (.agg #[.int .i64 a0, .iface 30 (.int .i64 a0_1)]), .iface 175 (.pointer (some ⟨b_0, 0, none⟩)), .agg #[.pointer (some ⟨2, 175, none⟩), .pointer (some ⟨b_1, 0, none⟩), .int .u64 150], .iface 148 (.agg #[.pointer (some ⟨2, 30, none⟩)])] [(b_0, .cells #[.int .i64 a1] 30 (0, 0)), (b_1, .cells #[.pointer (some ⟨b_0, 0, none⟩)] 175 (0, 0))] Glob (fun _ : Unit => .bool r.1) (fun _ => [(b_0, .cells #[.int .i64 r.2] 30 (0, 0)), (b_1, .cells #[.pointer (some ⟨b_0, 0, none⟩)] 175 (0, 0))]) (fun _ => []) (fun _ => Glob) := by
  intro w Z hS
  refine calls_of (args := [.iface 181 (.agg #[.int .i64 a0, .iface 30 (.int .i64 a0_1)]), .iface 175 (.pointer (some ⟨b_0, 0, none⟩)), .agg #[.pointer (some ⟨2, 175, none⟩), .pointer (some ⟨b_1, 0, none⟩), .int .u64 150], .iface 148 (.agg #[.pointer (some ⟨2, 30, none⟩)])]) (L := [(0, .iface 181 (.agg #[.int .i64 a0, .iface 30 (.int .i64 a0_1)])), (1, .iface 175 (.pointer (some ⟨b_0, 0, none⟩))), (2, .agg #[.pointer (some ⟨2, 175, none⟩), .pointer (some ⟨b_1, 0, none⟩), .int .u64 150]), (3, .iface 148 (.agg #[.pointer (some ⟨2, 30, none⟩)]))]) (N := 62) (S := Sat w Z [(b_0, .cells #[.int .i64 a1] 30 (0, 0)), (b_1, .cells #[.pointer (some ⟨b_0, 0, none⟩)] 175 (0, 0))] [] Glob) Tryz.func62 rfl rfl (Nat.le_of_ble_eq_true rfl) rfl hS ?_
  have hM := h
  clear h hS
  unfold errors_as.f at hM
  refine WP.seq ?_
  refine WP.run [] [0, 1, 3, 6, 8] (fun b1 => [(0, .iface 181 (.agg #[.int .i64 a0, .iface 30 (.int .i64 a0_1)])), (1, .iface 175 (.pointer (some ⟨b_0, 0, none⟩))), (3, .iface 148 (.agg #[.pointer (some ⟨2, 30, none⟩)])), (6, .pointer (some ⟨b1, 0, none⟩)), (8, .bool false)]) (fun b1 => [(b_0, .cells #[.int .i64 a1] 30 (0, 0)), (b_1, .cells #[.pointer (some ⟨b_0, 0, none⟩)] 175 (0, 0)), (b1, .cells #[.pointer (some ⟨2, 175, none⟩), .pointer (some ⟨b_1, 0, none⟩), .int .u64 150] 106 (0, 0))]) (fun b1 => []) (fun b1 => by kernel_rfl) (fun b1 => ?_)
  refine WP.block ?_
  refine WP.unroll 40 ?_
  refine WP.block ?_
  refine WP.seq ?_
  refine WP.seq ?_
  refine WP.run [] [0, 1, 3, 6, 8, 16, 17, 18, 19] (fun _ => [(0, .iface 181 (.agg #[.int .i64 a0, .iface 30 (.int .i64 a0_1)])), (1, .iface 175 (.pointer (some ⟨b_0, 0, none⟩))), (3, .iface 148 (.agg #[.pointer (some ⟨2, 30, none⟩)])), (6, .pointer (some ⟨b1, 0, none⟩)), (8, .bool false), (16, .iface 181 (.agg #[.int .i64 a0, .iface 30 (.int .i64 a0_1)])), (17, .iface 148 (.agg #[.pointer (some ⟨2, 181, none⟩)])), (18, .iface 148 (.agg #[.pointer (some ⟨2, 30, none⟩)])), (19, .bool false)]) (fun _ => [(b_0, .cells #[.int .i64 a1] 30 (0, 0)), (b_1, .cells #[.pointer (some ⟨b_0, 0, none⟩)] 175 (0, 0)), (b1, .cells #[.pointer (some ⟨2, 175, none⟩), .pointer (some ⟨b_1, 0, none⟩), .int .u64 150] 106 (0, 0))]) (fun _ => []) (fun _ => by kernel_rfl) (fun _ => ?_)
  refine WP.no rfl rfl ?_
  refine WP.skip ?_
  refine WP.seq ?_
  refine WP.seq ?_
  refine WP.region ?_
  refine WL.run 1 [] [0, 1, 3, 6, 8, 16, 17, 18, 19, 26] (fun _ => [(0, .iface 181 (.agg #[.int .i64 a0, .iface 30 (.int .i64 a0_1)])), (1, .iface 175 (.pointer (some ⟨b_0, 0, none⟩))), (3, .iface 148 (.agg #[.pointer (some ⟨2, 30, none⟩)])), (6, .pointer (some ⟨b1, 0, none⟩)), (8, .bool false), (16, .iface 181 (.agg #[.int .i64 a0, .iface 30 (.int .i64 a0_1)])), (17, .iface 148 (.agg #[.pointer (some ⟨2, 181, none⟩)])), (18, .iface 148 (.agg #[.pointer (some ⟨2, 30, none⟩)])), (19, .bool false), (26, .iface 181 (.agg #[.int .i64 a0, .iface 30 (.int .i64 a0_1)]))]) (fun _ => [(b_0, .cells #[.int .i64 a1] 30 (0, 0)), (b_1, .cells #[.pointer (some ⟨b_0, 0, none⟩)] 175 (0, 0)), (b1, .cells #[.pointer (some ⟨2, 175, none⟩), .pointer (some ⟨b_1, 0, none⟩), .int .u64 150] 106 (0, 0))]) (fun _ => []) (fun _ => by kernel_rfl) (fun _ => ?_)
  refine WL.val (fun _ => run_assertLacks (t := 181) (v := .agg #[.int .i64 a0, .iface 30 (.int .i64 a0_1)]) (z := .nilIface) (by kernel_rfl) (by kernel_rfl) (by kernel_rfl)) (by kernel_rfl) (by kernel_rfl) rfl ?_
  refine WL.run 5 [] [0, 1, 3, 6, 8, 9, 10, 16, 17, 18, 19, 25, 26, 27, 28, 29] (fun _ => [(0, .iface 181 (.agg #[.int .i64 a0, .iface 30 (.int .i64 a0_1)])), (1, .iface 175 (.pointer (some ⟨b_0, 0, none⟩))), (3, .iface 148 (.agg #[.pointer (some ⟨2, 30, none⟩)])), (6, .pointer (some ⟨b1, 0, none⟩)), (8, .bool false), (9, .nilIface), (10, .bool false), (16, .iface 181 (.agg #[.int .i64 a0, .iface 30 (.int .i64 a0_1)])), (17, .iface 148 (.agg #[.pointer (some ⟨2, 181, none⟩)])), (18, .iface 148 (.agg #[.pointer (some ⟨2, 30, none⟩)])), (19, .bool false), (25, .tuple #[.nilIface, .bool false]), (26, .iface 181 (.agg #[.int .i64 a0, .iface 30 (.int .i64 a0_1)])), (27, .tuple #[.nilIface, .bool false]), (28, .nilIface), (29, .bool false)]) (fun _ => [(b_0, .cells #[.int .i64 a1] 30 (0, 0)), (b_1, .cells #[.pointer (some ⟨b_0, 0, none⟩)] 175 (0, 0)), (b1, .cells #[.pointer (some ⟨2, 175, none⟩), .pointer (some ⟨b_1, 0, none⟩), .int .u64 150] 106 (0, 0))]) (fun _ => []) (fun _ => by kernel_rfl) (fun _ => ?_)
  refine WP.done ?_
  refine WP.seq ?_
  refine WP.run [] [0, 1, 3, 6, 8, 9, 10, 16, 17, 18, 19, 25, 26, 27, 28, 29, 30, 31, 32, 33, 34, 35] (fun _ => [(0, .iface 181 (.agg #[.int .i64 a0, .iface 30 (.int .i64 a0_1)])), (1, .iface 175 (.pointer (some ⟨b_0, 0, none⟩))), (3, .iface 148 (.agg #[.pointer (some ⟨2, 30, none⟩)])), (6, .pointer (some ⟨b1, 0, none⟩)), (8, .bool false), (9, .nilIface), (10, .bool false), (16, .iface 181 (.agg #[.int .i64 a0, .iface 30 (.int .i64 a0_1)])), (17, .iface 148 (.agg #[.pointer (some ⟨2, 181, none⟩)])), (18, .iface 148 (.agg #[.pointer (some ⟨2, 30, none⟩)])), (19, .bool false), (25, .tuple #[.nilIface, .bool false]), (26, .iface 181 (.agg #[.int .i64 a0, .iface 30 (.int .i64 a0_1)])), (27, .tuple #[.nilIface, .bool false]), (28, .nilIface), (29, .bool false), (30, .bool false), (31, .bool false), (32, .tuple #[]), (33, .tuple #[]), (34, .tuple #[]), (35, .bool false)]) (fun _ => [(b_0, .cells #[.int .i64 a1] 30 (0, 0)), (b_1, .cells #[.pointer (some ⟨b_0, 0, none⟩)] 175 (0, 0)), (b1, .cells #[.pointer (some ⟨2, 175, none⟩), .pointer (some ⟨b_1, 0, none⟩), .int .u64 150] 106 (0, 0))]) (fun _ => []) (fun _ => by kernel_rfl) (fun _ => ?_)
  refine WP.no rfl rfl ?_
  refine WP.skip ?_
  refine WP.seq ?_
  refine WP.run [] [0, 1, 3, 6, 8, 9, 10, 16, 17, 18, 19, 25, 26, 27, 28, 29, 30, 31, 32, 33, 34, 35, 36] (fun _ => [(0, .iface 181 (.agg #[.int .i64 a0, .iface 30 (.int .i64 a0_1)])), (1, .iface 175 (.pointer (some ⟨b_0, 0, none⟩))), (3, .iface 148 (.agg #[.pointer (some ⟨2, 30, none⟩)])), (6, .pointer (some ⟨b1, 0, none⟩)), (8, .bool false), (9, .nilIface), (10, .bool false), (16, .iface 181 (.agg #[.int .i64 a0, .iface 30 (.int .i64 a0_1)])), (17, .iface 148 (.agg #[.pointer (some ⟨2, 181, none⟩)])), (18, .iface 148 (.agg #[.pointer (some ⟨2, 30, none⟩)])), (19, .bool false), (25, .tuple #[.nilIface, .bool false]), (26, .iface 181 (.agg #[.int .i64 a0, .iface 30 (.int .i64 a0_1)])), (27, .tuple #[.nilIface, .bool false]), (28, .nilIface), (29, .bool false), (30, .bool false), (31, .bool false), (32, .tuple #[]), (33, .tuple #[]), (34, .tuple #[]), (35, .bool false), (36, .iface 181 (.agg #[.int .i64 a0, .iface 30 (.int .i64 a0_1)]))]) (fun _ => [(b_0, .cells #[.int .i64 a1] 30 (0, 0)), (b_1, .cells #[.pointer (some ⟨b_0, 0, none⟩)] 175 (0, 0)), (b1, .cells #[.pointer (some ⟨2, 175, none⟩), .pointer (some ⟨b_1, 0, none⟩), .int .u64 150] 106 (0, 0))]) (fun _ => []) (fun _ => by kernel_rfl) (fun _ => ?_)
  refine WP.block ?_
  refine WP.seq ?_
  refine WP.region ?_
  refine WL.val (fun _ => run_assertHas (t := 181) (v := .agg #[.int .i64 a0, .iface 30 (.int .i64 a0_1)]) (by kernel_rfl) (by kernel_rfl)) (by kernel_rfl) (by kernel_rfl) rfl ?_
  refine WL.run 2 [] [0, 1, 3, 6, 8, 9, 10, 16, 17, 18, 19, 25, 26, 27, 28, 29, 30, 31, 32, 33, 34, 35, 36, 37, 38, 39] (fun _ => [(0, .iface 181 (.agg #[.int .i64 a0, .iface 30 (.int .i64 a0_1)])), (1, .iface 175 (.pointer (some ⟨b_0, 0, none⟩))), (3, .iface 148 (.agg #[.pointer (some ⟨2, 30, none⟩)])), (6, .pointer (some ⟨b1, 0, none⟩)), (8, .bool false), (9, .nilIface), (10, .bool false), (16, .iface 181 (.agg #[.int .i64 a0, .iface 30 (.int .i64 a0_1)])), (17, .iface 148 (.agg #[.pointer (some ⟨2, 181, none⟩)])), (18, .iface 148 (.agg #[.pointer (some ⟨2, 30, none⟩)])), (19, .bool false), (25, .tuple #[.nilIface, .bool false]), (26, .iface 181 (.agg #[.int .i64 a0, .iface 30 (.int .i64 a0_1)])), (27, .tuple #[.nilIface, .bool false]), (28, .nilIface), (29, .bool false), (30, .bool false), (31, .bool false), (32, .tuple #[]), (33, .tuple #[]), (34, .tuple #[]), (35, .bool false), (36, .iface 181 (.agg #[.int .i64 a0, .iface 30 (.int .i64 a0_1)])), (37, .tuple #[.iface 181 (.agg #[.int .i64 a0, .iface 30 (.int .i64 a0_1)]), .bool true]), (38, .bool true), (39, .iface 181 (.agg #[.int .i64 a0, .iface 30 (.int .i64 a0_1)]))]) (fun _ => [(b_0, .cells #[.int .i64 a1] 30 (0, 0)), (b_1, .cells #[.pointer (some ⟨b_0, 0, none⟩)] 175 (0, 0)), (b1, .cells #[.pointer (some ⟨2, 175, none⟩), .pointer (some ⟨b_1, 0, none⟩), .int .u64 150] 106 (0, 0))]) (fun _ => []) (fun _ => by kernel_rfl) (fun _ => ?_)
  refine WP.done ?_
  refine WP.yes rfl rfl ?_
  refine WP.seq ?_
  refine WP.run [] [0, 1, 3, 6, 8, 9, 10, 11, 16, 17, 18, 19, 25, 26, 27, 28, 29, 30, 31, 32, 33, 34, 35, 36, 37, 38, 39] (fun _ => [(0, .iface 181 (.agg #[.int .i64 a0, .iface 30 (.int .i64 a0_1)])), (1, .iface 175 (.pointer (some ⟨b_0, 0, none⟩))), (3, .iface 148 (.agg #[.pointer (some ⟨2, 30, none⟩)])), (6, .pointer (some ⟨b1, 0, none⟩)), (8, .bool false), (9, .nilIface), (10, .bool false), (11, .iface 181 (.agg #[.int .i64 a0, .iface 30 (.int .i64 a0_1)])), (16, .iface 181 (.agg #[.int .i64 a0, .iface 30 (.int .i64 a0_1)])), (17, .iface 148 (.agg #[.pointer (some ⟨2, 181, none⟩)])), (18, .iface 148 (.agg #[.pointer (some ⟨2, 30, none⟩)])), (19, .bool false), (25, .tuple #[.nilIface, .bool false]), (26, .iface 181 (.agg #[.int .i64 a0, .iface 30 (.int .i64 a0_1)])), (27, .tuple #[.nilIface, .bool false]), (28, .nilIface), (29, .bool false), (30, .bool false), (31, .bool false), (32, .tuple #[]), (33, .tuple #[]), (34, .tuple #[]), (35, .bool false), (36, .iface 181 (.agg #[.int .i64 a0, .iface 30 (.int .i64 a0_1)])), (37, .tuple #[.iface 181 (.agg #[.int .i64 a0, .iface 30 (.int .i64 a0_1)]), .bool true]), (38, .bool true), (39, .iface 181 (.agg #[.int .i64 a0, .iface 30 (.int .i64 a0_1)]))]) (fun _ => [(b_0, .cells #[.int .i64 a1] 30 (0, 0)), (b_1, .cells #[.pointer (some ⟨b_0, 0, none⟩)] 175 (0, 0)), (b1, .cells #[.pointer (some ⟨2, 175, none⟩), .pointer (some ⟨b_1, 0, none⟩), .int .u64 150] 106 (0, 0))]) (fun _ => []) (fun _ => by kernel_rfl) (fun _ => ?_)
  refine WP.seq ?_
  refine WP.region ?_
  refine WL.run 1 [] [0, 1, 3, 6, 8, 9, 10, 11, 16, 17, 18, 19, 25, 26, 27, 28, 29, 30, 31, 32, 33, 34, 35, 36, 37, 38, 39, 40] (fun _ => [(0, .iface 181 (.agg #[.int .i64 a0, .iface 30 (.int .i64 a0_1)])), (1, .iface 175 (.pointer (some ⟨b_0, 0, none⟩))), (3, .iface 148 (.agg #[.pointer (some ⟨2, 30, none⟩)])), (6, .pointer (some ⟨b1, 0, none⟩)), (8, .bool false), (9, .nilIface), (10, .bool false), (11, .iface 181 (.agg #[.int .i64 a0, .iface 30 (.int .i64 a0_1)])), (16, .iface 181 (.agg #[.int .i64 a0, .iface 30 (.int .i64 a0_1)])), (17, .iface 148 (.agg #[.pointer (some ⟨2, 181, none⟩)])), (18, .iface 148 (.agg #[.pointer (some ⟨2, 30, none⟩)])), (19, .bool false), (25, .tuple #[.nilIface, .bool false]), (26, .iface 181 (.agg #[.int .i64 a0, .iface 30 (.int .i64 a0_1)])), (27, .tuple #[.nilIface, .bool false]), (28, .nilIface), (29, .bool false), (30, .bool false), (31, .bool false), (32, .tuple #[]), (33, .tuple #[]), (34, .tuple #[]), (35, .bool false), (36, .iface 181 (.agg #[.int .i64 a0, .iface 30 (.int .i64 a0_1)])), (37, .tuple #[.iface 181 (.agg #[.int .i64 a0, .iface 30 (.int .i64 a0_1)]), .bool true]), (38, .bool true), (39, .iface 181 (.agg #[.int .i64 a0, .iface 30 (.int .i64 a0_1)])), (40, .iface 181 (.agg #[.int .i64 a0, .iface 30 (.int .i64 a0_1)]))]) (fun _ => [(b_0, .cells #[.int .i64 a1] 30 (0, 0)), (b_1, .cells #[.pointer (some ⟨b_0, 0, none⟩)] 175 (0, 0)), (b1, .cells #[.pointer (some ⟨2, 175, none⟩), .pointer (some ⟨b_1, 0, none⟩), .int .u64 150] 106 (0, 0))]) (fun _ => []) (fun _ => by kernel_rfl) (fun _ => ?_)
  obtain ⟨r3, h4, hM⟩ := bind_some hM
  refine WL.callP [] [] (octets_at_Unwrap_calls a0 a0_1 _ h4) (fun _ h => h) (by kernel_rfl) (by kernel_rfl) rfl ?_
  refine WL.run 1 [] [0, 1, 3, 6, 8, 9, 10, 11, 16, 17, 18, 19, 25, 26, 27, 28, 29, 30, 31, 32, 33, 34, 35, 36, 37, 38, 39, 40, 41] (fun _ => [(0, .iface 30 (.int .i64 r3)), (1, .iface 175 (.pointer (some ⟨b_0, 0, none⟩))), (3, .iface 148 (.agg #[.pointer (some ⟨2, 30, none⟩)])), (6, .pointer (some ⟨b1, 0, none⟩)), (8, .bool false), (9, .nilIface), (10, .bool false), (11, .iface 181 (.agg #[.int .i64 a0, .iface 30 (.int .i64 a0_1)])), (16, .iface 181 (.agg #[.int .i64 a0, .iface 30 (.int .i64 a0_1)])), (17, .iface 148 (.agg #[.pointer (some ⟨2, 181, none⟩)])), (18, .iface 148 (.agg #[.pointer (some ⟨2, 30, none⟩)])), (19, .bool false), (25, .tuple #[.nilIface, .bool false]), (26, .iface 181 (.agg #[.int .i64 a0, .iface 30 (.int .i64 a0_1)])), (27, .tuple #[.nilIface, .bool false]), (28, .nilIface), (29, .bool false), (30, .bool false), (31, .bool false), (32, .tuple #[]), (33, .tuple #[]), (34, .tuple #[]), (35, .bool false), (36, .iface 181 (.agg #[.int .i64 a0, .iface 30 (.int .i64 a0_1)])), (37, .tuple #[.iface 181 (.agg #[.int .i64 a0, .iface 30 (.int .i64 a0_1)]), .bool true]), (38, .bool true), (39, .iface 181 (.agg #[.int .i64 a0, .iface 30 (.int .i64 a0_1)])), (40, .iface 181 (.agg #[.int .i64 a0, .iface 30 (.int .i64 a0_1)])), (41, .iface 30 (.int .i64 r3))]) (fun _ => [(b_0, .cells #[.int .i64 a1] 30 (0, 0)), (b_1, .cells #[.pointer (some ⟨b_0, 0, none⟩)] 175 (0, 0)), (b1, .cells #[.pointer (some ⟨2, 175, none⟩), .pointer (some ⟨b_1, 0, none⟩), .int .u64 150] 106 (0, 0))]) (fun _ => []) (fun _ => by kernel_rfl) (fun _ => ?_)
  refine WP.done ?_
  refine WP.seq ?_
  refine WP.run [] [0, 1, 3, 6, 8, 9, 10, 11, 16, 17, 18, 19, 25, 26, 27, 28, 29, 30, 31, 32, 33, 34, 35, 36, 37, 38, 39, 40, 41, 42, 43] (fun _ => [(0, .iface 30 (.int .i64 r3)), (1, .iface 175 (.pointer (some ⟨b_0, 0, none⟩))), (3, .iface 148 (.agg #[.pointer (some ⟨2, 30, none⟩)])), (6, .pointer (some ⟨b1, 0, none⟩)), (8, .bool false), (9, .nilIface), (10, .bool false), (11, .iface 181 (.agg #[.int .i64 a0, .iface 30 (.int .i64 a0_1)])), (16, .iface 181 (.agg #[.int .i64 a0, .iface 30 (.int .i64 a0_1)])), (17, .iface 148 (.agg #[.pointer (some ⟨2, 181, none⟩)])), (18, .iface 148 (.agg #[.pointer (some ⟨2, 30, none⟩)])), (19, .bool false), (25, .tuple #[.nilIface, .bool false]), (26, .iface 181 (.agg #[.int .i64 a0, .iface 30 (.int .i64 a0_1)])), (27, .tuple #[.nilIface, .bool false]), (28, .nilIface), (29, .bool false), (30, .bool false), (31, .bool false), (32, .tuple #[]), (33, .tuple #[]), (34, .tuple #[]), (35, .bool false), (36, .iface 181 (.agg #[.int .i64 a0, .iface 30 (.int .i64 a0_1)])), (37, .tuple #[.iface 181 (.agg #[.int .i64 a0, .iface 30 (.int .i64 a0_1)]), .bool true]), (38, .bool true), (39, .iface 181 (.agg #[.int .i64 a0, .iface 30 (.int .i64 a0_1)])), (40, .iface 181 (.agg #[.int .i64 a0, .iface 30 (.int .i64 a0_1)])), (41, .iface 30 (.int .i64 r3)), (42, .iface 30 (.int .i64 r3)), (43, .bool false)]) (fun _ => [(b_0, .cells #[.int .i64 a1] 30 (0, 0)), (b_1, .cells #[.pointer (some ⟨b_0, 0, none⟩)] 175 (0, 0)), (b1, .cells #[.pointer (some ⟨2, 175, none⟩), .pointer (some ⟨b_1, 0, none⟩), .int .u64 150] 106 (0, 0))]) (fun _ => []) (fun _ => by kernel_rfl) (fun _ => ?_)
  refine WP.no rfl rfl ?_
  refine WP.skip ?_
  refine WP.leave ?_
  refine WP.leave ?_
  refine WP.round ?_
  refine WP.block ?_
  refine WP.seq ?_
  refine WP.seq ?_
  refine WP.run [] [0, 1, 3, 6, 8, 9, 10, 11, 16, 17, 18, 19, 25, 26, 27, 28, 29, 30, 31, 32, 33, 34, 35, 36, 37, 38, 39, 40, 41, 42, 43] (fun _ => [(0, .iface 30 (.int .i64 r3)), (1, .iface 175 (.pointer (some ⟨b_0, 0, none⟩))), (3, .iface 148 (.agg #[.pointer (some ⟨2, 30, none⟩)])), (6, .pointer (some ⟨b1, 0, none⟩)), (8, .bool false), (9, .nilIface), (10, .bool false), (11, .iface 181 (.agg #[.int .i64 a0, .iface 30 (.int .i64 a0_1)])), (16, .iface 30 (.int .i64 r3)), (17, .iface 148 (.agg #[.pointer (some ⟨2, 30, none⟩)])), (18, .iface 148 (.agg #[.pointer (some ⟨2, 30, none⟩)])), (19, .bool true), (25, .tuple #[.nilIface, .bool false]), (26, .iface 181 (.agg #[.int .i64 a0, .iface 30 (.int .i64 a0_1)])), (27, .tuple #[.nilIface, .bool false]), (28, .nilIface), (29, .bool false), (30, .bool false), (31, .bool false), (32, .tuple #[]), (33, .tuple #[]), (34, .tuple #[]), (35, .bool false), (36, .iface 181 (.agg #[.int .i64 a0, .iface 30 (.int .i64 a0_1)])), (37, .tuple #[.iface 181 (.agg #[.int .i64 a0, .iface 30 (.int .i64 a0_1)]), .bool true]), (38, .bool true), (39, .iface 181 (.agg #[.int .i64 a0, .iface 30 (.int .i64 a0_1)])), (40, .iface 181 (.agg #[.int .i64 a0, .iface 30 (.int .i64 a0_1)])), (41, .iface 30 (.int .i64 r3)), (42, .iface 30 (.int .i64 r3)), (43, .bool false)]) (fun _ => [(b_0, .cells #[.int .i64 a1] 30 (0, 0)), (b_1, .cells #[.pointer (some ⟨b_0, 0, none⟩)] 175 (0, 0)), (b1, .cells #[.pointer (some ⟨2, 175, none⟩), .pointer (some ⟨b_1, 0, none⟩), .int .u64 150] 106 (0, 0))]) (fun _ => []) (fun _ => by kernel_rfl) (fun _ => ?_)
  refine WP.yes rfl rfl ?_
  refine WP.seq ?_
  refine WP.run [2, 2, 2, 1, 3, 0] [0, 1, 3, 6, 8, 9, 10, 11, 16, 17, 18, 19, 20, 21, 22, 23, 25, 26, 27, 28, 29, 30, 31, 32, 33, 34, 35, 36, 37, 38, 39, 40, 41, 42, 43] (fun b5 => [(0, .iface 30 (.int .i64 r3)), (1, .iface 175 (.pointer (some ⟨b_0, 0, none⟩))), (3, .iface 148 (.agg #[.pointer (some ⟨2, 30, none⟩)])), (6, .pointer (some ⟨b1, 0, none⟩)), (8, .bool false), (9, .nilIface), (10, .bool false), (11, .iface 181 (.agg #[.int .i64 a0, .iface 30 (.int .i64 a0_1)])), (16, .iface 30 (.int .i64 r3)), (17, .iface 148 (.agg #[.pointer (some ⟨2, 30, none⟩)])), (18, .iface 148 (.agg #[.pointer (some ⟨2, 30, none⟩)])), (19, .bool true), (20, .agg #[.pointer (some ⟨2, 175, none⟩), .pointer (some ⟨b_1, 0, none⟩), .int .u64 150]), (21, .agg #[.pointer (some ⟨2, 30, none⟩), .pointer (some ⟨b_0, 0, none⟩), .int .u64 386]), (22, .iface 30 (.int .i64 r3)), (23, .agg #[.pointer (some ⟨2, 30, none⟩), .pointer (some ⟨b5, 0, none⟩), .int .u64 130]), (25, .tuple #[.nilIface, .bool false]), (26, .iface 181 (.agg #[.int .i64 a0, .iface 30 (.int .i64 a0_1)])), (27, .tuple #[.nilIface, .bool false]), (28, .nilIface), (29, .bool false), (30, .bool false), (31, .bool false), (32, .tuple #[]), (33, .tuple #[]), (34, .tuple #[]), (35, .bool false), (36, .iface 181 (.agg #[.int .i64 a0, .iface 30 (.int .i64 a0_1)])), (37, .tuple #[.iface 181 (.agg #[.int .i64 a0, .iface 30 (.int .i64 a0_1)]), .bool true]), (38, .bool true), (39, .iface 181 (.agg #[.int .i64 a0, .iface 30 (.int .i64 a0_1)])), (40, .iface 181 (.agg #[.int .i64 a0, .iface 30 (.int .i64 a0_1)])), (41, .iface 30 (.int .i64 r3)), (42, .iface 30 (.int .i64 r3)), (43, .bool false)]) (fun b5 => [(b_0, .cells #[.int .i64 r3] 30 (0, 0)), (b_1, .cells #[.pointer (some ⟨b_0, 0, none⟩)] 175 (0, 0)), (b1, .cells #[.pointer (some ⟨2, 175, none⟩), .pointer (some ⟨b_1, 0, none⟩), .int .u64 150] 106 (0, 0)), (b5, .cells #[.int .i64 r3] 30 (0, 0))]) (fun b5 => [b_0, b5, b_1, b1, b1, b1]) (fun b5 => by kernel_rfl) (fun b5 => ?_)
  refine WP.seq ?_
  refine WP.run [] [0, 1, 3, 6, 8, 9, 10, 11, 16, 17, 18, 19, 20, 21, 22, 23, 25, 26, 27, 28, 29, 30, 31, 32, 33, 34, 35, 36, 37, 38, 39, 40, 41, 42, 43] (fun _ => [(0, .iface 30 (.int .i64 r3)), (1, .iface 175 (.pointer (some ⟨b_0, 0, none⟩))), (3, .iface 148 (.agg #[.pointer (some ⟨2, 30, none⟩)])), (6, .pointer (some ⟨b1, 0, none⟩)), (8, .bool true), (9, .nilIface), (10, .bool false), (11, .iface 181 (.agg #[.int .i64 a0, .iface 30 (.int .i64 a0_1)])), (16, .iface 30 (.int .i64 r3)), (17, .iface 148 (.agg #[.pointer (some ⟨2, 30, none⟩)])), (18, .iface 148 (.agg #[.pointer (some ⟨2, 30, none⟩)])), (19, .bool true), (20, .agg #[.pointer (some ⟨2, 175, none⟩), .pointer (some ⟨b_1, 0, none⟩), .int .u64 150]), (21, .agg #[.pointer (some ⟨2, 30, none⟩), .pointer (some ⟨b_0, 0, none⟩), .int .u64 386]), (22, .iface 30 (.int .i64 r3)), (23, .agg #[.pointer (some ⟨2, 30, none⟩), .pointer (some ⟨b5, 0, none⟩), .int .u64 130]), (25, .tuple #[.nilIface, .bool false]), (26, .iface 181 (.agg #[.int .i64 a0, .iface 30 (.int .i64 a0_1)])), (27, .tuple #[.nilIface, .bool false]), (28, .nilIface), (29, .bool false), (30, .bool false), (31, .bool false), (32, .tuple #[]), (33, .tuple #[]), (34, .tuple #[]), (35, .bool false), (36, .iface 181 (.agg #[.int .i64 a0, .iface 30 (.int .i64 a0_1)])), (37, .tuple #[.iface 181 (.agg #[.int .i64 a0, .iface 30 (.int .i64 a0_1)]), .bool true]), (38, .bool true), (39, .iface 181 (.agg #[.int .i64 a0, .iface 30 (.int .i64 a0_1)])), (40, .iface 181 (.agg #[.int .i64 a0, .iface 30 (.int .i64 a0_1)])), (41, .iface 30 (.int .i64 r3)), (42, .iface 30 (.int .i64 r3)), (43, .bool false)]) (fun _ => [(b_0, .cells #[.int .i64 r3] 30 (0, 0)), (b_1, .cells #[.pointer (some ⟨b_0, 0, none⟩)] 175 (0, 0)), (b1, .cells #[.pointer (some ⟨2, 175, none⟩), .pointer (some ⟨b_1, 0, none⟩), .int .u64 150] 106 (0, 0)), (b5, .cells #[.int .i64 r3] 30 (0, 0))]) (fun _ => []) (fun _ => by kernel_rfl) (fun _ => ?_)
  obtain rfl := Option.some.inj hM
  exact WP.ret [] [] (.bool true) (by kernel_rfl) (fun w' hw => ⟨(), rfl, hw.pick [0, 1] (by kernel_rfl)⟩)

end Go.Proofs.YtbodofjnfmjbpaaGreatDoor

namespace Go.Proofs.YtbodofjnfmjbpaaGreatDoor
open Go Eng
set_option linter.unusedVariables false
set_option linter.unusedSimpArgs false

/-! ### errors.As: function 34 -/
def errors_As.f (a0 : Int) (a0_1 : Int) (a1 : Int) : Option (Bool × Int) :=
  (errors_as.f a0 a0_1 a1).bind fun (r2, r3) =>
  some (r2, r3)

set_option maxRecDepth 100000 in
theorem errors_As_calls (b_0 : Nat) (a0 : Int) (a0_1 : Int) (a1 : Int) (r : Bool × Int) (h : errors_As.f a0 a0_1 a1 = some r) : Does Tryz.prog 34 #[.iface 181 (.agg #[.int .i64 a0, .iface 30 (.int .i64 a0_1)]), .iface 175 (.pointer (some ⟨b_0, 0, none⟩))] [(b_0, .cells #[.int .i64 a1] 30 (0, 0))] Glob (fun _ : Unit => .bool r.1) (fun _ => [(b_0, .cells #[.int .i64 r.2] 30 (0, 0))]) (fun _ => []) (fun _ => Glob) := by
  intro w Z hS
  refine calls_of (args := [.iface 181 (.agg #[.int .i64 a0, .iface 30 (.int .i64 a0_1)]), .iface 175 (.pointer (some ⟨b_0, 0, none⟩))]) (L := [(0, .iface 181 (.agg #[.int .i64 a0, .iface 30 (.int .i64 a0_1)])), (1, .iface 175 (.pointer (some ⟨b_0, 0, none⟩)))]) (N := 42) (S := Sat w Z [(b_0, .cells #[.int .i64 a1] 30 (0, 0))] [] Glob) Tryz.func34 rfl rfl (Nat.le_of_ble_eq_true rfl) rfl hS ?_
  have hM := h
  clear h hS
  unfold errors_As.f at hM
  refine WP.seq ?_
  refine WP.run [] [0, 1, 4] (fun _ => [(0, .iface 181 (.agg #[.int .i64 a0, .iface 30 (.int .i64 a0_1)])), (1, .iface 175 (.pointer (some ⟨b_0, 0, none⟩))), (4, .bool false)]) (fun _ => [(b_0, .cells #[.int .i64 a1] 30 (0, 0))]) (fun _ => []) (fun _ => by kernel_rfl) (fun _ => ?_)
  refine WP.seq ?_
  refine WP.seq ?_
  refine WP.run [] [0, 1, 4, 9] (fun _ => [(0, .iface 181 (.agg #[.int .i64 a0, .iface 30 (.int .i64 a0_1)])), (1, .iface 175 (.pointer (some ⟨b_0, 0, none⟩))), (4, .bool false), (9, .bool false)]) (fun _ => [(b_0, .cells #[.int .i64 a1] 30 (0, 0))]) (fun _ => []) (fun _ => by kernel_rfl) (fun _ => ?_)
  refine WP.no rfl rfl ?_
  refine WP.skip ?_
  refine WP.seq ?_
  refine WP.seq ?_
  refine WP.run [] [0, 1, 4, 11] (fun _ => [(0, .iface 181 (.agg #[.int .i64 a0, .iface 30 (.int .i64 a0_1)])), (1, .iface 175 (.pointer (some ⟨b_0, 0, none⟩))), (4, .bool false), (11, .bool false)]) (fun _ => [(b_0, .cells #[.int .i64 a1] 30 (0, 0))]) (fun _ => []) (fun _ => by kernel_rfl) (fun _ => ?_)
  refine WP.no rfl rfl ?_
  refine WP.skip ?_
  refine WP.seq ?_
  refine WP.run [2, 2, 2] [0, 1, 4, 5] (fun b1 => [(0, .iface 181 (.agg #[.int .i64 a0, .iface 30 (.int .i64 a0_1)])), (1, .iface 175 (.pointer (some ⟨b_0, 0, none⟩))), (4, .bool false), (5, .pointer (some ⟨(b1 + 1), 0, none⟩))]) (fun b1 => [(b_0, .cells #[.int .i64 a1] 30 (0, 0)), (b1, .cells #[.pointer (some ⟨b_0, 0, none⟩)] 175 (0, 0)), ((b1 + 1), .cells #[.pointer (some ⟨2, 175, none⟩), .pointer (some ⟨b1, 0, none⟩), .int .u64 150] 106 (0, 0))]) (fun b1 => [(b1 + 1), (b1 + 1), (b1 + 1)]) (fun b1 => by kernel_rfl) (fun b1 => ?_)
  refine WP.seq ?_
  refine WP.run [2, 2, 2] [0, 1, 4, 5, 6] (fun _ => [(0, .iface 181 (.agg #[.int .i64 a0, .iface 30 (.int .i64 a0_1)])), (1, .iface 175 (.pointer (some ⟨b_0, 0, none⟩))), (4, .bool false), (5, .pointer (some ⟨(b1 + 1), 0, none⟩)), (6, .iface 148 (.agg #[.pointer (some ⟨2, 175, none⟩)]))]) (fun _ => [(b_0, .cells #[.int .i64 a1] 30 (0, 0)), (b1, .cells #[.pointer (some ⟨b_0, 0, none⟩)] 175 (0, 0)), ((b1 + 1), .cells #[.pointer (some ⟨2, 175, none⟩), .pointer (some ⟨b1, 0, none⟩), .int .u64 150] 106 (0, 0))]) (fun _ => [(b1 + 1), (b1 + 1), (b1 + 1)]) (fun _ => by kernel_rfl) (fun _ => ?_)
  refine WP.seq ?_
  refine WP.seq ?_
  refine WP.run [2, 2, 2, 1] [0, 1, 4, 5, 6, 23] (fun _ => [(0, .iface 181 (.agg #[.int .i64 a0, .iface 30 (.int .i64 a0_1)])), (1, .iface 175 (.pointer (some ⟨b_0, 0, none⟩))), (4, .bool false), (5, .pointer (some ⟨(b1 + 1), 0, none⟩)), (6, .iface 148 (.agg #[.pointer (some ⟨2, 175, none⟩)])), (23, .bool false)]) (fun _ => [(b_0, .cells #[.int .i64 a1] 30 (0, 0)), (b1, .cells #[.pointer (some ⟨b_0, 0, none⟩)] 175 (0, 0)), ((b1 + 1), .cells #[.pointer (some ⟨2, 175, none⟩), .pointer (some ⟨b1, 0, none⟩), .int .u64 150] 106 (0, 0))]) (fun _ => [b1, (b1 + 1), (b1 + 1), (b1 + 1)]) (fun _ => by kernel_rfl) (fun _ => ?_)
  refine WP.no rfl rfl ?_
  refine WP.skip ?_
  refine WP.seq ?_
  refine WP.run [] [0, 1, 4, 5, 7] (fun _ => [(0, .iface 181 (.agg #[.int .i64 a0, .iface 30 (.int .i64 a0_1)])), (1, .iface 175 (.pointer (some ⟨b_0, 0, none⟩))), (4, .bool false), (5, .pointer (some ⟨(b1 + 1), 0, none⟩)), (7, .iface 148 (.agg #[.pointer (some ⟨2, 30, none⟩)]))]) (fun _ => [(b_0, .cells #[.int .i64 a1] 30 (0, 0)), (b1, .cells #[.pointer (some ⟨b_0, 0, none⟩)] 175 (0, 0)), ((b1 + 1), .cells #[.pointer (some ⟨2, 175, none⟩), .pointer (some ⟨b1, 0, none⟩), .int .u64 150] 106 (0, 0))]) (fun _ => []) (fun _ => by kernel_rfl) (fun _ => ?_)
  refine WP.seq ?_
  refine WP.seq ?_
  refine WP.region ?_
  refine WL.run 5 [] [0, 1, 4, 5, 7, 30, 31] (fun _ => [(0, .iface 181 (.agg #[.int .i64 a0, .iface 30 (.int .i64 a0_1)])), (1, .iface 175 (.pointer (some ⟨b_0, 0, none⟩))), (4, .bool false), (5, .pointer (some ⟨(b1 + 1), 0, none⟩)), (7, .iface 148 (.agg #[.pointer (some ⟨2, 30, none⟩)])), (30, .bool true), (31, .iface 148 (.agg #[.pointer (some ⟨2, 30, none⟩)]))]) (fun _ => [(b_0, .cells #[.int .i64 a1] 30 (0, 0)), (b1, .cells #[.pointer (some ⟨b_0, 0, none⟩)] 175 (0, 0)), ((b1 + 1), .cells #[.pointer (some ⟨2, 175, none⟩), .pointer (some ⟨b1, 0, none⟩), .int .u64 150] 106 (0, 0))]) (fun _ => []) (fun _ => by kernel_rfl) (fun _ => ?_)
  refine WL.loadGlob (v := .iface 148 (.agg #[.pointer (some ⟨2, 73, none⟩)])) (by simp [Glob]) (fun _ => by kernel_rfl) (by kernel_rfl) rfl ?_
  refine WL.run 3 [] [0, 1, 4, 5, 7, 35] (fun _ => [(0, .iface 181 (.agg #[.int .i64 a0, .iface 30 (.int .i64 a0_1)])), (1, .iface 175 (.pointer (some ⟨b_0, 0, none⟩))), (4, .bool false), (5, .pointer (some ⟨(b1 + 1), 0, none⟩)), (7, .iface 148 (.agg #[.pointer (some ⟨2, 30, none⟩)])), (35, .bool false)]) (fun _ => [(b_0, .cells #[.int .i64 a1] 30 (0, 0)), (b1, .cells #[.pointer (some ⟨b_0, 0, none⟩)] 175 (0, 0)), ((b1 + 1), .cells #[.pointer (some ⟨2, 175, none⟩), .pointer (some ⟨b1, 0, none⟩), .int .u64 150] 106 (0, 0))]) (fun _ => []) (fun _ => by kernel_rfl) (fun _ => ?_)
  refine WP.done ?_
  refine WP.no rfl rfl ?_
  refine WP.skip ?_
  refine WP.seq ?_
  refine WP.region ?_
  refine WL.run 4 [2, 2, 2] [4, 37, 38, 39, 40] (fun _ => [(4, .bool false), (37, .iface 181 (.agg #[.int .i64 a0, .iface 30 (.int .i64 a0_1)])), (38, .iface 175 (.pointer (some ⟨b_0, 0, none⟩))), (39, .agg #[.pointer (some ⟨2, 175, none⟩), .pointer (some ⟨b1, 0, none⟩), .int .u64 150]), (40, .iface 148 (.agg #[.pointer (some ⟨2, 30, none⟩)]))]) (fun _ => [(b_0, .cells #[.int .i64 a1] 30 (0, 0)), (b1, .cells #[.pointer (some ⟨b_0, 0, none⟩)] 175 (0, 0)), ((b1 + 1), .cells #[.pointer (some ⟨2, 175, none⟩), .pointer (some ⟨b1, 0, none⟩), .int .u64 150] 106 (0, 0))]) (fun _ => [(b1 + 1), (b1 + 1), (b1 + 1)]) (fun _ => by kernel_rfl) (fun _ => ?_)
  obtain ⟨⟨r2, r3⟩, h4, hM⟩ := bind_some hM
  dsimp only at hM
  refine WL.callE (X := Unit) [] [] [true, true, false] (fun _ => _) (errors_as_calls b_0 b1 a0 a0_1 a1 _ h4) rfl rfl (fun _ h => h) (by kernel_rfl) (by kernel_rfl) (fun _ => rfl) (fun _ => ?_)
  refine WL.run 1 [] [4] (fun _ => [(4, .bool r2)]) (fun _ => [(b_0, .cells #[.int .i64 r3] 30 (0, 0)), (b1, .cells #[.pointer (some ⟨b_0, 0, none⟩)] 175 (0, 0)), ((b1 + 1), .cells #[.pointer (some ⟨2, 175, none⟩), .pointer (some ⟨b1, 0, none⟩), .int .u64 150] 106 (0, 0))]) (fun _ => []) (fun _ => by kernel_rfl) (fun _ => ?_)
  refine WP.done ?_
  refine WP.keep [true, false, false] (by kernel_rfl : _ = [(b_0, .cells #[.int .i64 r3] 30 (0, 0))]) ?_
  obtain rfl := Option.some.inj hM
  exact WP.ret [] [] (.bool r2) (by kernel_rfl) (fun w' hw => ⟨(), rfl, hw.pick [0] (by kernel_rfl)⟩)

end Go.Proofs.YtbodofjnfmjbpaaGreatDoor

namespace Go.Proofs.YtbodofjnfmjbpaaGreatDoor
open Go Eng
set_option linter.unusedVariables false
set_option linter.unusedSimpArgs false

/-! ### gangway/octets.number: function 102 -/
def octets_number.f (a0 : Int) (a0_1 : Int) : Option (Int) :=
  (errors_As.f a0 a0_1 0).bind fun (r2, r3) =>
  bif r2 then
    some r3
  else
    some 0

set_option maxRecDepth 100000 in
theorem octets_number_calls (a0 : Int) (a0_1 : Int) (r : Int) (h : octets_number.f a0 a0_1 = some r) : Pure Tryz.prog Glob 102 #[.iface 181 (.agg #[.int .i64 a0, .iface 30 (.int .i64 a0_1)])] (.int .i64 r) := by
  intro w Z hS
  refine calls_of (args := [.iface 181 (.agg #[.int .i64 a0, .iface 30 (.int .i64 a0_1)])]) (L := [(0, .iface 181 (.agg #[.int .i64 a0, .iface 30 (.int .i64 a0_1)]))]) (N := 12) (S := Sat w Z [] [] Glob) Tryz.func102 rfl rfl (Nat.le_of_ble_eq_true rfl) rfl hS ?_
  have hM := h
  clear h hS
  unfold octets_number.f at hM
  refine WP.seq ?_
  refine WP.run [] [0, 2] (fun _ => [(0, .iface 181 (.agg #[.int .i64 a0, .iface 30 (.int .i64 a0_1)])), (2, .int .i64 0)]) (fun _ => []) (fun _ => []) (fun _ => by kernel_rfl) (fun _ => ?_)
  refine WP.seq ?_
  refine WP.run [] [0, 2, 3] (fun b1 => [(0, .iface 181 (.agg #[.int .i64 a0, .iface 30 (.int .i64 a0_1)])), (2, .int .i64 0), (3, .pointer (some ⟨b1, 0, none⟩))]) (fun b1 => [(b1, .cells #[.int .i64 0] 30 (0, 0))]) (fun b1 => []) (fun b1 => by kernel_rfl) (fun b1 => ?_)
  refine WP.seq ?_
  refine WP.seq ?_
  refine WP.region ?_
  refine WL.run 5 [] [2, 3, 6, 7, 8] (fun _ => [(2, .int .i64 0), (3, .pointer (some ⟨b1, 0, none⟩)), (6, .bool true), (7, .iface 181 (.agg #[.int .i64 a0, .iface 30 (.int .i64 a0_1)])), (8, .iface 175 (.pointer (some ⟨b1, 0, none⟩)))]) (fun _ => [(b1, .cells #[.int .i64 0] 30 (0, 0))]) (fun _ => []) (fun _ => by kernel_rfl) (fun _ => ?_)
  obtain ⟨⟨r2, r3⟩, h4, hM⟩ := bind_some hM
  dsimp only at hM
  refine WL.callE (X := Unit) [] [] [true] (fun _ => _) (errors_As_calls b1 a0 a0_1 0 _ h4) rfl rfl (fun _ h => h) (by kernel_rfl) (by kernel_rfl) (fun _ => rfl) (fun _ => ?_)
  refine WL.run 1 [] [2, 3, 10] (fun _ => [(2, .int .i64 0), (3, .pointer (some ⟨b1, 0, none⟩)), (10, .bool r2)]) (fun _ => [(b1, .cells #[.int .i64 r3] 30 (0, 0))]) (fun _ => []) (fun _ => by kernel_rfl) (fun _ => ?_)
  refine WP.done ?_
  refine WP.cond r2 rfl rfl (fun c5 => ?_) (fun c5 => ?_)
  · replace hM := cond_t hM c5
    refine WP.seq ?_
    refine WP.run [0] [2] (fun _ => [(2, .int .i64 r3)]) (fun _ => [(b1, .cells #[.int .i64 r3] 30 (0, 0))]) (fun _ => [b1]) (fun _ => by kernel_rfl) (fun _ => ?_)
    refine WP.keep [false] (by kernel_rfl : _ = []) ?_
    obtain rfl := Option.some.inj hM
    exact WP.ret [] [] (.int .i64 r3) (by kernel_rfl) (fun w' hw => ⟨rfl, hw.pick [] rfl⟩)
  · replace hM := cond_f hM c5
    refine WP.skip ?_
    refine WP.seq ?_
    refine WP.run [] [2] (fun _ => [(2, .int .i64 0)]) (fun _ => [(b1, .cells #[.int .i64 r3] 30 (0, 0))]) (fun _ => []) (fun _ => by kernel_rfl) (fun _ => ?_)
    refine WP.keep [false] (by kernel_rfl : _ = []) ?_
    obtain rfl := Option.some.inj hM
    exact WP.ret [] [] (.int .i64 0) (by kernel_rfl) (fun w' hw => ⟨rfl, hw.pick [] rfl⟩)

end Go.Proofs.YtbodofjnfmjbpaaGreatDoor

namespace Go.Proofs.YtbodofjnfmjbpaaGreatDoor
open Go Eng
set_option linter.unusedVariables false
set_option linter.unusedSimpArgs false

/-! ### gangway/octets.Get: function 78 -/
def octets_Get.l1 (a2 : Int) (r2 : ByteArray) : Nat → Int → Int → Option (Int × Int)
  | 0, _, _ => none
  | n + 1, x9, x10 =>
    bif decide (x10 < a2) then
      (idxS r2 x10).bind fun t12 =>
      octets_Get.l1 a2 r2 n (bOr .u64 (u64 (x9 * 256)) (u64 t12)) (i64 (x10 + 1))
    else
      some (x9, 0)

def octets_Get.f (k : Nat) (a0 : ByteArray) (a1 : Int) (a2 : Int) : Option (Int × Int) :=
  bif ((decide (a2 < 1)) || (decide (a2 > 8))) then
    some (0, 1)
  else
    (octets_part.f a0 a1 a2).bind fun (r2, r3) =>
    match r3 with
    | none =>
      octets_Get.l1 a2 r2 k 0 0
    | some (q5, q6) =>
      (octets_number.f q5 q6).bind fun r7 =>
      some (0, r7)

set_option maxRecDepth 100000 in
theorem octets_Get_calls (k : Nat) (a0 : ByteArray) (a1 : Int) (a2 : Int) (r : Int × Int) (h : octets_Get.f k a0 a1 a2 = some r) : Pure Tryz.prog Glob 78 #[.string a0, .int .i64 a1, .int .i64 a2] (.tuple #[.int .u64 r.1, .int .i64 r.2]) := by
  intro w Z hS
  refine calls_of (args := [.string a0, .int .i64 a1, .int .i64 a2]) (L := [(0, .string a0), (1, .int .i64 a1), (2, .int .i64 a2)]) (N := 42) (S := Sat w Z [] [] Glob) Tryz.func78 rfl rfl (Nat.le_of_ble_eq_true rfl) rfl hS ?_
  have hM := h
  clear h hS
  unfold octets_Get.f at hM
  refine WP.seq ?_
  refine WP.run [] [0, 1, 2, 6, 7] (fun _ => [(0, .string a0), (1, .int .i64 a1), (2, .int .i64 a2), (6, .int .u64 0), (7, .int .i64 0)]) (fun _ => []) (fun _ => []) (fun _ => by kernel_rfl) (fun _ => ?_)
  refine WP.seq ?_
  refine WP.seq ?_
  refine WP.region ?_
  refine WL.run 3 [] [0, 1, 2, 6, 7, 14] (fun _ => [(0, .string a0), (1, .int .i64 a1), (2, .int .i64 a2), (6, .int .u64 0), (7, .int .i64 0), (14, .bool (decide (a2 < 1)))]) (fun _ => []) (fun _ => []) (fun _ => by kernel_rfl) (fun _ => ?_)
  refine WL.sub [0, 1, 2, 6, 7, 14] (L' := [(0, .string a0), (1, .int .i64 a1), (2, .int .i64 a2), (6, .int .u64 0), (7, .int .i64 0), (14, .bool (decide (a2 < 1)))]) (by kernel_rfl) ?_
  refine WL.both (fun b' => [(0, .string a0), (1, .int .i64 a1), (2, .int .i64 a2), (6, .int .u64 0), (7, .int .i64 0), (14, .bool b')]) (decide (a2 < 1)) 3 [] [] [0, 1, 2, 6, 7, 17] (fun b' => [(0, .string a0), (1, .int .i64 a1), (2, .int .i64 a2), (6, .int .u64 0), (7, .int .i64 0), (17, .bool (b' || (decide (a2 > 8))))]) [] [] (fun _ => by kernel_rfl) (fun _ => by kernel_rfl) ?_
  refine WP.done ?_
  refine WP.cond ((decide (a2 < 1)) || (decide (a2 > 8))) rfl rfl (fun c1 => ?_) (fun c1 => ?_)
  · replace hM := cond_t hM c1
    refine WP.seq ?_
    refine WP.run [] [0, 1, 2, 6, 7] (fun _ => [(0, .string a0), (1, .int .i64 a1), (2, .int .i64 a2), (6, .int .u64 0), (7, .int .i64 1)]) (fun _ => []) (fun _ => []) (fun _ => by kernel_rfl) (fun _ => ?_)
    obtain rfl := Option.some.inj hM
    exact WP.ret [] [] (.tuple #[.int .u64 0, .int .i64 1]) (by kernel_rfl) (fun w' hw => ⟨rfl, hw.pick [] rfl⟩)
  · replace hM := cond_f hM c1
    refine WP.skip ?_
    refine WP.seq ?_
    refine WP.region ?_
    refine WL.run 3 [] [2, 6, 7, 19, 20, 21] (fun _ => [(2, .int .i64 a2), (6, .int .u64 0), (7, .int .i64 0), (19, .string a0), (20, .int .i64 a1), (21, .int .i64 a2)]) (fun _ => []) (fun _ => []) (fun _ => by kernel_rfl) (fun _ => ?_)
    obtain ⟨⟨r2, r3⟩, h4, hM⟩ := bind_some hM
    dsimp only at hM
    refine WL.callP [] [] (octets_part_calls a0 a1 a2 _ h4) (fun _ h => h) (by kernel_rfl) (by kernel_rfl) rfl ?_
    refine WL.run 5 [] [2, 6, 7, 8, 9] (fun _ => [(2, .int .i64 a2), (6, .int .u64 0), (7, .int .i64 0), (8, .string r2), (9, Un0.v r3)]) (fun _ => []) (fun _ => []) (fun _ => by kernel_rfl) (fun _ => ?_)
    refine WP.done ?_
    refine WP.seq ?_
    refine WP.seq ?_
    refine WP.region ?_
    refine WL.run 1 [] [2, 6, 7, 8, 9, 25] (fun _ => [(2, .int .i64 a2), (6, .int .u64 0), (7, .int .i64 0), (8, .string r2), (9, Un0.v r3), (25, Un0.v r3)]) (fun _ => []) (fun _ => []) (fun _ => by kernel_rfl) (fun _ => ?_)
    rcases r3 with _ | ⟨q5, q6⟩
    · dsimp only at hM
      refine WL.run 1 [] [2, 6, 7, 8, 9, 26] (fun _ => [(2, .int .i64 a2), (6, .int .u64 0), (7, .int .i64 0), (8, .string r2), (9, .nilIface), (26, .bool false)]) (fun _ => []) (fun _ => []) (fun _ => by kernel_rfl) (fun _ => ?_)
      refine WP.done ?_
      refine WP.no rfl rfl ?_
      refine WP.skip ?_
      refine WP.seq ?_
      refine WP.run [] [2, 6, 7, 8, 10] (fun _ => [(2, .int .i64 a2), (6, .int .u64 0), (7, .int .i64 0), (8, .string r2), (10, .int .u64 0)]) (fun _ => []) (fun _ => []) (fun _ => by kernel_rfl) (fun _ => ?_)
      refine WP.seq ?_
      refine WP.seq ?_
      refine WP.run [] [6, 7, 8, 10, 29, 30] (fun _ => [(6, .int .u64 0), (7, .int .i64 0), (8, .string r2), (10, .int .u64 0), (29, .int .i64 a2), (30, .int .i64 0)]) (fun _ => []) (fun _ => []) (fun _ => by kernel_rfl) (fun _ => ?_)
      refine WP.block ?_
      refine WP.sub [6, 7, 8, 10, 29, 30] (L' := [(6, .int .u64 0), (7, .int .i64 0), (8, .string r2), (10, .int .u64 0), (29, .int .i64 a2), (30, .int .i64 0)]) (by kernel_rfl) ?_
      refine WP.loop (σ := Int × Int) (fun n st => octets_Get.l1 a2 r2 n st.1 st.2) r (fun st => [(6, .int .u64 0), (7, .int .i64 0), (8, .string r2), (10, .int .u64 st.1), (29, .int .i64 a2), (30, .int .i64 st.2)]) (fun st => Sat w Z [] [] Glob) (st := (0, 0)) (fun n st hM => ?_) hM
      rcases n with _ | n
      · exact nomatch (show (none : Option _) = some r from hM)
      obtain ⟨x9, x10⟩ := st
      replace hM : octets_Get.l1 a2 r2 (n + 1) x9 x10 = some r := hM
      rw [octets_Get.l1] at hM
      show WP _ _ _ _ _ [(6, .int .u64 0), (7, .int .i64 0), (8, .string r2), (10, .int .u64 x9), (29, .int .i64 a2), (30, .int .i64 x10)] (Sat w Z [] [] Glob)
      refine WP.seq ?_
      refine WP.run [] [6, 7, 8, 10, 29, 30, 31] (fun _ => [(6, .int .u64 0), (7, .int .i64 0), (8, .string r2), (10, .int .u64 x9), (29, .int .i64 a2), (30, .int .i64 x10), (31, .bool (decide (x10 < a2)))]) (fun _ => []) (fun _ => []) (fun _ => by kernel_rfl) (fun _ => ?_)
      refine WP.seq ?_
      refine WP.cond (decide (x10 < a2)) rfl rfl (fun c11 => ?_) (fun c11 => ?_)
      · replace hM := cond_t hM c11
        refine WP.skip ?_
        refine WP.seq ?_
        refine WP.block ?_
        refine WP.seq ?_
        refine WP.run [] [6, 7, 8, 10, 11, 29, 30, 31, 32] (fun _ => [(6, .int .u64 0), (7, .int .i64 0), (8, .string r2), (10, .int .u64 x9), (11, .int .i64 x10), (29, .int .i64 a2), (30, .int .i64 x10), (31, .bool (decide (x10 < a2))), (32, .int .i64 x10)]) (fun _ => []) (fun _ => []) (fun _ => by kernel_rfl) (fun _ => ?_)
        refine WP.region ?_
        refine WL.run 4 [] [6, 7, 8, 10, 11, 29, 30, 31, 32, 33, 34, 35, 36] (fun _ => [(6, .int .u64 0), (7, .int .i64 0), (8, .string r2), (10, .int .u64 x9), (11, .int .i64 x10), (29, .int .i64 a2), (30, .int .i64 x10), (31, .bool (decide (x10 < a2))), (32, .int .i64 x10), (33, .int .u64 x9), (34, .int .u64 (u64 (x9 * 256))), (35, .string r2), (36, .int .i64 x10)]) (fun _ => []) (fun _ => []) (fun _ => by kernel_rfl) (fun _ => ?_)
        obtain ⟨t12, h13, hM⟩ := bind_some hM
        refine WL.val (fun _ => run_idxS (s := r2) (k := .i64) (i := x10) (by kernel_rfl) (by kernel_rfl) (by kernel_rfl) h13) (by kernel_rfl) (by kernel_rfl) rfl ?_
        refine WL.run 3 [] [6, 7, 8, 10, 11, 29, 30, 31, 32, 33, 34, 35, 36, 37, 38, 39] (fun _ => [(6, .int .u64 0), (7, .int .i64 0), (8, .string r2), (10, .int .u64 (bOr .u64 (u64 (x9 * 256)) (u64 t12))), (11, .int .i64 x10), (29, .int .i64 a2), (30, .int .i64 x10), (31, .bool (decide (x10 < a2))), (32, .int .i64 x10), (33, .int .u64 x9), (34, .int .u64 (u64 (x9 * 256))), (35, .string r2), (36, .int .i64 x10), (37, .int .u8 t12), (38, .int .u64 (u64 t12)), (39, .int .u64 (bOr .u64 (u64 (x9 * 256)) (u64 t12)))]) (fun _ => []) (fun _ => []) (fun _ => by kernel_rfl) (fun _ => ?_)
        refine WP.done ?_
        refine WP.leave ?_
        refine WP.run [] [6, 7, 8, 10, 11, 29, 30, 31, 32, 33, 34, 35, 36, 37, 38, 39, 40] (fun _ => [(6, .int .u64 0), (7, .int .i64 0), (8, .string r2), (10, .int .u64 (bOr .u64 (u64 (x9 * 256)) (u64 t12))), (11, .int .i64 x10), (29, .int .i64 a2), (30, .int .i64 (i64 (x10 + 1))), (31, .bool (decide (x10 < a2))), (32, .int .i64 x10), (33, .int .u64 x9), (34, .int .u64 (u64 (x9 * 256))), (35, .string r2), (36, .int .i64 x10), (37, .int .u8 t12), (38, .int .u64 (u64 t12)), (39, .int .u64 (bOr .u64 (u64 (x9 * 256)) (u64 t12))), (40, .int .i64 (i64 (x10 + 1)))]) (fun _ => []) (fun _ => []) (fun _ => by kernel_rfl) (fun _ => ?_)
        exact WP.again' [6, 7, 8, 10, 29, 30] (bOr .u64 (u64 (x9 * 256)) (u64 t12), i64 (x10 + 1)) hM (by kernel_rfl) (fun _ h => h.pick [] (by kernel_rfl))
      · replace hM := cond_f hM c11
        refine WP.exit rfl ?_
        refine WP.seq ?_
        refine WP.run [] [6, 7] (fun _ => [(6, .int .u64 x9), (7, .int .i64 0)]) (fun _ => []) (fun _ => []) (fun _ => by kernel_rfl) (fun _ => ?_)
        obtain rfl := Option.some.inj hM
        exact WP.ret [] [] (.tuple #[.int .u64 x9, .int .i64 0]) (by kernel_rfl) (fun w' hw => ⟨rfl, hw.pick [] rfl⟩)
    · dsimp only at hM
      refine WL.run 1 [] [2, 6, 7, 8, 9, 26] (fun _ => [(2, .int .i64 a2), (6, .int .u64 0), (7, .int .i64 0), (8, .string r2), (9, .iface 181 (.agg #[.int .i64 q5, .iface 30 (.int .i64 q6)])), (26, .bool true)]) (fun _ => []) (fun _ => []) (fun _ => by kernel_rfl) (fun _ => ?_)
      refine WP.done ?_
      refine WP.yes rfl rfl ?_
      refine WP.seq ?_
      refine WP.region ?_
      refine WL.run 1 [] [2, 6, 7, 8, 27] (fun _ => [(2, .int .i64 a2), (6, .int .u64 0), (7, .int .i64 0), (8, .string r2), (27, .iface 181 (.agg #[.int .i64 q5, .iface 30 (.int .i64 q6)]))]) (fun _ => []) (fun _ => []) (fun _ => by kernel_rfl) (fun _ => ?_)
      obtain ⟨r7, h8, hM⟩ := bind_some hM
      refine WL.callP [] [] (octets_number_calls q5 q6 _ h8) (fun _ h => h) (by kernel_rfl) (by kernel_rfl) rfl ?_
      refine WL.run 2 [] [2, 6, 7, 8] (fun _ => [(2, .int .i64 a2), (6, .int .u64 0), (7, .int .i64 r7), (8, .string r2)]) (fun _ => []) (fun _ => []) (fun _ => by kernel_rfl) (fun _ => ?_)
      refine WP.done ?_
      obtain rfl := Option.some.inj hM
      exact WP.ret [] [] (.tuple #[.int .u64 0, .int .i64 r7]) (by kernel_rfl) (fun w' hw => ⟨rfl, hw.pick [] rfl⟩)

end Go.Proofs.YtbodofjnfmjbpaaGreatDoor

namespace Go.Proofs.YtbodofjnfmjbpaaGreatDoor
open Go Eng
set_option linter.unusedVariables false
set_option linter.unusedSimpArgs false

/-! ### (*gangway/ether.reader).get: function 106 -/
def ether_reader_get.f (k : Nat) (a0 : ether_reader) (a1 : Int) (a2 : ByteArray) : Option (Int × Un1 × ether_reader) :=
  (octets_Get.f k a0.s a0.at_ a1).bind fun (r1, r2) =>
  bif (r2 != 0) then
    some (0, some (a2, 40), a0)
  else
    some (r1, none, (ether_reader.mk a0.s (i64 (a0.at_ + a1))))

set_option maxRecDepth 100000 in
theorem ether_reader_get_calls (k : Nat) (b_0 : Nat) (a0 : ether_reader) (a1 : Int) (a2 : ByteArray) (r : Int × Un1 × ether_reader) (h : ether_reader_get.f k a0 a1 a2 = some r) : Does Tryz.prog 106 #[.pointer (some ⟨b_0, 0, none⟩), .int .i64 a1, .string a2] [(b_0, .cells #[.string a0.s, .int .i64 a0.at_] 132 (0, 0))] Glob (fun _ : Unit => .tuple #[.int .u64 r.1, Un1.v r.2.1]) (fun _ => [(b_0, .cells #[.string r.2.2.s, .int .i64 r.2.2.at_] 132 (0, 0))]) (fun _ => []) (fun _ => Glob) := by
  intro w Z hS
  refine calls_of (args := [.pointer (some ⟨b_0, 0, none⟩), .int .i64 a1, .string a2]) (L := [(0, .pointer (some ⟨b_0, 0, none⟩)), (1, .int .i64 a1), (2, .string a2)]) (N := 38) (S := Sat w Z [(b_0, .cells #[.string a0.s, .int .i64 a0.at_] 132 (0, 0))] [] Glob) Tryz.func106 rfl rfl (Nat.le_of_ble_eq_true rfl) rfl hS ?_
  have hM := h
  clear h hS
  unfold ether_reader_get.f at hM
  refine WP.seq ?_
  refine WP.run [] [0, 1, 2, 6, 7] (fun _ => [(0, .pointer (some ⟨b_0, 0, none⟩)), (1, .int .i64 a1), (2, .string a2), (6, .int .u64 0), (7, .nilIface)]) (fun _ => [(b_0, .cells #[.string a0.s, .int .i64 a0.at_] 132 (0, 0))]) (fun _ => []) (fun _ => by kernel_rfl) (fun _ => ?_)
  refine WP.seq ?_
  refine WP.quiet (by kernel_rfl) (by kernel_rfl) ?_
  refine QL.run 9 [0, 0] [0, 1, 2, 6, 7, 14, 18, 19] [b_0, b_0] [(0, .pointer (some ⟨b_0, 0, none⟩)), (1, .int .i64 a1), (2, .string a2), (6, .int .u64 0), (7, .nilIface), (14, .string a0.s), (18, .int .i64 a0.at_), (19, .int .i64 a1)] (by kernel_rfl) ?_
  obtain ⟨⟨r1, r2⟩, h3, hM⟩ := bind_some hM
  dsimp only at hM
  refine QL.callP [] [] (octets_Get_calls k a0.s a0.at_ a1 _ h3) (fun _ h => h) (by kernel_rfl) (by kernel_rfl) rfl ?_
  refine QL.run 5 [] [0, 1, 2, 6, 7, 8, 9] [] [(0, .pointer (some ⟨b_0, 0, none⟩)), (1, .int .i64 a1), (2, .string a2), (6, .int .u64 0), (7, .nilIface), (8, .int .u64 r1), (9, .int .i64 r2)] (by kernel_rfl) ?_
  refine QL.done ?_
  refine WP.seq ?_
  refine WP.seq ?_
  refine WP.run [] [0, 1, 2, 6, 7, 8, 24] (fun _ => [(0, .pointer (some ⟨b_0, 0, none⟩)), (1, .int .i64 a1), (2, .string a2), (6, .int .u64 0), (7, .nilIface), (8, .int .u64 r1), (24, .bool (r2 != 0))]) (fun _ => [(b_0, .cells #[.string a0.s, .int .i64 a0.at_] 132 (0, 0))]) (fun _ => []) (fun _ => by kernel_rfl) (fun _ => ?_)
  refine WP.cond (r2 != 0) rfl rfl (fun c4 => ?_) (fun c4 => ?_)
  · replace hM := cond_t hM c4
    refine WP.seq ?_
    refine WP.run [] [0, 1, 6, 7, 8] (fun _ => [(0, .pointer (some ⟨b_0, 0, none⟩)), (1, .int .i64 a1), (6, .int .u64 0), (7, .iface 183 (.agg #[.string a2, .iface 30 (.int .i64 40)])), (8, .int .u64 r1)]) (fun _ => [(b_0, .cells #[.string a0.s, .int .i64 a0.at_] 132 (0, 0))]) (fun _ => []) (fun _ => by kernel_rfl) (fun _ => ?_)
    obtain rfl := Option.some.inj hM
    exact WP.ret [] [] (.tuple #[.int .u64 0, .iface 183 (.agg #[.string a2, .iface 30 (.int .i64 40)])]) (by kernel_rfl) (fun w' hw => ⟨(), rfl, hw.pick [0] (by kernel_rfl)⟩)
  · replace hM := cond_f hM c4
    refine WP.skip ?_
    refine WP.seq ?_
    refine WP.run [0, 0] [6, 7, 8] (fun _ => [(6, .int .u64 0), (7, .nilIface), (8, .int .u64 r1)]) (fun _ => [(b_0, .cells #[.string a0.s, .int .i64 (i64 (a0.at_ + a1))] 132 (0, 0))]) (fun _ => [b_0, b_0]) (fun _ => by kernel_rfl) (fun _ => ?_)
    refine WP.seq ?_
    refine WP.run [] [6, 7] (fun _ => [(6, .int .u64 r1), (7, .nilIface)]) (fun _ => [(b_0, .cells #[.string a0.s, .int .i64 (i64 (a0.at_ + a1))] 132 (0, 0))]) (fun _ => []) (fun _ => by kernel_rfl) (fun _ => ?_)
    obtain rfl := Option.some.inj hM
    exact WP.ret [] [] (.tuple #[.int .u64 r1, .nilIface]) (by kernel_rfl) (fun w' hw => ⟨(), rfl, hw.pick [0] (by kernel_rfl)⟩)

end Go.Proofs.YtbodofjnfmjbpaaGreatDoor

namespace Go.Proofs.YtbodofjnfmjbpaaGreatDoor
open Go Eng
set_option linter.unusedVariables false
set_option linter.unusedSimpArgs false

/-! ### (*gangway/ether.reader).tagged: function 107 -/
def ether_reader_tagged.f (k : Nat) (a0 : ether_reader) (a1 : api_Frame) : Option (Int × Un1 × ether_reader × api_Frame) :=
  (ether_reader_get.f k a0 2 (⟨#[116, 97, 103]⟩ : ByteArray)).bind fun (r1, r2, r3) =>
  match r2 with
  | none =>
    (ether_reader_get.f k r3 2 (⟨#[116, 121, 112, 101]⟩ : ByteArray)).bind fun (r7, r8, r9) =>
    match r8 with
    | none =>
      some (i64 r7, none, r9, (api_Frame.mk a1.Dst a1.Src (api_Tag.mk true (Int.fdiv (i64 r1) 8192) ((bAnd .i64 (i64 r1) 4096) != 0) (Int.tmod (i64 r1) 4096)) a1.Type_ a1.Body))
    | some (q11, q12) =>
      some (i64 r7, some (q11, q12), r9, (api_Frame.mk a1.Dst a1.Src (api_Tag.mk true (Int.fdiv (i64 r1) 8192) ((bAnd .i64 (i64 r1) 4096) != 0) (Int.tmod (i64 r1) 4096)) a1.Type_ a1.Body))
  | some (q5, q6) =>
    some (0, some (q5, q6), r3, a1)

set_option maxRecDepth 100000 in
theorem ether_reader_tagged_calls (k : Nat) (b_0 : Nat) (b_1 : Nat) (a0 : ether_reader) (a1 : api_Frame) (r : Int × Un1 × ether_reader × api_Frame) (h : ether_reader_tagged.f k a0 a1 = some r) : Does Tryz.prog 107 #[.pointer (some ⟨b_0, 0, none⟩), .pointer (some ⟨b_1, 0, none⟩)] [(b_0, .cells #[.string a0.s, .int .i64 a0.at_] 132 (0, 0)), (b_1, .cells #[.int .u64 a1.Dst, .int .u64 a1.Src, .bool a1.Tag.Has, .int .i64 a1.Tag.Pri, .bool a1.Tag.Dei, .int .i64 a1.Tag.Vid, .int .i64 a1.Type_, .string a1.Body] 29 (0, 0))] Glob (fun _ : Unit => .tuple #[.int .i64 r.1, Un1.v r.2.1]) (fun _ => [(b_0, .cells #[.string r.2.2.1.s, .int .i64 r.2.2.1.at_] 132 (0, 0)), (b_1, .cells #[.int .u64 r.2.2.2.Dst, .int .u64 r.2.2.2.Src, .bool r.2.2.2.Tag.Has, .int .i64 r.2.2.2.Tag.Pri, .bool r.2.2.2.Tag.Dei, .int .i64 r.2.2.2.Tag.Vid, .int .i64 r.2.2.2.Type_, .string r.2.2.2.Body] 29 (0, 0))]) (fun _ => []) (fun _ => Glob) := by
  intro w Z hS
  refine calls_of (args := [.pointer (some ⟨b_0, 0, none⟩), .pointer (some ⟨b_1, 0, none⟩)]) (L := [(0, .pointer (some ⟨b_0, 0, none⟩)), (1, .pointer (some ⟨b_1, 0, none⟩))]) (N := 39) (S := Sat w Z [(b_0, .cells #[.string a0.s, .int .i64 a0.at_] 132 (0, 0)), (b_1, .cells #[.int .u64 a1.Dst, .int .u64 a1.Src, .bool a1.Tag.Has, .int .i64 a1.Tag.Pri, .bool a1.Tag.Dei, .int .i64 a1.Tag.Vid, .int .i64 a1.Type_, .string a1.Body] 29 (0, 0))] [] Glob) Tryz.func107 rfl rfl (Nat.le_of_ble_eq_true rfl) rfl hS ?_
  have hM := h
  clear h hS
  unfold ether_reader_tagged.f at hM
  refine WP.seq ?_
  refine WP.run [] [0, 1, 4, 5] (fun _ => [(0, .pointer (some ⟨b_0, 0, none⟩)), (1, .pointer (some ⟨b_1, 0, none⟩)), (4, .int .i64 0), (5, .nilIface)]) (fun _ => [(b_0, .cells #[.string a0.s, .int .i64 a0.at_] 132 (0, 0)), (b_1, .cells #[.int .u64 a1.Dst, .int .u64 a1.Src, .bool a1.Tag.Has, .int .i64 a1.Tag.Pri, .bool a1.Tag.Dei, .int .i64 a1.Tag.Vid, .int .i64 a1.Type_, .string a1.Body] 29 (0, 0))]) (fun _ => []) (fun _ => by kernel_rfl) (fun _ => ?_)
  refine WP.seq ?_
  refine WP.region ?_
  refine WL.run 1 [] [0, 1, 4, 5, 11] (fun _ => [(0, .pointer (some ⟨b_0, 0, none⟩)), (1, .pointer (some ⟨b_1, 0, none⟩)), (4, .int .i64 0), (5, .nilIface), (11, .pointer (some ⟨b_0, 0, none⟩))]) (fun _ => [(b_0, .cells #[.string a0.s, .int .i64 a0.at_] 132 (0, 0)), (b_1, .cells #[.int .u64 a1.Dst, .int .u64 a1.Src, .bool a1.Tag.Has, .int .i64 a1.Tag.Pri, .bool a1.Tag.Dei, .int .i64 a1.Tag.Vid, .int .i64 a1.Type_, .string a1.Body] 29 (0, 0))]) (fun _ => []) (fun _ => by kernel_rfl) (fun _ => ?_)
  obtain ⟨⟨r1, r2, r3⟩, h4, hM⟩ := bind_some hM
  dsimp only at hM
  refine WL.callE (X := Unit) [] [] [true, false] (fun _ => _) (ether_reader_get_calls k b_0 a0 2 (⟨#[116, 97, 103]⟩ : ByteArray) _ h4) rfl rfl (fun _ h => h) (by kernel_rfl) (by kernel_rfl) (fun _ => rfl) (fun _ => ?_)
  refine WL.run 5 [] [0, 1, 4, 5, 6, 7] (fun _ => [(0, .pointer (some ⟨b_0, 0, none⟩)), (1, .pointer (some ⟨b_1, 0, none⟩)), (4, .int .i64 0), (5, .nilIface), (6, .int .u64 r1), (7, Un1.v r2)]) (fun _ => [(b_0, .cells #[.string r3.s, .int .i64 r3.at_] 132 (0, 0)), (b_1, .cells #[.int .u64 a1.Dst, .int .u64 a1.Src, .bool a1.Tag.Has, .int .i64 a1.Tag.Pri, .bool a1.Tag.Dei, .int .i64 a1.Tag.Vid, .int .i64 a1.Type_, .string a1.Body] 29 (0, 0))]) (fun _ => []) (fun _ => by kernel_rfl) (fun _ => ?_)
  refine WP.done ?_
  refine WP.seq ?_
  refine WP.seq ?_
  refine WP.region ?_
  refine WL.run 1 [] [0, 1, 4, 5, 6, 7, 15] (fun _ => [(0, .pointer (some ⟨b_0, 0, none⟩)), (1, .pointer (some ⟨b_1, 0, none⟩)), (4, .int .i64 0), (5, .nilIface), (6, .int .u64 r1), (7, Un1.v r2), (15, Un1.v r2)]) (fun _ => [(b_0, .cells #[.string r3.s, .int .i64 r3.at_] 132 (0, 0)), (b_1, .cells #[.int .u64 a1.Dst, .int .u64 a1.Src, .bool a1.Tag.Has, .int .i64 a1.Tag.Pri, .bool a1.Tag.Dei, .int .i64 a1.Tag.Vid, .int .i64 a1.Type_, .string a1.Body] 29 (0, 0))]) (fun _ => []) (fun _ => by kernel_rfl) (fun _ => ?_)
  rcases r2 with _ | ⟨q5, q6⟩
  · dsimp only at hM
    refine WL.run 1 [] [0, 1, 4, 5, 6, 7, 16] (fun _ => [(0, .pointer (some ⟨b_0, 0, none⟩)), (1, .pointer (some ⟨b_1, 0, none⟩)), (4, .int .i64 0), (5, .nilIface), (6, .int .u64 r1), (7, .nilIface), (16, .bool false)]) (fun _ => [(b_0, .cells #[.string r3.s, .int .i64 r3.at_] 132 (0, 0)), (b_1, .cells #[.int .u64 a1.Dst, .int .u64 a1.Src, .bool a1.Tag.Has, .int .i64 a1.Tag.Pri, .bool a1.Tag.Dei, .int .i64 a1.Tag.Vid, .int .i64 a1.Type_, .string a1.Body] 29 (0, 0))]) (fun _ => []) (fun _ => by kernel_rfl) (fun _ => ?_)
    refine WP.done ?_
    refine WP.no rfl rfl ?_
    refine WP.skip ?_
    refine WP.seq ?_
    refine WP.run [] [0, 1, 4, 5, 7, 8] (fun _ => [(0, .pointer (some ⟨b_0, 0, none⟩)), (1, .pointer (some ⟨b_1, 0, none⟩)), (4, .int .i64 0), (5, .nilIface), (7, .nilIface), (8, .int .i64 (i64 r1))]) (fun _ => [(b_0, .cells #[.string r3.s, .int .i64 r3.at_] 132 (0, 0)), (b_1, .cells #[.int .u64 a1.Dst, .int .u64 a1.Src, .bool a1.Tag.Has, .int .i64 a1.Tag.Pri, .bool a1.Tag.Dei, .int .i64 a1.Tag.Vid, .int .i64 a1.Type_, .string a1.Body] 29 (0, 0))]) (fun _ => []) (fun _ => by kernel_rfl) (fun _ => ?_)
    refine WP.seq ?_
    refine WP.run [1, 1, 1, 1] [0, 4, 5, 7] (fun _ => [(0, .pointer (some ⟨b_0, 0, none⟩)), (4, .int .i64 0), (5, .nilIface), (7, .nilIface)]) (fun _ => [(b_0, .cells #[.string r3.s, .int .i64 r3.at_] 132 (0, 0)), (b_1, .cells #[.int .u64 a1.Dst, .int .u64 a1.Src, .bool true, .int .i64 (Int.fdiv (i64 r1) 8192), .bool ((bAnd .i64 (i64 r1) 4096) != 0), .int .i64 (Int.tmod (i64 r1) 4096), .int .i64 a1.Type_, .string a1.Body] 29 (0, 0))]) (fun _ => [b_1, b_1, b_1, b_1]) (fun _ => by kernel_rfl) (fun _ => ?_)
    refine WP.seq ?_
    refine WP.region ?_
    refine WL.run 1 [] [4, 5, 7, 32] (fun _ => [(4, .int .i64 0), (5, .nilIface), (7, .nilIface), (32, .pointer (some ⟨b_0, 0, none⟩))]) (fun _ => [(b_0, .cells #[.string r3.s, .int .i64 r3.at_] 132 (0, 0)), (b_1, .cells #[.int .u64 a1.Dst, .int .u64 a1.Src, .bool true, .int .i64 (Int.fdiv (i64 r1) 8192), .bool ((bAnd .i64 (i64 r1) 4096) != 0), .int .i64 (Int.tmod (i64 r1) 4096), .int .i64 a1.Type_, .string a1.Body] 29 (0, 0))]) (fun _ => []) (fun _ => by kernel_rfl) (fun _ => ?_)
    obtain ⟨⟨r7, r8, r9⟩, h10, hM⟩ := bind_some hM
    dsimp only at hM
    refine WL.callE (X := Unit) [] [] [true, false] (fun _ => _) (ether_reader_get_calls k b_0 r3 2 (⟨#[116, 121, 112, 101]⟩ : ByteArray) _ h10) rfl rfl (fun _ h => h) (by kernel_rfl) (by kernel_rfl) (fun _ => rfl) (fun _ => ?_)
    refine WL.run 5 [] [4, 5, 7, 9] (fun _ => [(4, .int .i64 0), (5, .nilIface), (7, Un1.v r8), (9, .int .u64 r7)]) (fun _ => [(b_0, .cells #[.string r9.s, .int .i64 r9.at_] 132 (0, 0)), (b_1, .cells #[.int .u64 a1.Dst, .int .u64 a1.Src, .bool true, .int .i64 (Int.fdiv (i64 r1) 8192), .bool ((bAnd .i64 (i64 r1) 4096) != 0), .int .i64 (Int.tmod (i64 r1) 4096), .int .i64 a1.Type_, .string a1.Body] 29 (0, 0))]) (fun _ => []) (fun _ => by kernel_rfl) (fun _ => ?_)
    refine WP.done ?_
    refine WP.seq ?_
    refine WP.run [] [4, 5] (fun _ => [(4, .int .i64 (i64 r7)), (5, Un1.v r8)]) (fun _ => [(b_0, .cells #[.string r9.s, .int .i64 r9.at_] 132 (0, 0)), (b_1, .cells #[.int .u64 a1.Dst, .int .u64 a1.Src, .bool true, .int .i64 (Int.fdiv (i64 r1) 8192), .bool ((bAnd .i64 (i64 r1) 4096) != 0), .int .i64 (Int.tmod (i64 r1) 4096), .int .i64 a1.Type_, .string a1.Body] 29 (0, 0))]) (fun _ => []) (fun _ => by kernel_rfl) (fun _ => ?_)
    rcases r8 with _ | ⟨q11, q12⟩
    · dsimp only at hM
      obtain rfl := Option.some.inj hM
      exact WP.ret [] [] (.tuple #[.int .i64 (i64 r7), .nilIface]) (by kernel_rfl) (fun w' hw => ⟨(), rfl, hw.pick [0, 1] (by kernel_rfl)⟩)
    · dsimp only at hM
      obtain rfl := Option.some.inj hM
      exact WP.ret [] [] (.tuple #[.int .i64 (i64 r7), .iface 183 (.agg #[.string q11, .iface 30 (.int .i64 q12)])]) (by kernel_rfl) (fun w' hw => ⟨(), rfl, hw.pick [0, 1] (by kernel_rfl)⟩)
  · dsimp only at hM
    refine WL.run 1 [] [0, 1, 4, 5, 6, 7, 16] (fun _ => [(0, .pointer (some ⟨b_0, 0, none⟩)), (1, .pointer (some ⟨b_1, 0, none⟩)), (4, .int .i64 0), (5, .nilIface), (6, .int .u64 r1), (7, .iface 183 (.agg #[.string q5, .iface 30 (.int .i64 q6)])), (16, .bool true)]) (fun _ => [(b_0, .cells #[.string r3.s, .int .i64 r3.at_] 132 (0, 0)), (b_1, .cells #[.int .u64 a1.Dst, .int .u64 a1.Src, .bool a1.Tag.Has, .int .i64 a1.Tag.Pri, .bool a1.Tag.Dei, .int .i64 a1.Tag.Vid, .int .i64 a1.Type_, .string a1.Body] 29 (0, 0))]) (fun _ => []) (fun _ => by kernel_rfl) (fun _ => ?_)
    refine WP.done ?_
    refine WP.yes rfl rfl ?_
    refine WP.seq ?_
    refine WP.run [] [0, 1, 4, 5, 6, 7] (fun _ => [(0, .pointer (some ⟨b_0, 0, none⟩)), (1, .pointer (some ⟨b_1, 0, none⟩)), (4, .int .i64 0), (5, .iface 183 (.agg #[.string q5, .iface 30 (.int .i64 q6)])), (6, .int .u64 r1), (7, .iface 183 (.agg #[.string q5, .iface 30 (.int .i64 q6)]))]) (fun _ => [(b_0, .cells #[.string r3.s, .int .i64 r3.at_] 132 (0, 0)), (b_1, .cells #[.int .u64 a1.Dst, .int .u64 a1.Src, .bool a1.Tag.Has, .int .i64 a1.Tag.Pri, .bool a1.Tag.Dei, .int .i64 a1.Tag.Vid, .int .i64 a1.Type_, .string a1.Body] 29 (0, 0))]) (fun _ => []) (fun _ => by kernel_rfl) (fun _ => ?_)
    obtain rfl := Option.some.inj hM
    exact WP.ret [] [] (.tuple #[.int .i64 0, .iface 183 (.agg #[.string q5, .iface 30 (.int .i64 q6)])]) (by kernel_rfl) (fun w' hw => ⟨(), rfl, hw.pick [0, 1] (by kernel_rfl)⟩)

end Go.Proofs.YtbodofjnfmjbpaaGreatDoor

namespace Go.Proofs.YtbodofjnfmjbpaaGreatDoor
open Go Eng
set_option linter.unusedVariables false
set_option linter.unusedSimpArgs false

/-! ### (*gangway/ether.reader).body: function 108 -/
def ether_reader_body.k1 (a1 : api_Frame) (a2 : Int) (t1 : ByteArray) (x4 : Bool) : Option (Un1 × api_Frame) :=
  bif x4 then
    some (some ((⟨#[116, 121, 112, 101]⟩ : ByteArray), 41), a1)
  else
    bif decide (a2 > 1500) then
      some (none, (api_Frame.mk a1.Dst a1.Src a1.Tag a2 t1))
    else
      bif decide (a2 > (t1.size : Int)) then
        some (some ((⟨#[98, 111, 100, 121]⟩ : ByteArray), 40), a1)
      else
        (sliceS t1 0 a2).bind fun t8 =>
        some (none, (api_Frame.mk a1.Dst a1.Src a1.Tag a1.Type_ t8))

def ether_reader_body.f (a0 : ether_reader) (a1 : api_Frame) (a2 : Int) : Option (Un1 × api_Frame) :=
  (sliceS a0.s a0.at_ (a0.s.size : Int)).bind fun t1 =>
  bif (a2 == 33024) then
    ether_reader_body.k1 a1 a2 t1 true
  else
    ether_reader_body.k1 a1 a2 t1 ((decide (a2 > 1500)) && (decide (a2 < 1536)))

set_option maxRecDepth 100000 in
theorem ether_reader_body_calls (b_0 : Nat) (b_1 : Nat) (a0 : ether_reader) (a1 : api_Frame) (a2 : Int) (r : Un1 × api_Frame) (h : ether_reader_body.f a0 a1 a2 = some r) : Does Tryz.prog 108 #[.pointer (some ⟨b_0, 0, none⟩), .pointer (some ⟨b_1, 0, none⟩), .int .i64 a2] [(b_0, .cells #[.string a0.s, .int .i64 a0.at_] 132 (0, 0)), (b_1, .cells #[.int .u64 a1.Dst, .int .u64 a1.Src, .bool a1.Tag.Has, .int .i64 a1.Tag.Pri, .bool a1.Tag.Dei, .int .i64 a1.Tag.Vid, .int .i64 a1.Type_, .string a1.Body] 29 (0, 0))] Glob (fun _ : Unit => Un1.v r.1) (fun _ => [(b_0, .cells #[.string a0.s, .int .i64 a0.at_] 132 (0, 0)), (b_1, .cells #[.int .u64 r.2.Dst, .int .u64 r.2.Src, .bool r.2.Tag.Has, .int .i64 r.2.Tag.Pri, .bool r.2.Tag.Dei, .int .i64 r.2.Tag.Vid, .int .i64 r.2.Type_, .string r.2.Body] 29 (0, 0))]) (fun _ => []) (fun _ => Glob) := by
  intro w Z hS
  refine calls_of (args := [.pointer (some ⟨b_0, 0, none⟩), .pointer (some ⟨b_1, 0, none⟩), .int .i64 a2]) (L := [(0, .pointer (some ⟨b_0, 0, none⟩)), (1, .pointer (some ⟨b_1, 0, none⟩)), (2, .int .i64 a2)]) (N := 55) (S := Sat w Z [(b_0, .cells #[.string a0.s, .int .i64 a0.at_] 132 (0, 0)), (b_1, .cells #[.int .u64 a1.Dst, .int .u64 a1.Src, .bool a1.Tag.Has, .int .i64 a1.Tag.Pri, .bool a1.Tag.Dei, .int .i64 a1.Tag.Vid, .int .i64 a1.Type_, .string a1.Body] 29 (0, 0))] [] Glob) Tryz.func108 rfl rfl (Nat.le_of_ble_eq_true rfl) rfl hS ?_
  have hM := h
  clear h hS
  unfold ether_reader_body.f at hM
  refine WP.seq ?_
  refine WP.run [] [0, 1, 2, 6] (fun _ => [(0, .pointer (some ⟨b_0, 0, none⟩)), (1, .pointer (some ⟨b_1, 0, none⟩)), (2, .int .i64 a2), (6, .nilIface)]) (fun _ => [(b_0, .cells #[.string a0.s, .int .i64 a0.at_] 132 (0, 0)), (b_1, .cells #[.int .u64 a1.Dst, .int .u64 a1.Src, .bool a1.Tag.Has, .int .i64 a1.Tag.Pri, .bool a1.Tag.Dei, .int .i64 a1.Tag.Vid, .int .i64 a1.Type_, .string a1.Body] 29 (0, 0))]) (fun _ => []) (fun _ => by kernel_rfl) (fun _ => ?_)
  refine WP.seq ?_
  refine WP.quiet (by kernel_rfl) (by kernel_rfl) ?_
  refine QL.run 8 [0, 0] [1, 2, 6, 11, 15] [b_0, b_0] [(1, .pointer (some ⟨b_1, 0, none⟩)), (2, .int .i64 a2), (6, .nilIface), (11, .string a0.s), (15, .int .i64 a0.at_)] (by kernel_rfl) ?_
  obtain ⟨t1, h2, hM⟩ := bind_some hM
  refine QL.val (fun _ => run_sliceS_lo (s := a0.s) (kl := .i64) (l := a0.at_) (by kernel_rfl) (by kernel_rfl) (by kernel_rfl) h2) (by kernel_rfl) (by kernel_rfl) rfl ?_
  refine QL.run 1 [] [1, 2, 6, 7] [] [(1, .pointer (some ⟨b_1, 0, none⟩)), (2, .int .i64 a2), (6, .nilIface), (7, .string t1)] (by kernel_rfl) ?_
  refine QL.done ?_
  refine WP.seq ?_
  refine WP.block ?_
  refine WP.seq ?_
  refine WP.region ?_
  refine WL.run 3 [] [1, 2, 6, 7, 20] (fun _ => [(1, .pointer (some ⟨b_1, 0, none⟩)), (2, .int .i64 a2), (6, .nilIface), (7, .string t1), (20, .bool (a2 == 33024))]) (fun _ => [(b_0, .cells #[.string a0.s, .int .i64 a0.at_] 132 (0, 0)), (b_1, .cells #[.int .u64 a1.Dst, .int .u64 a1.Src, .bool a1.Tag.Has, .int .i64 a1.Tag.Pri, .bool a1.Tag.Dei, .int .i64 a1.Tag.Vid, .int .i64 a1.Type_, .string a1.Body] 29 (0, 0))]) (fun _ => []) (fun _ => by kernel_rfl) (fun _ => ?_)
  refine WL.sub [1, 2, 6, 7, 20] (L' := [(1, .pointer (some ⟨b_1, 0, none⟩)), (2, .int .i64 a2), (6, .nilIface), (7, .string t1), (20, .bool (a2 == 33024))]) (by kernel_rfl) ?_
  refine WL.join (σ := Bool) 7 (fun st => ether_reader_body.k1 a1 a2 t1 st = some r) (fun st => [(1, .pointer (some ⟨b_1, 0, none⟩)), (2, .int .i64 a2), (6, .nilIface), (7, .string t1), (27, .bool st)]) (fun st => Sat w Z [(b_0, .cells #[.string a0.s, .int .i64 a0.at_] 132 (0, 0)), (b_1, .cells #[.int .u64 a1.Dst, .int .u64 a1.Src, .bool a1.Tag.Has, .int .i64 a1.Tag.Pri, .bool a1.Tag.Dei, .int .i64 a1.Tag.Vid, .int .i64 a1.Type_, .string a1.Body] 29 (0, 0))] [] Glob) (fun st hM => ?_) (fun K1 => ?_)
  ·
    obtain ⟨x4, rfl⟩ : ∃ y, y = st := ⟨st, rfl⟩
    replace hM : ether_reader_body.k1 a1 a2 t1 x4 = some r := hM
    unfold ether_reader_body.k1 at hM
    show WL _ _ _ _ _ [(1, .pointer (some ⟨b_1, 0, none⟩)), (2, .int .i64 a2), (6, .nilIface), (7, .string t1), (27, .bool x4)] (Sat w Z [(b_0, .cells #[.string a0.s, .int .i64 a0.at_] 132 (0, 0)), (b_1, .cells #[.int .u64 a1.Dst, .int .u64 a1.Src, .bool a1.Tag.Has, .int .i64 a1.Tag.Pri, .bool a1.Tag.Dei, .int .i64 a1.Tag.Vid, .int .i64 a1.Type_, .string a1.Body] 29 (0, 0))] [] Glob)
    refine WL.run 1 [] [1, 2, 6, 7, 17] (fun _ => [(1, .pointer (some ⟨b_1, 0, none⟩)), (2, .int .i64 a2), (6, .nilIface), (7, .string t1), (17, .bool x4)]) (fun _ => [(b_0, .cells #[.string a0.s, .int .i64 a0.at_] 132 (0, 0)), (b_1, .cells #[.int .u64 a1.Dst, .int .u64 a1.Src, .bool a1.Tag.Has, .int .i64 a1.Tag.Pri, .bool a1.Tag.Dei, .int .i64 a1.Tag.Vid, .int .i64 a1.Type_, .string a1.Body] 29 (0, 0))]) (fun _ => []) (fun _ => by kernel_rfl) (fun _ => ?_)
    refine WP.done ?_
    refine WP.cond x4 rfl rfl (fun c5 => ?_) (fun c5 => ?_)
    · replace hM := cond_t hM c5
      refine WP.seq ?_
      refine WP.run [] [1, 2, 6, 7] (fun _ => [(1, .pointer (some ⟨b_1, 0, none⟩)), (2, .int .i64 a2), (6, .iface 183 (.agg #[.string (⟨#[116, 121, 112, 101]⟩ : ByteArray), .iface 30 (.int .i64 41)])), (7, .string t1)]) (fun _ => [(b_0, .cells #[.string a0.s, .int .i64 a0.at_] 132 (0, 0)), (b_1, .cells #[.int .u64 a1.Dst, .int .u64 a1.Src, .bool a1.Tag.Has, .int .i64 a1.Tag.Pri, .bool a1.Tag.Dei, .int .i64 a1.Tag.Vid, .int .i64 a1.Type_, .string a1.Body] 29 (0, 0))]) (fun _ => []) (fun _ => by kernel_rfl) (fun _ => ?_)
      obtain rfl := Option.some.inj hM
      exact WP.ret [] [] (.iface 183 (.agg #[.string (⟨#[116, 121, 112, 101]⟩ : ByteArray), .iface 30 (.int .i64 41)])) (by kernel_rfl) (fun w' hw => ⟨(), rfl, hw.pick [0, 1] (by kernel_rfl)⟩)
    · replace hM := cond_f hM c5
      refine WP.seq ?_
      refine WP.run [] [1, 2, 6, 7, 31] (fun _ => [(1, .pointer (some ⟨b_1, 0, none⟩)), (2, .int .i64 a2), (6, .nilIface), (7, .string t1), (31, .bool (decide (a2 > 1500)))]) (fun _ => [(b_0, .cells #[.string a0.s, .int .i64 a0.at_] 132 (0, 0)), (b_1, .cells #[.int .u64 a1.Dst, .int .u64 a1.Src, .bool a1.Tag.Has, .int .i64 a1.Tag.Pri, .bool a1.Tag.Dei, .int .i64 a1.Tag.Vid, .int .i64 a1.Type_, .string a1.Body] 29 (0, 0))]) (fun _ => []) (fun _ => by kernel_rfl) (fun _ => ?_)
      refine WP.cond (decide (a2 > 1500)) rfl rfl (fun c6 => ?_) (fun c6 => ?_)
      · replace hM := cond_t hM c6
        refine WP.seq ?_
        refine WP.run [1, 1] [1, 2, 6, 7] (fun _ => [(1, .pointer (some ⟨b_1, 0, none⟩)), (2, .int .i64 a2), (6, .nilIface), (7, .string t1)]) (fun _ => [(b_0, .cells #[.string a0.s, .int .i64 a0.at_] 132 (0, 0)), (b_1, .cells #[.int .u64 a1.Dst, .int .u64 a1.Src, .bool a1.Tag.Has, .int .i64 a1.Tag.Pri, .bool a1.Tag.Dei, .int .i64 a1.Tag.Vid, .int .i64 a2, .string t1] 29 (0, 0))]) (fun _ => [b_1, b_1]) (fun _ => by kernel_rfl) (fun _ => ?_)
        refine WP.seq ?_
        refine WP.run [] [1, 2, 6, 7] (fun _ => [(1, .pointer (some ⟨b_1, 0, none⟩)), (2, .int .i64 a2), (6, .nilIface), (7, .string t1)]) (fun _ => [(b_0, .cells #[.string a0.s, .int .i64 a0.at_] 132 (0, 0)), (b_1, .cells #[.int .u64 a1.Dst, .int .u64 a1.Src, .bool a1.Tag.Has, .int .i64 a1.Tag.Pri, .bool a1.Tag.Dei, .int .i64 a1.Tag.Vid, .int .i64 a2, .string t1] 29 (0, 0))]) (fun _ => []) (fun _ => by kernel_rfl) (fun _ => ?_)
        obtain rfl := Option.some.inj hM
        exact WP.ret [] [] (.nilIface) (by kernel_rfl) (fun w' hw => ⟨(), rfl, hw.pick [0, 1] (by kernel_rfl)⟩)
      · replace hM := cond_f hM c6
        refine WP.skip ?_
        refine WP.leave ?_
        refine WP.seq ?_
        refine WP.seq ?_
        refine WP.run [] [1, 2, 6, 7, 45] (fun _ => [(1, .pointer (some ⟨b_1, 0, none⟩)), (2, .int .i64 a2), (6, .nilIface), (7, .string t1), (45, .bool (decide (a2 > (t1.size : Int))))]) (fun _ => [(b_0, .cells #[.string a0.s, .int .i64 a0.at_] 132 (0, 0)), (b_1, .cells #[.int .u64 a1.Dst, .int .u64 a1.Src, .bool a1.Tag.Has, .int .i64 a1.Tag.Pri, .bool a1.Tag.Dei, .int .i64 a1.Tag.Vid, .int .i64 a1.Type_, .string a1.Body] 29 (0, 0))]) (fun _ => []) (fun _ => by kernel_rfl) (fun _ => ?_)
        refine WP.cond (decide (a2 > (t1.size : Int))) rfl rfl (fun c7 => ?_) (fun c7 => ?_)
        · replace hM := cond_t hM c7
          refine WP.seq ?_
          refine WP.run [] [1, 2, 6, 7] (fun _ => [(1, .pointer (some ⟨b_1, 0, none⟩)), (2, .int .i64 a2), (6, .iface 183 (.agg #[.string (⟨#[98, 111, 100, 121]⟩ : ByteArray), .iface 30 (.int .i64 40)])), (7, .string t1)]) (fun _ => [(b_0, .cells #[.string a0.s, .int .i64 a0.at_] 132 (0, 0)), (b_1, .cells #[.int .u64 a1.Dst, .int .u64 a1.Src, .bool a1.Tag.Has, .int .i64 a1.Tag.Pri, .bool a1.Tag.Dei, .int .i64 a1.Tag.Vid, .int .i64 a1.Type_, .string a1.Body] 29 (0, 0))]) (fun _ => []) (fun _ => by kernel_rfl) (fun _ => ?_)
          obtain rfl := Option.some.inj hM
          exact WP.ret [] [] (.iface 183 (.agg #[.string (⟨#[98, 111, 100, 121]⟩ : ByteArray), .iface 30 (.int .i64 40)])) (by kernel_rfl) (fun w' hw => ⟨(), rfl, hw.pick [0, 1] (by kernel_rfl)⟩)
        · replace hM := cond_f hM c7
          refine WP.skip ?_
          refine WP.seq ?_
          refine WP.region ?_
          refine WL.run 3 [] [6, 49, 50, 51] (fun _ => [(6, .nilIface), (49, .pointer (some ⟨b_1, 0, none⟩)), (50, .string t1), (51, .int .i64 a2)]) (fun _ => [(b_0, .cells #[.string a0.s, .int .i64 a0.at_] 132 (0, 0)), (b_1, .cells #[.int .u64 a1.Dst, .int .u64 a1.Src, .bool a1.Tag.Has, .int .i64 a1.Tag.Pri, .bool a1.Tag.Dei, .int .i64 a1.Tag.Vid, .int .i64 a1.Type_, .string a1.Body] 29 (0, 0))]) (fun _ => []) (fun _ => by kernel_rfl) (fun _ => ?_)
          obtain ⟨t8, h9, hM⟩ := bind_some hM
          refine WL.val (fun _ => run_sliceS_hi (s := t1) (kh := .i64) (h := a2) (by kernel_rfl) (by kernel_rfl) (by kernel_rfl) h9) (by kernel_rfl) (by kernel_rfl) rfl ?_
          refine WL.run 3 [1] [6] (fun _ => [(6, .nilIface)]) (fun _ => [(b_0, .cells #[.string a0.s, .int .i64 a0.at_] 132 (0, 0)), (b_1, .cells #[.int .u64 a1.Dst, .int .u64 a1.Src, .bool a1.Tag.Has, .int .i64 a1.Tag.Pri, .bool a1.Tag.Dei, .int .i64 a1.Tag.Vid, .int .i64 a1.Type_, .string t8] 29 (0, 0))]) (fun _ => [b_1]) (fun _ => by kernel_rfl) (fun _ => ?_)
          refine WP.done ?_
          refine WP.seq ?_
          refine WP.run [] [6] (fun _ => [(6, .nilIface)]) (fun _ => [(b_0, .cells #[.string a0.s, .int .i64 a0.at_] 132 (0, 0)), (b_1, .cells #[.int .u64 a1.Dst, .int .u64 a1.Src, .bool a1.Tag.Has, .int .i64 a1.Tag.Pri, .bool a1.Tag.Dei, .int .i64 a1.Tag.Vid, .int .i64 a1.Type_, .string t8] 29 (0, 0))]) (fun _ => []) (fun _ => by kernel_rfl) (fun _ => ?_)
          obtain rfl := Option.some.inj hM
          exact WP.ret [] [] (.nilIface) (by kernel_rfl) (fun w' hw => ⟨(), rfl, hw.pick [0, 1] (by kernel_rfl)⟩)
  ·
    refine WL.split (fun b' => [(1, .pointer (some ⟨b_1, 0, none⟩)), (2, .int .i64 a2), (6, .nilIface), (7, .string t1), (20, .bool b')]) (a2 == 33024) (fun c3 => ?_) (fun c3 => ?_)
    · replace hM := cond_t hM c3
      refine WL.run 7 [] [1, 2, 6, 7, 27] (fun _ => [(1, .pointer (some ⟨b_1, 0, none⟩)), (2, .int .i64 a2), (6, .nilIface), (7, .string t1), (27, .bool true)]) (fun _ => [(b_0, .cells #[.string a0.s, .int .i64 a0.at_] 132 (0, 0)), (b_1, .cells #[.int .u64 a1.Dst, .int .u64 a1.Src, .bool a1.Tag.Has, .int .i64 a1.Tag.Pri, .bool a1.Tag.Dei, .int .i64 a1.Tag.Vid, .int .i64 a1.Type_, .string a1.Body] 29 (0, 0))]) (fun _ => []) (fun _ => by kernel_rfl) (fun _ => ?_)
      exact WL.sub [1, 2, 6, 7, 27] (by kernel_rfl) (WL.pick [0, 1] (by kernel_rfl) (by kernel_rfl) (K1 true hM))
    · replace hM := cond_f hM c3
      refine WL.run 3 [] [1, 2, 6, 7, 20, 23] (fun _ => [(1, .pointer (some ⟨b_1, 0, none⟩)), (2, .int .i64 a2), (6, .nilIface), (7, .string t1), (20, .bool false), (23, .bool (decide (a2 > 1500)))]) (fun _ => [(b_0, .cells #[.string a0.s, .int .i64 a0.at_] 132 (0, 0)), (b_1, .cells #[.int .u64 a1.Dst, .int .u64 a1.Src, .bool a1.Tag.Has, .int .i64 a1.Tag.Pri, .bool a1.Tag.Dei, .int .i64 a1.Tag.Vid, .int .i64 a1.Type_, .string a1.Body] 29 (0, 0))]) (fun _ => []) (fun _ => by kernel_rfl) (fun _ => ?_)
      refine WL.sub [1, 2, 6, 7, 20, 23] (L' := [(1, .pointer (some ⟨b_1, 0, none⟩)), (2, .int .i64 a2), (6, .nilIface), (7, .string t1), (20, .bool false), (23, .bool (decide (a2 > 1500)))]) (by kernel_rfl) ?_
      refine WL.both (fun b' => [(1, .pointer (some ⟨b_1, 0, none⟩)), (2, .int .i64 a2), (6, .nilIface), (7, .string t1), (20, .bool false), (23, .bool b')]) (decide (a2 > 1500)) 3 [] [] [1, 2, 6, 7, 20, 26] (fun b' => [(1, .pointer (some ⟨b_1, 0, none⟩)), (2, .int .i64 a2), (6, .nilIface), (7, .string t1), (20, .bool false), (26, .bool (b' && (decide (a2 < 1536))))]) [] [] (fun _ => by kernel_rfl) (fun _ => by kernel_rfl) ?_
      refine WL.run 1 [] [1, 2, 6, 7, 27] (fun _ => [(1, .pointer (some ⟨b_1, 0, none⟩)), (2, .int .i64 a2), (6, .nilIface), (7, .string t1), (27, .bool ((decide (a2 > 1500)) && (decide (a2 < 1536))))]) (fun _ => [(b_0, .cells #[.string a0.s, .int .i64 a0.at_] 132 (0, 0)), (b_1, .cells #[.int .u64 a1.Dst, .int .u64 a1.Src, .bool a1.Tag.Has, .int .i64 a1.Tag.Pri, .bool a1.Tag.Dei, .int .i64 a1.Tag.Vid, .int .i64 a1.Type_, .string a1.Body] 29 (0, 0))]) (fun _ => []) (fun _ => by kernel_rfl) (fun _ => ?_)
      exact WL.sub [1, 2, 6, 7, 27] (by kernel_rfl) (WL.pick [0, 1] (by kernel_rfl) (by kernel_rfl) (K1 ((decide (a2 > 1500)) && (decide (a2 < 1536))) hM))

end Go.Proofs.YtbodofjnfmjbpaaGreatDoor

namespace Go.Proofs.YtbodofjnfmjbpaaGreatDoor
open Go Eng
set_option linter.unusedVariables false
set_option linter.unusedSimpArgs false

/-! ### (*gangway/ether.reader).frame: function 82 -/
def ether_reader_frame.k1 (x29 : Un1) (x30 : Int) (x31 : ByteArray) (x32 : Int) (x33 : Int) (x34 : Int) (x35 : Bool) (x36 : Int) (x37 : Bool) (x38 : Int) (x39 : Int) (x40 : ByteArray) : Option (api_Frame × Un1 × ether_reader) :=
  match x29 with
  | none =>
    (ether_reader_body.f (ether_reader.mk x31 x32) (api_Frame.mk x33 x34 (api_Tag.mk x35 x36 x37 x38) x39 x40) x30).bind fun (r43, r44) =>
    match r43 with
    | none =>
      some (r44, none, (ether_reader.mk x31 x32))
    | some (q46, q47) =>
      some (r44, some (q46, q47), (ether_reader.mk x31 x32))
  | some (q41, q42) =>
    some ((api_Frame.mk x33 x34 (api_Tag.mk x35 x36 x37 x38) x39 x40), some (q41, q42), (ether_reader.mk x31 x32))

def ether_reader_frame.f (k : Nat) (a0 : ether_reader) : Option (api_Frame × Un1 × ether_reader) :=
  (ether_reader_get.f k a0 6 (⟨#[116, 111]⟩ : ByteArray)).bind fun (r3, r4, r5) =>
  match r4 with
  | none =>
    (ether_reader_get.f k r5 6 (⟨#[102, 114, 111, 109]⟩ : ByteArray)).bind fun (r9, r10, r11) =>
    match r10 with
    | none =>
      (ether_reader_get.f k r11 2 (⟨#[116, 121, 112, 101]⟩ : ByteArray)).bind fun (r15, r16, r17) =>
      match r16 with
      | none =>
        bif ((i64 r15) == 33024) then
          (ether_reader_tagged.f k r17 (api_Frame.mk r3 r9 (api_Tag.mk false 0 false 0) 0 (⟨#[]⟩ : ByteArray))).bind fun (r20, r21, r22, r23) =>
          match r21 with
          | none =>
            ether_reader_frame.k1 none r20 r22.s r22.at_ r23.Dst r23.Src r23.Tag.Has r23.Tag.Pri r23.Tag.Dei r23.Tag.Vid r23.Type_ r23.Body
          | some (q27, q28) =>
            ether_reader_frame.k1 (some (q27, q28)) r20 r22.s r22.at_ r23.Dst r23.Src r23.Tag.Has r23.Tag.Pri r23.Tag.Dei r23.Tag.Vid r23.Type_ r23.Body
        else
          ether_reader_frame.k1 none (i64 r15) r17.s r17.at_ r3 r9 false 0 false 0 0 (⟨#[]⟩ : ByteArray)
      | some (q25, q26) =>
        ether_reader_frame.k1 (some (q25, q26)) (i64 r15) r17.s r17.at_ r3 r9 false 0 false 0 0 (⟨#[]⟩ : ByteArray)
    | some (q13, q14) =>
      some ((api_Frame.mk r3 r9 (api_Tag.mk false 0 false 0) 0 (⟨#[]⟩ : ByteArray)), some (q13, q14), r11)
  | some (q7, q8) =>
    some ((api_Frame.mk r3 0 (api_Tag.mk false 0 false 0) 0 (⟨#[]⟩ : ByteArray)), some (q7, q8), r5)

set_option maxRecDepth 100000 in
theorem ether_reader_frame_calls (k : Nat) (b_0 : Nat) (a0 : ether_reader) (r : api_Frame × Un1 × ether_reader) (h : ether_reader_frame.f k a0 = some r) : Does Tryz.prog 82 #[.pointer (some ⟨b_0, 0, none⟩)] [(b_0, .cells #[.string a0.s, .int .i64 a0.at_] 132 (0, 0))] Glob (fun _ : Unit => .tuple #[.agg #[.int .u64 r.1.Dst, .int .u64 r.1.Src, .bool r.1.Tag.Has, .int .i64 r.1.Tag.Pri, .bool r.1.Tag.Dei, .int .i64 r.1.Tag.Vid, .int .i64 r.1.Type_, .string r.1.Body], Un1.v r.2.1]) (fun _ => [(b_0, .cells #[.string r.2.2.s, .int .i64 r.2.2.at_] 132 (0, 0))]) (fun _ => []) (fun _ => Glob) := by
  intro w Z hS
  refine calls_of (args := [.pointer (some ⟨b_0, 0, none⟩)]) (L := [(0, .pointer (some ⟨b_0, 0, none⟩))]) (N := 56) (S := Sat w Z [(b_0, .cells #[.string a0.s, .int .i64 a0.at_] 132 (0, 0))] [] Glob) Tryz.func82 rfl rfl (Nat.le_of_ble_eq_true rfl) rfl hS ?_
  have hM := h
  clear h hS
  unfold ether_reader_frame.f at hM
  refine WP.seq ?_
  refine WP.run [] [0, 2, 3] (fun b1 => [(0, .pointer (some ⟨b_0, 0, none⟩)), (2, .pointer (some ⟨b1, 0, none⟩)), (3, .nilIface)]) (fun b1 => [(b_0, .cells #[.string a0.s, .int .i64 a0.at_] 132 (0, 0)), (b1, .cells #[.int .u64 0, .int .u64 0, .bool false, .int .i64 0, .bool false, .int .i64 0, .int .i64 0, .string (⟨#[]⟩ : ByteArray)] 29 (0, 0))]) (fun b1 => []) (fun b1 => by kernel_rfl) (fun b1 => ?_)
  refine WP.seq ?_
  refine WP.run [] [0, 2, 3, 4] (fun b2 => [(0, .pointer (some ⟨b_0, 0, none⟩)), (2, .pointer (some ⟨b1, 0, none⟩)), (3, .nilIface), (4, .pointer (some ⟨b2, 0, none⟩))]) (fun b2 => [(b_0, .cells #[.string a0.s, .int .i64 a0.at_] 132 (0, 0)), (b1, .cells #[.int .u64 0, .int .u64 0, .bool false, .int .i64 0, .bool false, .int .i64 0, .int .i64 0, .string (⟨#[]⟩ : ByteArray)] 29 (0, 0)), (b2, .cells #[.int .u64 0, .int .u64 0, .bool false, .int .i64 0, .bool false, .int .i64 0, .int .i64 0, .string (⟨#[]⟩ : ByteArray)] 29 (0, 0))]) (fun b2 => []) (fun b2 => by kernel_rfl) (fun b2 => ?_)
  refine WP.seq ?_
  refine WP.run [] [0, 2, 3, 4, 5] (fun _ => [(0, .pointer (some ⟨b_0, 0, none⟩)), (2, .pointer (some ⟨b1, 0, none⟩)), (3, .nilIface), (4, .pointer (some ⟨b2, 0, none⟩)), (5, .nilIface)]) (fun _ => [(b_0, .cells #[.string a0.s, .int .i64 a0.at_] 132 (0, 0)), (b1, .cells #[.int .u64 0, .int .u64 0, .bool false, .int .i64 0, .bool false, .int .i64 0, .int .i64 0, .string (⟨#[]⟩ : ByteArray)] 29 (0, 0)), (b2, .cells #[.int .u64 0, .int .u64 0, .bool false, .int .i64 0, .bool false, .int .i64 0, .int .i64 0, .string (⟨#[]⟩ : ByteArray)] 29 (0, 0))]) (fun _ => []) (fun _ => by kernel_rfl) (fun _ => ?_)
  refine WP.seq ?_
  refine WP.seq ?_
  refine WP.region ?_
  refine WL.run 1 [] [0, 2, 3, 4, 5, 10] (fun _ => [(0, .pointer (some ⟨b_0, 0, none⟩)), (2, .pointer (some ⟨b1, 0, none⟩)), (3, .nilIface), (4, .pointer (some ⟨b2, 0, none⟩)), (5, .nilIface), (10, .pointer (some ⟨b_0, 0, none⟩))]) (fun _ => [(b_0, .cells #[.string a0.s, .int .i64 a0.at_] 132 (0, 0)), (b1, .cells #[.int .u64 0, .int .u64 0, .bool false, .int .i64 0, .bool false, .int .i64 0, .int .i64 0, .string (⟨#[]⟩ : ByteArray)] 29 (0, 0)), (b2, .cells #[.int .u64 0, .int .u64 0, .bool false, .int .i64 0, .bool false, .int .i64 0, .int .i64 0, .string (⟨#[]⟩ : ByteArray)] 29 (0, 0))]) (fun _ => []) (fun _ => by kernel_rfl) (fun _ => ?_)
  obtain ⟨⟨r3, r4, r5⟩, h6, hM⟩ := bind_some hM
  dsimp only at hM
  refine WL.callE (X := Unit) [] [] [true, false, false] (fun _ => _) (ether_reader_get_calls k b_0 a0 6 (⟨#[116, 111]⟩ : ByteArray) _ h6) rfl rfl (fun _ h => h) (by kernel_rfl) (by kernel_rfl) (fun _ => rfl) (fun _ => ?_)
  refine WL.run 6 [2] [0, 2, 3, 4, 5] (fun _ => [(0, .pointer (some ⟨b_0, 0, none⟩)), (2, .pointer (some ⟨b1, 0, none⟩)), (3, .nilIface), (4, .pointer (some ⟨b2, 0, none⟩)), (5, Un1.v r4)]) (fun _ => [(b_0, .cells #[.string r5.s, .int .i64 r5.at_] 132 (0, 0)), (b1, .cells #[.int .u64 0, .int .u64 0, .bool false, .int .i64 0, .bool false, .int .i64 0, .int .i64 0, .string (⟨#[]⟩ : ByteArray)] 29 (0, 0)), (b2, .cells #[.int .u64 r3, .int .u64 0, .bool false, .int .i64 0, .bool false, .int .i64 0, .int .i64 0, .string (⟨#[]⟩ : ByteArray)] 29 (0, 0))]) (fun _ => [b2]) (fun _ => by kernel_rfl) (fun _ => ?_)
  refine WP.done ?_
  refine WP.seq ?_
  refine WP.region ?_
  refine WL.run 1 [] [0, 2, 3, 4, 5, 15] (fun _ => [(0, .pointer (some ⟨b_0, 0, none⟩)), (2, .pointer (some ⟨b1, 0, none⟩)), (3, .nilIface), (4, .pointer (some ⟨b2, 0, none⟩)), (5, Un1.v r4), (15, Un1.v r4)]) (fun _ => [(b_0, .cells #[.string r5.s, .int .i64 r5.at_] 132 (0, 0)), (b1, .cells #[.int .u64 0, .int .u64 0, .bool false, .int .i64 0, .bool false, .int .i64 0, .int .i64 0, .string (⟨#[]⟩ : ByteArray)] 29 (0, 0)), (b2, .cells #[.int .u64 r3, .int .u64 0, .bool false, .int .i64 0, .bool false, .int .i64 0, .int .i64 0, .string (⟨#[]⟩ : ByteArray)] 29 (0, 0))]) (fun _ => []) (fun _ => by kernel_rfl) (fun _ => ?_)
  rcases r4 with _ | ⟨q7, q8⟩
  · dsimp only at hM
    refine WL.run 1 [] [0, 2, 3, 4, 5, 16] (fun _ => [(0, .pointer (some ⟨b_0, 0, none⟩)), (2, .pointer (some ⟨b1, 0, none⟩)), (3, .nilIface), (4, .pointer (some ⟨b2, 0, none⟩)), (5, .nilIface), (16, .bool false)]) (fun _ => [(b_0, .cells #[.string r5.s, .int .i64 r5.at_] 132 (0, 0)), (b1, .cells #[.int .u64 0, .int .u64 0, .bool false, .int .i64 0, .bool false, .int .i64 0, .int .i64 0, .string (⟨#[]⟩ : ByteArray)] 29 (0, 0)), (b2, .cells #[.int .u64 r3, .int .u64 0, .bool false, .int .i64 0, .bool false, .int .i64 0, .int .i64 0, .string (⟨#[]⟩ : ByteArray)] 29 (0, 0))]) (fun _ => []) (fun _ => by kernel_rfl) (fun _ => ?_)
    refine WP.done ?_
    refine WP.no rfl rfl ?_
    refine WP.skip ?_
    refine WP.seq ?_
    refine WP.seq ?_
    refine WP.region ?_
    refine WL.run 1 [] [0, 2, 3, 4, 5, 20] (fun _ => [(0, .pointer (some ⟨b_0, 0, none⟩)), (2, .pointer (some ⟨b1, 0, none⟩)), (3, .nilIface), (4, .pointer (some ⟨b2, 0, none⟩)), (5, .nilIface), (20, .pointer (some ⟨b_0, 0, none⟩))]) (fun _ => [(b_0, .cells #[.string r5.s, .int .i64 r5.at_] 132 (0, 0)), (b1, .cells #[.int .u64 0, .int .u64 0, .bool false, .int .i64 0, .bool false, .int .i64 0, .int .i64 0, .string (⟨#[]⟩ : ByteArray)] 29 (0, 0)), (b2, .cells #[.int .u64 r3, .int .u64 0, .bool false, .int .i64 0, .bool false, .int .i64 0, .int .i64 0, .string (⟨#[]⟩ : ByteArray)] 29 (0, 0))]) (fun _ => []) (fun _ => by kernel_rfl) (fun _ => ?_)
    obtain ⟨⟨r9, r10, r11⟩, h12, hM⟩ := bind_some hM
    dsimp only at hM
    refine WL.callE (X := Unit) [] [] [true, false, false] (fun _ => _) (ether_reader_get_calls k b_0 r5 6 (⟨#[102, 114, 111, 109]⟩ : ByteArray) _ h12) rfl rfl (fun _ h => h) (by kernel_rfl) (by kernel_rfl) (fun _ => rfl) (fun _ => ?_)
    refine WL.run 6 [2] [0, 2, 3, 4, 5] (fun _ => [(0, .pointer (some ⟨b_0, 0, none⟩)), (2, .pointer (some ⟨b1, 0, none⟩)), (3, .nilIface), (4, .pointer (some ⟨b2, 0, none⟩)), (5, Un1.v r10)]) (fun _ => [(b_0, .cells #[.string r11.s, .int .i64 r11.at_] 132 (0, 0)), (b1, .cells #[.int .u64 0, .int .u64 0, .bool false, .int .i64 0, .bool false, .int .i64 0, .int .i64 0, .string (⟨#[]⟩ : ByteArray)] 29 (0, 0)), (b2, .cells #[.int .u64 r3, .int .u64 r9, .bool false, .int .i64 0, .bool false, .int .i64 0, .int .i64 0, .string (⟨#[]⟩ : ByteArray)] 29 (0, 0))]) (fun _ => [b2]) (fun _ => by kernel_rfl) (fun _ => ?_)
    refine WP.done ?_
    refine WP.seq ?_
    refine WP.region ?_
    refine WL.run 1 [] [0, 2, 3, 4, 5, 25] (fun _ => [(0, .pointer (some ⟨b_0, 0, none⟩)), (2, .pointer (some ⟨b1, 0, none⟩)), (3, .nilIface), (4, .pointer (some ⟨b2, 0, none⟩)), (5, Un1.v r10), (25, Un1.v r10)]) (fun _ => [(b_0, .cells #[.string r11.s, .int .i64 r11.at_] 132 (0, 0)), (b1, .cells #[.int .u64 0, .int .u64 0, .bool false, .int .i64 0, .bool false, .int .i64 0, .int .i64 0, .string (⟨#[]⟩ : ByteArray)] 29 (0, 0)), (b2, .cells #[.int .u64 r3, .int .u64 r9, .bool false, .int .i64 0, .bool false, .int .i64 0, .int .i64 0, .string (⟨#[]⟩ : ByteArray)] 29 (0, 0))]) (fun _ => []) (fun _ => by kernel_rfl) (fun _ => ?_)
    rcases r10 with _ | ⟨q13, q14⟩
    · dsimp only at hM
      refine WL.run 1 [] [0, 2, 3, 4, 5, 26] (fun _ => [(0, .pointer (some ⟨b_0, 0, none⟩)), (2, .pointer (some ⟨b1, 0, none⟩)), (3, .nilIface), (4, .pointer (some ⟨b2, 0, none⟩)), (5, .nilIface), (26, .bool false)]) (fun _ => [(b_0, .cells #[.string r11.s, .int .i64 r11.at_] 132 (0, 0)), (b1, .cells #[.int .u64 0, .int .u64 0, .bool false, .int .i64 0, .bool false, .int .i64 0, .int .i64 0, .string (⟨#[]⟩ : ByteArray)] 29 (0, 0)), (b2, .cells #[.int .u64 r3, .int .u64 r9, .bool false, .int .i64 0, .bool false, .int .i64 0, .int .i64 0, .string (⟨#[]⟩ : ByteArray)] 29 (0, 0))]) (fun _ => []) (fun _ => by kernel_rfl) (fun _ => ?_)
      refine WP.done ?_
      refine WP.no rfl rfl ?_
      refine WP.skip ?_
      refine WP.seq ?_
      refine WP.region ?_
      refine WL.run 1 [] [0, 2, 3, 4, 5, 30] (fun _ => [(0, .pointer (some ⟨b_0, 0, none⟩)), (2, .pointer (some ⟨b1, 0, none⟩)), (3, .nilIface), (4, .pointer (some ⟨b2, 0, none⟩)), (5, .nilIface), (30, .pointer (some ⟨b_0, 0, none⟩))]) (fun _ => [(b_0, .cells #[.string r11.s, .int .i64 r11.at_] 132 (0, 0)), (b1, .cells #[.int .u64 0, .int .u64 0, .bool false, .int .i64 0, .bool false, .int .i64 0, .int .i64 0, .string (⟨#[]⟩ : ByteArray)] 29 (0, 0)), (b2, .cells #[.int .u64 r3, .int .u64 r9, .bool false, .int .i64 0, .bool false, .int .i64 0, .int .i64 0, .string (⟨#[]⟩ : ByteArray)] 29 (0, 0))]) (fun _ => []) (fun _ => by kernel_rfl) (fun _ => ?_)
      obtain ⟨⟨r15, r16, r17⟩, h18, hM⟩ := bind_some hM
      dsimp only at hM
      refine WL.callE (X := Unit) [] [] [true, false, false] (fun _ => _) (ether_reader_get_calls k b_0 r11 2 (⟨#[116, 121, 112, 101]⟩ : ByteArray) _ h18) rfl rfl (fun _ h => h) (by kernel_rfl) (by kernel_rfl) (fun _ => rfl) (fun _ => ?_)
      refine WL.run 5 [] [0, 2, 3, 4, 5, 6] (fun _ => [(0, .pointer (some ⟨b_0, 0, none⟩)), (2, .pointer (some ⟨b1, 0, none⟩)), (3, .nilIface), (4, .pointer (some ⟨b2, 0, none⟩)), (5, Un1.v r16), (6, .int .u64 r15)]) (fun _ => [(b_0, .cells #[.string r17.s, .int .i64 r17.at_] 132 (0, 0)), (b1, .cells #[.int .u64 0, .int .u64 0, .bool false, .int .i64 0, .bool false, .int .i64 0, .int .i64 0, .string (⟨#[]⟩ : ByteArray)] 29 (0, 0)), (b2, .cells #[.int .u64 r3, .int .u64 r9, .bool false, .int .i64 0, .bool false, .int .i64 0, .int .i64 0, .string (⟨#[]⟩ : ByteArray)] 29 (0, 0))]) (fun _ => []) (fun _ => by kernel_rfl) (fun _ => ?_)
      refine WP.done ?_
      refine WP.seq ?_
      refine WP.run [] [0, 2, 3, 4, 5, 7] (fun _ => [(0, .pointer (some ⟨b_0, 0, none⟩)), (2, .pointer (some ⟨b1, 0, none⟩)), (3, .nilIface), (4, .pointer (some ⟨b2, 0, none⟩)), (5, Un1.v r16), (7, .int .i64 (i64 r15))]) (fun _ => [(b_0, .cells #[.string r17.s, .int .i64 r17.at_] 132 (0, 0)), (b1, .cells #[.int .u64 0, .int .u64 0, .bool false, .int .i64 0, .bool false, .int .i64 0, .int .i64 0, .string (⟨#[]⟩ : ByteArray)] 29 (0, 0)), (b2, .cells #[.int .u64 r3, .int .u64 r9, .bool false, .int .i64 0, .bool false, .int .i64 0, .int .i64 0, .string (⟨#[]⟩ : ByteArray)] 29 (0, 0))]) (fun _ => []) (fun _ => by kernel_rfl) (fun _ => ?_)
      refine WP.seqJoin (σ := Un1 × Int × ByteArray × Int × Int × Int × Bool × Int × Bool × Int × Int × ByteArray) (fun st => ether_reader_frame.k1 st.1 st.2.1 st.2.2.1 st.2.2.2.1 st.2.2.2.2.1 st.2.2.2.2.2.1 st.2.2.2.2.2.2.1 st.2.2.2.2.2.2.2.1 st.2.2.2.2.2.2.2.2.1 st.2.2.2.2.2.2.2.2.2.1 st.2.2.2.2.2.2.2.2.2.2.1 st.2.2.2.2.2.2.2.2.2.2.2 = some r) (fun st => [(0, .pointer (some ⟨b_0, 0, none⟩)), (2, .pointer (some ⟨b1, 0, none⟩)), (3, .nilIface), (4, .pointer (some ⟨b2, 0, none⟩)), (5, Un1.v st.1), (7, .int .i64 st.2.1)]) (fun st => Sat w Z [(b_0, .cells #[.string st.2.2.1, .int .i64 st.2.2.2.1] 132 (0, 0)), (b2, .cells #[.int .u64 st.2.2.2.2.1, .int .u64 st.2.2.2.2.2.1, .bool st.2.2.2.2.2.2.1, .int .i64 st.2.2.2.2.2.2.2.1, .bool st.2.2.2.2.2.2.2.2.1, .int .i64 st.2.2.2.2.2.2.2.2.2.1, .int .i64 st.2.2.2.2.2.2.2.2.2.2.1, .string st.2.2.2.2.2.2.2.2.2.2.2] 29 (0, 0)), (b1, .cells #[.int .u64 0, .int .u64 0, .bool false, .int .i64 0, .bool false, .int .i64 0, .int .i64 0, .string (⟨#[]⟩ : ByteArray)] 29 (0, 0))] [] Glob) (fun st hM => ?_) (fun K1 => ?_)
      ·
        obtain ⟨x29, x30, x31, x32, x33, x34, x35, x36, x37, x38, x39, x40⟩ := st
        replace hM : ether_reader_frame.k1 x29 x30 x31 x32 x33 x34 x35 x36 x37 x38 x39 x40 = some r := hM
        unfold ether_reader_frame.k1 at hM
        show WP _ _ _ _ _ [(0, .pointer (some ⟨b_0, 0, none⟩)), (2, .pointer (some ⟨b1, 0, none⟩)), (3, .nilIface), (4, .pointer (some ⟨b2, 0, none⟩)), (5, Un1.v x29), (7, .int .i64 x30)] (Sat w Z [(b_0, .cells #[.string x31, .int .i64 x32] 132 (0, 0)), (b2, .cells #[.int .u64 x33, .int .u64 x34, .bool x35, .int .i64 x36, .bool x37, .int .i64 x38, .int .i64 x39, .string x40] 29 (0, 0)), (b1, .cells #[.int .u64 0, .int .u64 0, .bool false, .int .i64 0, .bool false, .int .i64 0, .int .i64 0, .string (⟨#[]⟩ : ByteArray)] 29 (0, 0))] [] Glob)
        refine WP.seq ?_
        refine WP.seq ?_
        refine WP.region ?_
        refine WL.run 1 [] [0, 2, 3, 4, 5, 7, 47] (fun _ => [(0, .pointer (some ⟨b_0, 0, none⟩)), (2, .pointer (some ⟨b1, 0, none⟩)), (3, .nilIface), (4, .pointer (some ⟨b2, 0, none⟩)), (5, Un1.v x29), (7, .int .i64 x30), (47, Un1.v x29)]) (fun _ => [(b_0, .cells #[.string x31, .int .i64 x32] 132 (0, 0)), (b2, .cells #[.int .u64 x33, .int .u64 x34, .bool x35, .int .i64 x36, .bool x37, .int .i64 x38, .int .i64 x39, .string x40] 29 (0, 0)), (b1, .cells #[.int .u64 0, .int .u64 0, .bool false, .int .i64 0, .bool false, .int .i64 0, .int .i64 0, .string (⟨#[]⟩ : ByteArray)] 29 (0, 0))]) (fun _ => []) (fun _ => by kernel_rfl) (fun _ => ?_)
        rcases x29 with _ | ⟨q41, q42⟩
        · dsimp only at hM
          refine WL.run 1 [] [0, 2, 3, 4, 5, 7, 48] (fun _ => [(0, .pointer (some ⟨b_0, 0, none⟩)), (2, .pointer (some ⟨b1, 0, none⟩)), (3, .nilIface), (4, .pointer (some ⟨b2, 0, none⟩)), (5, .nilIface), (7, .int .i64 x30), (48, .bool false)]) (fun _ => [(b_0, .cells #[.string x31, .int .i64 x32] 132 (0, 0)), (b2, .cells #[.int .u64 x33, .int .u64 x34, .bool x35, .int .i64 x36, .bool x37, .int .i64 x38, .int .i64 x39, .string x40] 29 (0, 0)), (b1, .cells #[.int .u64 0, .int .u64 0, .bool false, .int .i64 0, .bool false, .int .i64 0, .int .i64 0, .string (⟨#[]⟩ : ByteArray)] 29 (0, 0))]) (fun _ => []) (fun _ => by kernel_rfl) (fun _ => ?_)
          refine WP.done ?_
          refine WP.no rfl rfl ?_
          refine WP.skip ?_
          refine WP.seq ?_
          refine WP.region ?_
          refine WL.run 2 [] [2, 3, 4, 51, 52] (fun _ => [(2, .pointer (some ⟨b1, 0, none⟩)), (3, .nilIface), (4, .pointer (some ⟨b2, 0, none⟩)), (51, .pointer (some ⟨b_0, 0, none⟩)), (52, .int .i64 x30)]) (fun _ => [(b_0, .cells #[.string x31, .int .i64 x32] 132 (0, 0)), (b2, .cells #[.int .u64 x33, .int .u64 x34, .bool x35, .int .i64 x36, .bool x37, .int .i64 x38, .int .i64 x39, .string x40] 29 (0, 0)), (b1, .cells #[.int .u64 0, .int .u64 0, .bool false, .int .i64 0, .bool false, .int .i64 0, .int .i64 0, .string (⟨#[]⟩ : ByteArray)] 29 (0, 0))]) (fun _ => []) (fun _ => by kernel_rfl) (fun _ => ?_)
          obtain ⟨⟨r43, r44⟩, h45, hM⟩ := bind_some hM
          dsimp only at hM
          refine WL.callE (X := Unit) [] [] [true, true, false] (fun _ => _) (ether_reader_body_calls b_0 b2 (ether_reader.mk x31 x32) (api_Frame.mk x33 x34 (api_Tag.mk x35 x36 x37 x38) x39 x40) x30 _ h45) rfl rfl (fun _ h => h) (by kernel_rfl) (by kernel_rfl) (fun _ => rfl) (fun _ => ?_)
          refine WL.run 1 [] [2, 3, 4, 8] (fun _ => [(2, .pointer (some ⟨b1, 0, none⟩)), (3, .nilIface), (4, .pointer (some ⟨b2, 0, none⟩)), (8, Un1.v r43)]) (fun _ => [(b_0, .cells #[.string x31, .int .i64 x32] 132 (0, 0)), (b2, .cells #[.int .u64 r44.Dst, .int .u64 r44.Src, .bool r44.Tag.Has, .int .i64 r44.Tag.Pri, .bool r44.Tag.Dei, .int .i64 r44.Tag.Vid, .int .i64 r44.Type_, .string r44.Body] 29 (0, 0)), (b1, .cells #[.int .u64 0, .int .u64 0, .bool false, .int .i64 0, .bool false, .int .i64 0, .int .i64 0, .string (⟨#[]⟩ : ByteArray)] 29 (0, 0))]) (fun _ => []) (fun _ => by kernel_rfl) (fun _ => ?_)
          refine WP.done ?_
          refine WP.seq ?_
          refine WP.run [1, 1, 1, 1, 1, 1, 1, 1, 2, 2, 2, 2, 2, 2, 2, 2] [2, 3] (fun _ => [(2, .pointer (some ⟨b1, 0, none⟩)), (3, Un1.v r43)]) (fun _ => [(b_0, .cells #[.string x31, .int .i64 x32] 132 (0, 0)), (b2, .cells #[.int .u64 r44.Dst, .int .u64 r44.Src, .bool r44.Tag.Has, .int .i64 r44.Tag.Pri, .bool r44.Tag.Dei, .int .i64 r44.Tag.Vid, .int .i64 r44.Type_, .string r44.Body] 29 (0, 0)), (b1, .cells #[.int .u64 r44.Dst, .int .u64 r44.Src, .bool r44.Tag.Has, .int .i64 r44.Tag.Pri, .bool r44.Tag.Dei, .int .i64 r44.Tag.Vid, .int .i64 r44.Type_, .string r44.Body] 29 (0, 0))]) (fun _ => [b1, b1, b1, b1, b1, b1, b1, b1, b2, b2, b2, b2, b2, b2, b2, b2]) (fun _ => by kernel_rfl) (fun _ => ?_)
          refine WP.keep [true, false, true] (by kernel_rfl : _ = [(b_0, .cells #[.string x31, .int .i64 x32] 132 (0, 0)), (b1, .cells #[.int .u64 r44.Dst, .int .u64 r44.Src, .bool r44.Tag.Has, .int .i64 r44.Tag.Pri, .bool r44.Tag.Dei, .int .i64 r44.Tag.Vid, .int .i64 r44.Type_, .string r44.Body] 29 (0, 0))]) ?_
          rcases r43 with _ | ⟨q46, q47⟩
          · dsimp only at hM
            obtain rfl := Option.some.inj hM
            exact WP.ret [1, 1, 1, 1, 1, 1, 1, 1] [b1, b1, b1, b1, b1, b1, b1, b1] (.tuple #[.agg #[.int .u64 r44.Dst, .int .u64 r44.Src, .bool r44.Tag.Has, .int .i64 r44.Tag.Pri, .bool r44.Tag.Dei, .int .i64 r44.Tag.Vid, .int .i64 r44.Type_, .string r44.Body], .nilIface]) (by kernel_rfl) (fun w' hw => ⟨(), rfl, hw.pick [0] (by kernel_rfl)⟩)
          · dsimp only at hM
            obtain rfl := Option.some.inj hM
            exact WP.ret [1, 1, 1, 1, 1, 1, 1, 1] [b1, b1, b1, b1, b1, b1, b1, b1] (.tuple #[.agg #[.int .u64 r44.Dst, .int .u64 r44.Src, .bool r44.Tag.Has, .int .i64 r44.Tag.Pri, .bool r44.Tag.Dei, .int .i64 r44.Tag.Vid, .int .i64 r44.Type_, .string r44.Body], .iface 183 (.agg #[.string q46, .iface 30 (.int .i64 q47)])]) (by kernel_rfl) (fun w' hw => ⟨(), rfl, hw.pick [0] (by kernel_rfl)⟩)
        · dsimp only at hM
          refine WL.run 1 [] [0, 2, 3, 4, 5, 7, 48] (fun _ => [(0, .pointer (some ⟨b_0, 0, none⟩)), (2, .pointer (some ⟨b1, 0, none⟩)), (3, .nilIface), (4, .pointer (some ⟨b2, 0, none⟩)), (5, .iface 183 (.agg #[.string q41, .iface 30 (.int .i64 q42)])), (7, .int .i64 x30), (48, .bool true)]) (fun _ => [(b_0, .cells #[.string x31, .int .i64 x32] 132 (0, 0)), (b2, .cells #[.int .u64 x33, .int .u64 x34, .bool x35, .int .i64 x36, .bool x37, .int .i64 x38, .int .i64 x39, .string x40] 29 (0, 0)), (b1, .cells #[.int .u64 0, .int .u64 0, .bool false, .int .i64 0, .bool false, .int .i64 0, .int .i64 0, .string (⟨#[]⟩ : ByteArray)] 29 (0, 0))]) (fun _ => []) (fun _ => by kernel_rfl) (fun _ => ?_)
          refine WP.done ?_
          refine WP.yes rfl rfl ?_
          refine WP.seq ?_
          refine WP.run [1, 1, 1, 1, 1, 1, 1, 1, 2, 2, 2, 2, 2, 2, 2, 2] [0, 2, 3, 4, 7] (fun _ => [(0, .pointer (some ⟨b_0, 0, none⟩)), (2, .pointer (some ⟨b1, 0, none⟩)), (3, .iface 183 (.agg #[.string q41, .iface 30 (.int .i64 q42)])), (4, .pointer (some ⟨b2, 0, none⟩)), (7, .int .i64 x30)]) (fun _ => [(b_0, .cells #[.string x31, .int .i64 x32] 132 (0, 0)), (b2, .cells #[.int .u64 x33, .int .u64 x34, .bool x35, .int .i64 x36, .bool x37, .int .i64 x38, .int .i64 x39, .string x40] 29 (0, 0)), (b1, .cells #[.int .u64 x33, .int .u64 x34, .bool x35, .int .i64 x36, .bool x37, .int .i64 x38, .int .i64 x39, .string x40] 29 (0, 0))]) (fun _ => [b1, b1, b1, b1, b1, b1, b1, b1, b2, b2, b2, b2, b2, b2, b2, b2]) (fun _ => by kernel_rfl) (fun _ => ?_)
          obtain rfl := Option.some.inj hM
          exact WP.ret [2, 2, 2, 2, 2, 2, 2, 2] [b1, b1, b1, b1, b1, b1, b1, b1] (.tuple #[.agg #[.int .u64 x33, .int .u64 x34, .bool x35, .int .i64 x36, .bool x37, .int .i64 x38, .int .i64 x39, .string x40], .iface 183 (.agg #[.string q41, .iface 30 (.int .i64 q42)])]) (by kernel_rfl) (fun w' hw => ⟨(), rfl, hw.pick [0] (by kernel_rfl)⟩)
      ·
        refine WP.seq ?_
        refine WP.region ?_
        refine WL.run 1 [] [0, 2, 3, 4, 5, 7, 36] (fun _ => [(0, .pointer (some ⟨b_0, 0, none⟩)), (2, .pointer (some ⟨b1, 0, none⟩)), (3, .nilIface), (4, .pointer (some ⟨b2, 0, none⟩)), (5, Un1.v r16), (7, .int .i64 (i64 r15)), (36, Un1.v r16)]) (fun _ => [(b_0, .cells #[.string r17.s, .int .i64 r17.at_] 132 (0, 0)), (b1, .cells #[.int .u64 0, .int .u64 0, .bool false, .int .i64 0, .bool false, .int .i64 0, .int .i64 0, .string (⟨#[]⟩ : ByteArray)] 29 (0, 0)), (b2, .cells #[.int .u64 r3, .int .u64 r9, .bool false, .int .i64 0, .bool false, .int .i64 0, .int .i64 0, .string (⟨#[]⟩ : ByteArray)] 29 (0, 0))]) (fun _ => []) (fun _ => by kernel_rfl) (fun _ => ?_)
        rcases r16 with _ | ⟨q25, q26⟩
        · dsimp only at hM
          refine WL.run 5 [] [0, 2, 3, 4, 5, 7, 41] (fun _ => [(0, .pointer (some ⟨b_0, 0, none⟩)), (2, .pointer (some ⟨b1, 0, none⟩)), (3, .nilIface), (4, .pointer (some ⟨b2, 0, none⟩)), (5, .nilIface), (7, .int .i64 (i64 r15)), (41, .bool ((i64 r15) == 33024))]) (fun _ => [(b_0, .cells #[.string r17.s, .int .i64 r17.at_] 132 (0, 0)), (b1, .cells #[.int .u64 0, .int .u64 0, .bool false, .int .i64 0, .bool false, .int .i64 0, .int .i64 0, .string (⟨#[]⟩ : ByteArray)] 29 (0, 0)), (b2, .cells #[.int .u64 r3, .int .u64 r9, .bool false, .int .i64 0, .bool false, .int .i64 0, .int .i64 0, .string (⟨#[]⟩ : ByteArray)] 29 (0, 0))]) (fun _ => []) (fun _ => by kernel_rfl) (fun _ => ?_)
          refine WP.done ?_
          refine WP.cond ((i64 r15) == 33024) rfl rfl (fun c19 => ?_) (fun c19 => ?_)
          · replace hM := cond_t hM c19
            refine WP.region ?_
            refine WL.run 1 [] [0, 2, 3, 4, 5, 7, 43] (fun _ => [(0, .pointer (some ⟨b_0, 0, none⟩)), (2, .pointer (some ⟨b1, 0, none⟩)), (3, .nilIface), (4, .pointer (some ⟨b2, 0, none⟩)), (5, .nilIface), (7, .int .i64 (i64 r15)), (43, .pointer (some ⟨b_0, 0, none⟩))]) (fun _ => [(b_0, .cells #[.string r17.s, .int .i64 r17.at_] 132 (0, 0)), (b1, .cells #[.int .u64 0, .int .u64 0, .bool false, .int .i64 0, .bool false, .int .i64 0, .int .i64 0, .string (⟨#[]⟩ : ByteArray)] 29 (0, 0)), (b2, .cells #[.int .u64 r3, .int .u64 r9, .bool false, .int .i64 0, .bool false, .int .i64 0, .int .i64 0, .string (⟨#[]⟩ : ByteArray)] 29 (0, 0))]) (fun _ => []) (fun _ => by kernel_rfl) (fun _ => ?_)
            obtain ⟨⟨r20, r21, r22, r23⟩, h24, hM⟩ := bind_some hM
            dsimp only at hM
            refine WL.callE (X := Unit) [] [] [true, false, true] (fun _ => _) (ether_reader_tagged_calls k b_0 b2 r17 (api_Frame.mk r3 r9 (api_Tag.mk false 0 false 0) 0 (⟨#[]⟩ : ByteArray)) _ h24) rfl rfl (fun _ h => h) (by kernel_rfl) (by kernel_rfl) (fun _ => rfl) (fun _ => ?_)
            refine WL.run 5 [] [0, 2, 3, 4, 5, 7] (fun _ => [(0, .pointer (some ⟨b_0, 0, none⟩)), (2, .pointer (some ⟨b1, 0, none⟩)), (3, .nilIface), (4, .pointer (some ⟨b2, 0, none⟩)), (5, Un1.v r21), (7, .int .i64 r20)]) (fun _ => [(b_0, .cells #[.string r22.s, .int .i64 r22.at_] 132 (0, 0)), (b2, .cells #[.int .u64 r23.Dst, .int .u64 r23.Src, .bool r23.Tag.Has, .int .i64 r23.Tag.Pri, .bool r23.Tag.Dei, .int .i64 r23.Tag.Vid, .int .i64 r23.Type_, .string r23.Body] 29 (0, 0)), (b1, .cells #[.int .u64 0, .int .u64 0, .bool false, .int .i64 0, .bool false, .int .i64 0, .int .i64 0, .string (⟨#[]⟩ : ByteArray)] 29 (0, 0))]) (fun _ => []) (fun _ => by kernel_rfl) (fun _ => ?_)
            refine WP.done ?_
            rcases r21 with _ | ⟨q27, q28⟩
            · dsimp only at hM
              exact WP.sub [0, 2, 3, 4, 5, 7] (by kernel_rfl) (WP.pick [0, 1, 2] (by kernel_rfl) (by kernel_rfl) (K1 (none, r20, r22.s, r22.at_, r23.Dst, r23.Src, r23.Tag.Has, r23.Tag.Pri, r23.Tag.Dei, r23.Tag.Vid, r23.Type_, r23.Body) hM))
            · dsimp only at hM
              exact WP.sub [0, 2, 3, 4, 5, 7] (by kernel_rfl) (WP.pick [0, 1, 2] (by kernel_rfl) (by kernel_rfl) (K1 (some (q27, q28), r20, r22.s, r22.at_, r23.Dst, r23.Src, r23.Tag.Has, r23.Tag.Pri, r23.Tag.Dei, r23.Tag.Vid, r23.Type_, r23.Body) hM))
          · replace hM := cond_f hM c19
            refine WP.skip ?_
            exact WP.sub [0, 2, 3, 4, 5, 7] (by kernel_rfl) (WP.pick [0, 2, 1] (by kernel_rfl) (by kernel_rfl) (K1 (none, i64 r15, r17.s, r17.at_, r3, r9, false, 0, false, 0, 0, (⟨#[]⟩ : ByteArray)) hM))
        · dsimp only at hM
          refine WL.run 5 [] [0, 2, 3, 4, 5, 7, 41] (fun _ => [(0, .pointer (some ⟨b_0, 0, none⟩)), (2, .pointer (some ⟨b1, 0, none⟩)), (3, .nilIface), (4, .pointer (some ⟨b2, 0, none⟩)), (5, .iface 183 (.agg #[.string q25, .iface 30 (.int .i64 q26)])), (7, .int .i64 (i64 r15)), (41, .bool false)]) (fun _ => [(b_0, .cells #[.string r17.s, .int .i64 r17.at_] 132 (0, 0)), (b1, .cells #[.int .u64 0, .int .u64 0, .bool false, .int .i64 0, .bool false, .int .i64 0, .int .i64 0, .string (⟨#[]⟩ : ByteArray)] 29 (0, 0)), (b2, .cells #[.int .u64 r3, .int .u64 r9, .bool false, .int .i64 0, .bool false, .int .i64 0, .int .i64 0, .string (⟨#[]⟩ : ByteArray)] 29 (0, 0))]) (fun _ => []) (fun _ => by kernel_rfl) (fun _ => ?_)
          refine WP.done ?_
          refine WP.no rfl rfl ?_
          refine WP.skip ?_
          exact WP.sub [0, 2, 3, 4, 5, 7] (by kernel_rfl) (WP.pick [0, 2, 1] (by kernel_rfl) (by kernel_rfl) (K1 (some (q25, q26), i64 r15, r17.s, r17.at_, r3, r9, false, 0, false, 0, 0, (⟨#[]⟩ : ByteArray)) hM))
    · dsimp only at hM
      refine WL.run 1 [] [0, 2, 3, 4, 5, 26] (fun _ => [(0, .pointer (some ⟨b_0, 0, none⟩)), (2, .pointer (some ⟨b1, 0, none⟩)), (3, .nilIface), (4, .pointer (some ⟨b2, 0, none⟩)), (5, .iface 183 (.agg #[.string q13, .iface 30 (.int .i64 q14)])), (26, .bool true)]) (fun _ => [(b_0, .cells #[.string r11.s, .int .i64 r11.at_] 132 (0, 0)), (b1, .cells #[.int .u64 0, .int .u64 0, .bool false, .int .i64 0, .bool false, .int .i64 0, .int .i64 0, .string (⟨#[]⟩ : ByteArray)] 29 (0, 0)), (b2, .cells #[.int .u64 r3, .int .u64 r9, .bool false, .int .i64 0, .bool false, .int .i64 0, .int .i64 0, .string (⟨#[]⟩ : ByteArray)] 29 (0, 0))]) (fun _ => []) (fun _ => by kernel_rfl) (fun _ => ?_)
      refine WP.done ?_
      refine WP.yes rfl rfl ?_
      refine WP.seq ?_
      refine WP.run [2, 2, 2, 2, 2, 2, 2, 2, 1, 1, 1, 1, 1, 1, 1, 1] [0, 2, 3, 4, 5] (fun _ => [(0, .pointer (some ⟨b_0, 0, none⟩)), (2, .pointer (some ⟨b1, 0, none⟩)), (3, .iface 183 (.agg #[.string q13, .iface 30 (.int .i64 q14)])), (4, .pointer (some ⟨b2, 0, none⟩)), (5, .iface 183 (.agg #[.string q13, .iface 30 (.int .i64 q14)]))]) (fun _ => [(b_0, .cells #[.string r11.s, .int .i64 r11.at_] 132 (0, 0)), (b1, .cells #[.int .u64 r3, .int .u64 r9, .bool false, .int .i64 0, .bool false, .int .i64 0, .int .i64 0, .string (⟨#[]⟩ : ByteArray)] 29 (0, 0)), (b2, .cells #[.int .u64 r3, .int .u64 r9, .bool false, .int .i64 0, .bool false, .int .i64 0, .int .i64 0, .string (⟨#[]⟩ : ByteArray)] 29 (0, 0))]) (fun _ => [b1, b1, b1, b1, b1, b1, b1, b1, b2, b2, b2, b2, b2, b2, b2, b2]) (fun _ => by kernel_rfl) (fun _ => ?_)
      obtain rfl := Option.some.inj hM
      exact WP.ret [1, 1, 1, 1, 1, 1, 1, 1] [b1, b1, b1, b1, b1, b1, b1, b1] (.tuple #[.agg #[.int .u64 r3, .int .u64 r9, .bool false, .int .i64 0, .bool false, .int .i64 0, .int .i64 0, .string (⟨#[]⟩ : ByteArray)], .iface 183 (.agg #[.string q13, .iface 30 (.int .i64 q14)])]) (by kernel_rfl) (fun w' hw => ⟨(), rfl, hw.pick [0] (by kernel_rfl)⟩)
  · dsimp only at hM
    refine WL.run 1 [] [0, 2, 3, 4, 5, 16] (fun _ => [(0, .pointer (some ⟨b_0, 0, none⟩)), (2, .pointer (some ⟨b1, 0, none⟩)), (3, .nilIface), (4, .pointer (some ⟨b2, 0, none⟩)), (5, .iface 183 (.agg #[.string q7, .iface 30 (.int .i64 q8)])), (16, .bool true)]) (fun _ => [(b_0, .cells #[.string r5.s, .int .i64 r5.at_] 132 (0, 0)), (b1, .cells #[.int .u64 0, .int .u64 0, .bool false, .int .i64 0, .bool false, .int .i64 0, .int .i64 0, .string (⟨#[]⟩ : ByteArray)] 29 (0, 0)), (b2, .cells #[.int .u64 r3, .int .u64 0, .bool false, .int .i64 0, .bool false, .int .i64 0, .int .i64 0, .string (⟨#[]⟩ : ByteArray)] 29 (0, 0))]) (fun _ => []) (fun _ => by kernel_rfl) (fun _ => ?_)
    refine WP.done ?_
    refine WP.yes rfl rfl ?_
    refine WP.seq ?_
    refine WP.run [2, 2, 2, 2, 2, 2, 2, 2, 1, 1, 1, 1, 1, 1, 1, 1] [0, 2, 3, 4, 5] (fun _ => [(0, .pointer (some ⟨b_0, 0, none⟩)), (2, .pointer (some ⟨b1, 0, none⟩)), (3, .iface 183 (.agg #[.string q7, .iface 30 (.int .i64 q8)])), (4, .pointer (some ⟨b2, 0, none⟩)), (5, .iface 183 (.agg #[.string q7, .iface 30 (.int .i64 q8)]))]) (fun _ => [(b_0, .cells #[.string r5.s, .int .i64 r5.at_] 132 (0, 0)), (b1, .cells #[.int .u64 r3, .int .u64 0, .bool false, .int .i64 0, .bool false, .int .i64 0, .int .i64 0, .string (⟨#[]⟩ : ByteArray)] 29 (0, 0)), (b2, .cells #[.int .u64 r3, .int .u64 0, .bool false, .int .i64 0, .bool false, .int .i64 0, .int .i64 0, .string (⟨#[]⟩ : ByteArray)] 29 (0, 0))]) (fun _ => [b1, b1, b1, b1, b1, b1, b1, b1, b2, b2, b2, b2, b2, b2, b2, b2]) (fun _ => by kernel_rfl) (fun _ => ?_)
    obtain rfl := Option.some.inj hM
    exact WP.ret [1, 1, 1, 1, 1, 1, 1, 1] [b1, b1, b1, b1, b1, b1, b1, b1] (.tuple #[.agg #[.int .u64 r3, .int .u64 0, .bool false, .int .i64 0, .bool false, .int .i64 0, .int .i64 0, .string (⟨#[]⟩ : ByteArray)], .iface 183 (.agg #[.string q7, .iface 30 (.int .i64 q8)])]) (by kernel_rfl) (fun w' hw => ⟨(), rfl, hw.pick [0] (by kernel_rfl)⟩)

end Go.Proofs.YtbodofjnfmjbpaaGreatDoor

namespace Go.Proofs.YtbodofjnfmjbpaaGreatDoor
open Go Eng
set_option linter.unusedVariables false
set_option linter.unusedSimpArgs false

/-! ### errors.Is: function 83 -/
def errors_Is.f (a1 : Int) : Option (Bool) :=
  some false

set_option maxRecDepth 100000 in
theorem errors_Is_calls (a1 : Int) (r : Bool) (h : errors_Is.f a1 = some r) : Pure Tryz.prog Glob 83 #[.nilIface, .iface 30 (.int .i64 a1)] (.bool r) := by
  intro w Z hS
  refine calls_of (args := [.nilIface, .iface 30 (.int .i64 a1)]) (L := [(0, .nilIface), (1, .iface 30 (.int .i64 a1))]) (N := 22) (S := Sat w Z [] [] Glob) Tryz.func83 rfl rfl (Nat.le_of_ble_eq_true rfl) rfl hS ?_
  have hM := h
  clear h hS
  unfold errors_Is.f at hM
  refine WP.seq ?_
  refine WP.run [] [0, 1, 4] (fun _ => [(0, .nilIface), (1, .iface 30 (.int .i64 a1)), (4, .bool false)]) (fun _ => []) (fun _ => []) (fun _ => by kernel_rfl) (fun _ => ?_)
  refine WP.seq ?_
  refine WP.seq ?_
  refine WP.run [] [0, 1, 4, 11] (fun _ => [(0, .nilIface), (1, .iface 30 (.int .i64 a1)), (4, .bool false), (11, .bool true)]) (fun _ => []) (fun _ => []) (fun _ => by kernel_rfl) (fun _ => ?_)
  refine WP.yes rfl rfl ?_
  refine WP.seq ?_
  refine WP.run [] [0, 1, 4] (fun _ => [(0, .nilIface), (1, .iface 30 (.int .i64 a1)), (4, .bool false)]) (fun _ => []) (fun _ => []) (fun _ => by kernel_rfl) (fun _ => ?_)
  obtain rfl := Option.some.inj hM
  exact WP.ret [] [] (.bool false) (by kernel_rfl) (fun w' hw => ⟨rfl, hw.pick [] rfl⟩)

end Go.Proofs.YtbodofjnfmjbpaaGreatDoor

namespace Go.Proofs.YtbodofjnfmjbpaaGreatDoor
open Go Eng
set_option linter.unusedVariables false
set_option linter.unusedSimpArgs false

/-! ### (gangway/ether.odd).Unwrap: function 163 -/
def ether_odd_Unwrap.f (a0 : ByteArray) (a0_1 : Int) : Option (Int) :=
  some a0_1

set_option maxRecDepth 100000 in
theorem ether_odd_Unwrap_calls (a0 : ByteArray) (a0_1 : Int) (r : Int) (h : ether_odd_Unwrap.f a0 a0_1 = some r) : Pure Tryz.prog Glob 163 #[.agg #[.string a0, .iface 30 (.int .i64 a0_1)]] (.iface 30 (.int .i64 r)) := by
  intro w Z hS
  refine calls_of (args := [.agg #[.string a0, .iface 30 (.int .i64 a0_1)]]) (L := [(0, .agg #[.string a0, .iface 30 (.int .i64 a0_1)])]) (N := 5) (S := Sat w Z [] [] Glob) Tryz.func163 rfl rfl (Nat.le_of_ble_eq_true rfl) rfl hS ?_
  have hM := h
  clear h hS
  unfold ether_odd_Unwrap.f at hM
  refine WP.seq ?_
  refine WP.run [] [1, 2] (fun b1 => [(1, .pointer (some ⟨b1, 0, none⟩)), (2, .nilIface)]) (fun b1 => [(b1, .cells #[.string a0, .iface 30 (.int .i64 a0_1)] 183 (0, 0))]) (fun b1 => []) (fun b1 => by kernel_rfl) (fun b1 => ?_)
  refine WP.seq ?_
  refine WP.run [0] [2] (fun _ => [(2, .iface 30 (.int .i64 a0_1))]) (fun _ => [(b1, .cells #[.string a0, .iface 30 (.int .i64 a0_1)] 183 (0, 0))]) (fun _ => [b1]) (fun _ => by kernel_rfl) (fun _ => ?_)
  refine WP.keep [false] (by kernel_rfl : _ = []) ?_
  obtain rfl := Option.some.inj hM
  exact WP.ret [] [] (.iface 30 (.int .i64 a0_1)) (by kernel_rfl) (fun w' hw => ⟨rfl, hw.pick [] rfl⟩)

end Go.Proofs.YtbodofjnfmjbpaaGreatDoor

namespace Go.Proofs.YtbodofjnfmjbpaaGreatDoor
open Go Eng
set_option linter.unusedVariables false
set_option linter.unusedSimpArgs false

/-! ### errors.is: function 109 -/
def errors_is.f (a0 : ByteArray) (a0_1 : Int) (a1 : Int) (a2 : Bool) : Option (Bool) :=
  (ether_odd_Unwrap.f a0 a0_1).bind fun r2 =>
  bif (a2 && (r2 == a1)) then
    some true
  else
    some false

set_option maxRecDepth 100000 in
theorem errors_is_calls (a0 : ByteArray) (a0_1 : Int) (a1 : Int) (a2 : Bool) (r : Bool) (h : errors_is.f a0 a0_1 a1 a2 = some r) : Pure Tryz.prog Glob 109 #[.iface 183 (.agg #[.string a0, .iface 30 (.int .i64 a0_1)]), .iface 30 (.int .i64 a1), .bool a2] (.bool r) := by
  intro w Z hS
  refine calls_of (args := [.iface 183 (.agg #[.string a0, .iface 30 (.int .i64 a0_1)]), .iface 30 (.int .i64 a1), .bool a2]) (L := [(0, .iface 183 (.agg #[.string a0, .iface 30 (.int .i64 a0_1)])), (1, .iface 30 (.int .i64 a1)), (2, .bool a2)]) (N := 54) (S := Sat w Z [] [] Glob) Tryz.func109 rfl rfl (Nat.le_of_ble_eq_true rfl) rfl hS ?_
  have hM := h
  clear h hS
  unfold errors_is.f at hM
  refine WP.seq ?_
  refine WP.run [] [0, 1, 2, 6] (fun _ => [(0, .iface 183 (.agg #[.string a0, .iface 30 (.int .i64 a0_1)])), (1, .iface 30 (.int .i64 a1)), (2, .bool a2), (6, .bool false)]) (fun _ => []) (fun _ => []) (fun _ => by kernel_rfl) (fun _ => ?_)
  refine WP.block ?_
  refine WP.unroll 40 ?_
  refine WP.block ?_
  refine WP.seq ?_
  refine WP.seq ?_
  refine WP.region ?_
  refine WL.run 2 [] [0, 1, 2, 6, 14, 15] (fun _ => [(0, .iface 183 (.agg #[.string a0, .iface 30 (.int .i64 a0_1)])), (1, .iface 30 (.int .i64 a1)), (2, .bool a2), (6, .bool false), (14, .bool a2), (15, .bool a2)]) (fun _ => []) (fun _ => []) (fun _ => by kernel_rfl) (fun _ => ?_)
  refine WL.sub [0, 1, 2, 6, 14, 15] (L' := [(0, .iface 183 (.agg #[.string a0, .iface 30 (.int .i64 a0_1)])), (1, .iface 30 (.int .i64 a1)), (2, .bool a2), (6, .bool false), (14, .bool a2), (15, .bool a2)]) (by kernel_rfl) ?_
  refine WL.both (fun b' => [(0, .iface 183 (.agg #[.string a0, .iface 30 (.int .i64 a0_1)])), (1, .iface 30 (.int .i64 a1)), (2, .bool a2), (6, .bool false), (14, .bool a2), (15, .bool b')]) a2 4 [] [] [0, 1, 2, 6, 14, 15, 19] (fun b' => [(0, .iface 183 (.agg #[.string a0, .iface 30 (.int .i64 a0_1)])), (1, .iface 30 (.int .i64 a1)), (2, .bool a2), (6, .bool false), (14, .bool a2), (15, .bool b'), (19, .bool false)]) [] [] (fun _ => by kernel_rfl) (fun _ => by kernel_rfl) ?_
  refine WP.done ?_
  refine WP.no rfl rfl ?_
  refine WP.skip ?_
  refine WP.seq ?_
  refine WP.seq ?_
  refine WP.region ?_
  refine WL.run 1 [] [0, 1, 2, 6, 14, 15, 19, 21] (fun _ => [(0, .iface 183 (.agg #[.string a0, .iface 30 (.int .i64 a0_1)])), (1, .iface 30 (.int .i64 a1)), (2, .bool a2), (6, .bool false), (14, .bool a2), (15, .bool a2), (19, .bool false), (21, .iface 183 (.agg #[.string a0, .iface 30 (.int .i64 a0_1)]))]) (fun _ => []) (fun _ => []) (fun _ => by kernel_rfl) (fun _ => ?_)
  refine WL.val (fun _ => run_assertLacks (t := 183) (v := .agg #[.string a0, .iface 30 (.int .i64 a0_1)]) (z := .nilIface) (by kernel_rfl) (by kernel_rfl) (by kernel_rfl)) (by kernel_rfl) (by kernel_rfl) rfl ?_
  refine WL.run 5 [] [0, 1, 2, 6, 7, 8, 14, 15, 19, 20, 21, 22, 23, 24] (fun _ => [(0, .iface 183 (.agg #[.string a0, .iface 30 (.int .i64 a0_1)])), (1, .iface 30 (.int .i64 a1)), (2, .bool a2), (6, .bool false), (7, .nilIface), (8, .bool false), (14, .bool a2), (15, .bool a2), (19, .bool false), (20, .tuple #[.nilIface, .bool false]), (21, .iface 183 (.agg #[.string a0, .iface 30 (.int .i64 a0_1)])), (22, .tuple #[.nilIface, .bool false]), (23, .nilIface), (24, .bool false)]) (fun _ => []) (fun _ => []) (fun _ => by kernel_rfl) (fun _ => ?_)
  refine WP.done ?_
  refine WP.seq ?_
  refine WP.run [] [0, 1, 2, 6, 7, 8, 14, 15, 19, 20, 21, 22, 23, 24, 25, 26, 27, 28, 29, 30] (fun _ => [(0, .iface 183 (.agg #[.string a0, .iface 30 (.int .i64 a0_1)])), (1, .iface 30 (.int .i64 a1)), (2, .bool a2), (6, .bool false), (7, .nilIface), (8, .bool false), (14, .bool a2), (15, .bool a2), (19, .bool false), (20, .tuple #[.nilIface, .bool false]), (21, .iface 183 (.agg #[.string a0, .iface 30 (.int .i64 a0_1)])), (22, .tuple #[.nilIface, .bool false]), (23, .nilIface), (24, .bool false), (25, .bool false), (26, .bool false), (27, .tuple #[]), (28, .tuple #[]), (29, .tuple #[]), (30, .bool false)]) (fun _ => []) (fun _ => []) (fun _ => by kernel_rfl) (fun _ => ?_)
  refine WP.no rfl rfl ?_
  refine WP.skip ?_
  refine WP.seq ?_
  refine WP.run [] [0, 1, 2, 6, 7, 8, 14, 15, 19, 20, 21, 22, 23, 24, 25, 26, 27, 28, 29, 30, 31] (fun _ => [(0, .iface 183 (.agg #[.string a0, .iface 30 (.int .i64 a0_1)])), (1, .iface 30 (.int .i64 a1)), (2, .bool a2), (6, .bool false), (7, .nilIface), (8, .bool false), (14, .bool a2), (15, .bool a2), (19, .bool false), (20, .tuple #[.nilIface, .bool false]), (21, .iface 183 (.agg #[.string a0, .iface 30 (.int .i64 a0_1)])), (22, .tuple #[.nilIface, .bool false]), (23, .nilIface), (24, .bool false), (25, .bool false), (26, .bool false), (27, .tuple #[]), (28, .tuple #[]), (29, .tuple #[]), (30, .bool false), (31, .iface 183 (.agg #[.string a0, .iface 30 (.int .i64 a0_1)]))]) (fun _ => []) (fun _ => []) (fun _ => by kernel_rfl) (fun _ => ?_)
  refine WP.block ?_
  refine WP.seq ?_
  refine WP.region ?_
  refine WL.val (fun _ => run_assertHas (t := 183) (v := .agg #[.string a0, .iface 30 (.int .i64 a0_1)]) (by kernel_rfl) (by kernel_rfl)) (by kernel_rfl) (by kernel_rfl) rfl ?_
  refine WL.run 2 [] [0, 1, 2, 6, 7, 8, 14, 15, 19, 20, 21, 22, 23, 24, 25, 26, 27, 28, 29, 30, 31, 32, 33, 34] (fun _ => [(0, .iface 183 (.agg #[.string a0, .iface 30 (.int .i64 a0_1)])), (1, .iface 30 (.int .i64 a1)), (2, .bool a2), (6, .bool false), (7, .nilIface), (8, .bool false), (14, .bool a2), (15, .bool a2), (19, .bool false), (20, .tuple #[.nilIface, .bool false]), (21, .iface 183 (.agg #[.string a0, .iface 30 (.int .i64 a0_1)])), (22, .tuple #[.nilIface, .bool false]), (23, .nilIface), (24, .bool false), (25, .bool false), (26, .bool false), (27, .tuple #[]), (28, .tuple #[]), (29, .tuple #[]), (30, .bool false), (31, .iface 183 (.agg #[.string a0, .iface 30 (.int .i64 a0_1)])), (32, .tuple #[.iface 183 (.agg #[.string a0, .iface 30 (.int .i64 a0_1)]), .bool true]), (33, .bool true), (34, .iface 183 (.agg #[.string a0, .iface 30 (.int .i64 a0_1)]))]) (fun _ => []) (fun _ => []) (fun _ => by kernel_rfl) (fun _ => ?_)
  refine WP.done ?_
  refine WP.yes rfl rfl ?_
  refine WP.seq ?_
  refine WP.run [] [0, 1, 2, 6, 7, 8, 9, 14, 15, 19, 20, 21, 22, 23, 24, 25, 26, 27, 28, 29, 30, 31, 32, 33, 34] (fun _ => [(0, .iface 183 (.agg #[.string a0, .iface 30 (.int .i64 a0_1)])), (1, .iface 30 (.int .i64 a1)), (2, .bool a2), (6, .bool false), (7, .nilIface), (8, .bool false), (9, .iface 183 (.agg #[.string a0, .iface 30 (.int .i64 a0_1)])), (14, .bool a2), (15, .bool a2), (19, .bool false), (20, .tuple #[.nilIface, .bool false]), (21, .iface 183 (.agg #[.string a0, .iface 30 (.int .i64 a0_1)])), (22, .tuple #[.nilIface, .bool false]), (23, .nilIface), (24, .bool false), (25, .bool false), (26, .bool false), (27, .tuple #[]), (28, .tuple #[]), (29, .tuple #[]), (30, .bool false), (31, .iface 183 (.agg #[.string a0, .iface 30 (.int .i64 a0_1)])), (32, .tuple #[.iface 183 (.agg #[.string a0, .iface 30 (.int .i64 a0_1)]), .bool true]), (33, .bool true), (34, .iface 183 (.agg #[.string a0, .iface 30 (.int .i64 a0_1)]))]) (fun _ => []) (fun _ => []) (fun _ => by kernel_rfl) (fun _ => ?_)
  refine WP.seq ?_
  refine WP.region ?_
  refine WL.run 1 [] [0, 1, 2, 6, 7, 8, 9, 14, 15, 19, 20, 21, 22, 23, 24, 25, 26, 27, 28, 29, 30, 31, 32, 33, 34, 35] (fun _ => [(0, .iface 183 (.agg #[.string a0, .iface 30 (.int .i64 a0_1)])), (1, .iface 30 (.int .i64 a1)), (2, .bool a2), (6, .bool false), (7, .nilIface), (8, .bool false), (9, .iface 183 (.agg #[.string a0, .iface 30 (.int .i64 a0_1)])), (14, .bool a2), (15, .bool a2), (19, .bool false), (20, .tuple #[.nilIface, .bool false]), (21, .iface 183 (.agg #[.string a0, .iface 30 (.int .i64 a0_1)])), (22, .tuple #[.nilIface, .bool false]), (23, .nilIface), (24, .bool false), (25, .bool false), (26, .bool false), (27, .tuple #[]), (28, .tuple #[]), (29, .tuple #[]), (30, .bool false), (31, .iface 183 (.agg #[.string a0, .iface 30 (.int .i64 a0_1)])), (32, .tuple #[.iface 183 (.agg #[.string a0, .iface 30 (.int .i64 a0_1)]), .bool true]), (33, .bool true), (34, .iface 183 (.agg #[.string a0, .iface 30 (.int .i64 a0_1)])), (35, .iface 183 (.agg #[.string a0, .iface 30 (.int .i64 a0_1)]))]) (fun _ => []) (fun _ => []) (fun _ => by kernel_rfl) (fun _ => ?_)
  obtain ⟨r2, h3, hM⟩ := bind_some hM
  refine WL.callP [] [] (ether_odd_Unwrap_calls a0 a0_1 _ h3) (fun _ h => h) (by kernel_rfl) (by kernel_rfl) rfl ?_
  refine WL.run 1 [] [0, 1, 2, 6, 7, 8, 9, 14, 15, 19, 20, 21, 22, 23, 24, 25, 26, 27, 28, 29, 30, 31, 32, 33, 34, 35, 36] (fun _ => [(0, .iface 30 (.int .i64 r2)), (1, .iface 30 (.int .i64 a1)), (2, .bool a2), (6, .bool false), (7, .nilIface), (8, .bool false), (9, .iface 183 (.agg #[.string a0, .iface 30 (.int .i64 a0_1)])), (14, .bool a2), (15, .bool a2), (19, .bool false), (20, .tuple #[.nilIface, .bool false]), (21, .iface 183 (.agg #[.string a0, .iface 30 (.int .i64 a0_1)])), (22, .tuple #[.nilIface, .bool false]), (23, .nilIface), (24, .bool false), (25, .bool false), (26, .bool false), (27, .tuple #[]), (28, .tuple #[]), (29, .tuple #[]), (30, .bool false), (31, .iface 183 (.agg #[.string a0, .iface 30 (.int .i64 a0_1)])), (32, .tuple #[.iface 183 (.agg #[.string a0, .iface 30 (.int .i64 a0_1)]), .bool true]), (33, .bool true), (34, .iface 183 (.agg #[.string a0, .iface 30 (.int .i64 a0_1)])), (35, .iface 183 (.agg #[.string a0, .iface 30 (.int .i64 a0_1)])), (36, .iface 30 (.int .i64 r2))]) (fun _ => []) (fun _ => []) (fun _ => by kernel_rfl) (fun _ => ?_)
  refine WP.done ?_
  refine WP.seq ?_
  refine WP.run [] [0, 1, 2, 6, 7, 8, 9, 14, 15, 19, 20, 21, 22, 23, 24, 25, 26, 27, 28, 29, 30, 31, 32, 33, 34, 35, 36, 37, 38] (fun _ => [(0, .iface 30 (.int .i64 r2)), (1, .iface 30 (.int .i64 a1)), (2, .bool a2), (6, .bool false), (7, .nilIface), (8, .bool false), (9, .iface 183 (.agg #[.string a0, .iface 30 (.int .i64 a0_1)])), (14, .bool a2), (15, .bool a2), (19, .bool false), (20, .tuple #[.nilIface, .bool false]), (21, .iface 183 (.agg #[.string a0, .iface 30 (.int .i64 a0_1)])), (22, .tuple #[.nilIface, .bool false]), (23, .nilIface), (24, .bool false), (25, .bool false), (26, .bool false), (27, .tuple #[]), (28, .tuple #[]), (29, .tuple #[]), (30, .bool false), (31, .iface 183 (.agg #[.string a0, .iface 30 (.int .i64 a0_1)])), (32, .tuple #[.iface 183 (.agg #[.string a0, .iface 30 (.int .i64 a0_1)]), .bool true]), (33, .bool true), (34, .iface 183 (.agg #[.string a0, .iface 30 (.int .i64 a0_1)])), (35, .iface 183 (.agg #[.string a0, .iface 30 (.int .i64 a0_1)])), (36, .iface 30 (.int .i64 r2)), (37, .iface 30 (.int .i64 r2)), (38, .bool false)]) (fun _ => []) (fun _ => []) (fun _ => by kernel_rfl) (fun _ => ?_)
  refine WP.no rfl rfl ?_
  refine WP.skip ?_
  refine WP.leave ?_
  refine WP.leave ?_
  refine WP.round ?_
  refine WP.block ?_
  refine WP.seq ?_
  refine WP.seq ?_
  refine WP.region ?_
  refine WL.run 2 [] [0, 1, 2, 6, 7, 8, 9, 14, 15, 19, 20, 21, 22, 23, 24, 25, 26, 27, 28, 29, 30, 31, 32, 33, 34, 35, 36, 37, 38] (fun _ => [(0, .iface 30 (.int .i64 r2)), (1, .iface 30 (.int .i64 a1)), (2, .bool a2), (6, .bool false), (7, .nilIface), (8, .bool false), (9, .iface 183 (.agg #[.string a0, .iface 30 (.int .i64 a0_1)])), (14, .bool a2), (15, .bool a2), (19, .bool false), (20, .tuple #[.nilIface, .bool false]), (21, .iface 183 (.agg #[.string a0, .iface 30 (.int .i64 a0_1)])), (22, .tuple #[.nilIface, .bool false]), (23, .nilIface), (24, .bool false), (25, .bool false), (26, .bool false), (27, .tuple #[]), (28, .tuple #[]), (29, .tuple #[]), (30, .bool false), (31, .iface 183 (.agg #[.string a0, .iface 30 (.int .i64 a0_1)])), (32, .tuple #[.iface 183 (.agg #[.string a0, .iface 30 (.int .i64 a0_1)]), .bool true]), (33, .bool true), (34, .iface 183 (.agg #[.string a0, .iface 30 (.int .i64 a0_1)])), (35, .iface 183 (.agg #[.string a0, .iface 30 (.int .i64 a0_1)])), (36, .iface 30 (.int .i64 r2)), (37, .iface 30 (.int .i64 r2)), (38, .bool false)]) (fun _ => []) (fun _ => []) (fun _ => by kernel_rfl) (fun _ => ?_)
  refine WL.sub [0, 1, 2, 6, 7, 8, 9, 14, 15, 19, 20, 21, 22, 23, 24, 25, 26, 27, 28, 29, 30, 31, 32, 33, 34, 35, 36, 37, 38] (L' := [(0, .iface 30 (.int .i64 r2)), (1, .iface 30 (.int .i64 a1)), (2, .bool a2), (6, .bool false), (7, .nilIface), (8, .bool false), (9, .iface 183 (.agg #[.string a0, .iface 30 (.int .i64 a0_1)])), (14, .bool a2), (15, .bool a2), (19, .bool false), (20, .tuple #[.nilIface, .bool false]), (21, .iface 183 (.agg #[.string a0, .iface 30 (.int .i64 a0_1)])), (22, .tuple #[.nilIface, .bool false]), (23, .nilIface), (24, .bool false), (25, .bool false), (26, .bool false), (27, .tuple #[]), (28, .tuple #[]), (29, .tuple #[]), (30, .bool false), (31, .iface 183 (.agg #[.string a0, .iface 30 (.int .i64 a0_1)])), (32, .tuple #[.iface 183 (.agg #[.string a0, .iface 30 (.int .i64 a0_1)]), .bool true]), (33, .bool true), (34, .iface 183 (.agg #[.string a0, .iface 30 (.int .i64 a0_1)])), (35, .iface 183 (.agg #[.string a0, .iface 30 (.int .i64 a0_1)])), (36, .iface 30 (.int .i64 r2)), (37, .iface 30 (.int .i64 r2)), (38, .bool false)]) (by kernel_rfl) ?_
  refine WL.both (fun b' => [(0, .iface 30 (.int .i64 r2)), (1, .iface 30 (.int .i64 a1)), (2, .bool a2), (6, .bool false), (7, .nilIface), (8, .bool false), (9, .iface 183 (.agg #[.string a0, .iface 30 (.int .i64 a0_1)])), (14, .bool a2), (15, .bool b'), (19, .bool false), (20, .tuple #[.nilIface, .bool false]), (21, .iface 183 (.agg #[.string a0, .iface 30 (.int .i64 a0_1)])), (22, .tuple #[.nilIface, .bool false]), (23, .nilIface), (24, .bool false), (25, .bool false), (26, .bool false), (27, .tuple #[]), (28, .tuple #[]), (29, .tuple #[]), (30, .bool false), (31, .iface 183 (.agg #[.string a0, .iface 30 (.int .i64 a0_1)])), (32, .tuple #[.iface 183 (.agg #[.string a0, .iface 30 (.int .i64 a0_1)]), .bool true]), (33, .bool true), (34, .iface 183 (.agg #[.string a0, .iface 30 (.int .i64 a0_1)])), (35, .iface 183 (.agg #[.string a0, .iface 30 (.int .i64 a0_1)])), (36, .iface 30 (.int .i64 r2)), (37, .iface 30 (.int .i64 r2)), (38, .bool false)]) a2 4 [] [] [0, 1, 2, 6, 7, 8, 9, 14, 15, 19, 20, 21, 22, 23, 24, 25, 26, 27, 28, 29, 30, 31, 32, 33, 34, 35, 36, 37, 38] (fun b' => [(0, .iface 30 (.int .i64 r2)), (1, .iface 30 (.int .i64 a1)), (2, .bool a2), (6, .bool false), (7, .nilIface), (8, .bool false), (9, .iface 183 (.agg #[.string a0, .iface 30 (.int .i64 a0_1)])), (14, .bool a2), (15, .bool b'), (19, .bool (b' && (r2 == a1))), (20, .tuple #[.nilIface, .bool false]), (21, .iface 183 (.agg #[.string a0, .iface 30 (.int .i64 a0_1)])), (22, .tuple #[.nilIface, .bool false]), (23, .nilIface), (24, .bool false), (25, .bool false), (26, .bool false), (27, .tuple #[]), (28, .tuple #[]), (29, .tuple #[]), (30, .bool false), (31, .iface 183 (.agg #[.string a0, .iface 30 (.int .i64 a0_1)])), (32, .tuple #[.iface 183 (.agg #[.string a0, .iface 30 (.int .i64 a0_1)]), .bool true]), (33, .bool true), (34, .iface 183 (.agg #[.string a0, .iface 30 (.int .i64 a0_1)])), (35, .iface 183 (.agg #[.string a0, .iface 30 (.int .i64 a0_1)])), (36, .iface 30 (.int .i64 r2)), (37, .iface 30 (.int .i64 r2)), (38, .bool false)]) [] [] (fun _ => by kernel_rfl) (fun _ => by kernel_rfl) ?_
  refine WP.done ?_
  refine WP.cond (a2 && (r2 == a1)) rfl rfl (fun c4 => ?_) (fun c4 => ?_)
  · replace hM := cond_t hM c4
    refine WP.seq ?_
    refine WP.run [] [0, 1, 2, 6, 7, 8, 9, 14, 15, 19, 20, 21, 22, 23, 24, 25, 26, 27, 28, 29, 30, 31, 32, 33, 34, 35, 36, 37, 38] (fun _ => [(0, .iface 30 (.int .i64 r2)), (1, .iface 30 (.int .i64 a1)), (2, .bool a2), (6, .bool true), (7, .nilIface), (8, .bool false), (9, .iface 183 (.agg #[.string a0, .iface 30 (.int .i64 a0_1)])), (14, .bool a2), (15, .bool a2), (19, .bool (a2 && (r2 == a1))), (20, .tuple #[.nilIface, .bool false]), (21, .iface 183 (.agg #[.string a0, .iface 30 (.int .i64 a0_1)])), (22, .tuple #[.nilIface, .bool false]), (23, .nilIface), (24, .bool false), (25, .bool false), (26, .bool false), (27, .tuple #[]), (28, .tuple #[]), (29, .tuple #[]), (30, .bool false), (31, .iface 183 (.agg #[.string a0, .iface 30 (.int .i64 a0_1)])), (32, .tuple #[.iface 183 (.agg #[.string a0, .iface 30 (.int .i64 a0_1)]), .bool true]), (33, .bool true), (34, .iface 183 (.agg #[.string a0, .iface 30 (.int .i64 a0_1)])), (35, .iface 183 (.agg #[.string a0, .iface 30 (.int .i64 a0_1)])), (36, .iface 30 (.int .i64 r2)), (37, .iface 30 (.int .i64 r2)), (38, .bool false)]) (fun _ => []) (fun _ => []) (fun _ => by kernel_rfl) (fun _ => ?_)
    obtain rfl := Option.some.inj hM
    exact WP.ret [] [] (.bool true) (by kernel_rfl) (fun w' hw => ⟨rfl, hw.pick [] rfl⟩)
  · replace hM := cond_f hM c4
    refine WP.skip ?_
    refine WP.seq ?_
    refine WP.seq ?_
    refine WP.region ?_
    refine WL.run 1 [] [0, 1, 2, 6, 7, 8, 9, 14, 15, 19, 20, 21, 22, 23, 24, 25, 26, 27, 28, 29, 30, 31, 32, 33, 34, 35, 36, 37, 38] (fun _ => [(0, .iface 30 (.int .i64 r2)), (1, .iface 30 (.int .i64 a1)), (2, .bool a2), (6, .bool false), (7, .nilIface), (8, .bool false), (9, .iface 183 (.agg #[.string a0, .iface 30 (.int .i64 a0_1)])), (14, .bool a2), (15, .bool a2), (19, .bool (a2 && (r2 == a1))), (20, .tuple #[.nilIface, .bool false]), (21, .iface 30 (.int .i64 r2)), (22, .tuple #[.nilIface, .bool false]), (23, .nilIface), (24, .bool false), (25, .bool false), (26, .bool false), (27, .tuple #[]), (28, .tuple #[]), (29, .tuple #[]), (30, .bool false), (31, .iface 183 (.agg #[.string a0, .iface 30 (.int .i64 a0_1)])), (32, .tuple #[.iface 183 (.agg #[.string a0, .iface 30 (.int .i64 a0_1)]), .bool true]), (33, .bool true), (34, .iface 183 (.agg #[.string a0, .iface 30 (.int .i64 a0_1)])), (35, .iface 183 (.agg #[.string a0, .iface 30 (.int .i64 a0_1)])), (36, .iface 30 (.int .i64 r2)), (37, .iface 30 (.int .i64 r2)), (38, .bool false)]) (fun _ => []) (fun _ => []) (fun _ => by kernel_rfl) (fun _ => ?_)
    refine WL.val (fun _ => run_assertLacks (t := 30) (v := .int .i64 r2) (z := .nilIface) (by kernel_rfl) (by kernel_rfl) (by kernel_rfl)) (by kernel_rfl) (by kernel_rfl) rfl ?_
    refine WL.run 5 [] [0, 1, 2, 6, 7, 8, 9, 14, 15, 19, 20, 21, 22, 23, 24, 25, 26, 27, 28, 29, 30, 31, 32, 33, 34, 35, 36, 37, 38] (fun _ => [(0, .iface 30 (.int .i64 r2)), (1, .iface 30 (.int .i64 a1)), (2, .bool a2), (6, .bool false), (7, .nilIface), (8, .bool false), (9, .iface 183 (.agg #[.string a0, .iface 30 (.int .i64 a0_1)])), (14, .bool a2), (15, .bool a2), (19, .bool (a2 && (r2 == a1))), (20, .tuple #[.nilIface, .bool false]), (21, .iface 30 (.int .i64 r2)), (22, .tuple #[.nilIface, .bool false]), (23, .nilIface), (24, .bool false), (25, .bool false), (26, .bool false), (27, .tuple #[]), (28, .tuple #[]), (29, .tuple #[]), (30, .bool false), (31, .iface 183 (.agg #[.string a0, .iface 30 (.int .i64 a0_1)])), (32, .tuple #[.iface 183 (.agg #[.string a0, .iface 30 (.int .i64 a0_1)]), .bool true]), (33, .bool true), (34, .iface 183 (.agg #[.string a0, .iface 30 (.int .i64 a0_1)])), (35, .iface 183 (.agg #[.string a0, .iface 30 (.int .i64 a0_1)])), (36, .iface 30 (.int .i64 r2)), (37, .iface 30 (.int .i64 r2)), (38, .bool false)]) (fun _ => []) (fun _ => []) (fun _ => by kernel_rfl) (fun _ => ?_)
    refine WP.done ?_
    refine WP.seq ?_
    refine WP.run [] [0, 1, 2, 6, 7, 8, 9, 14, 15, 19, 20, 21, 22, 23, 24, 25, 26, 27, 28, 29, 30, 31, 32, 33, 34, 35, 36, 37, 38] (fun _ => [(0, .iface 30 (.int .i64 r2)), (1, .iface 30 (.int .i64 a1)), (2, .bool a2), (6, .bool false), (7, .nilIface), (8, .bool false), (9, .iface 183 (.agg #[.string a0, .iface 30 (.int .i64 a0_1)])), (14, .bool a2), (15, .bool a2), (19, .bool (a2 && (r2 == a1))), (20, .tuple #[.nilIface, .bool false]), (21, .iface 30 (.int .i64 r2)), (22, .tuple #[.nilIface, .bool false]), (23, .nilIface), (24, .bool false), (25, .bool false), (26, .bool false), (27, .tuple #[]), (28, .tuple #[]), (29, .tuple #[]), (30, .bool false), (31, .iface 183 (.agg #[.string a0, .iface 30 (.int .i64 a0_1)])), (32, .tuple #[.iface 183 (.agg #[.string a0, .iface 30 (.int .i64 a0_1)]), .bool true]), (33, .bool true), (34, .iface 183 (.agg #[.string a0, .iface 30 (.int .i64 a0_1)])), (35, .iface 183 (.agg #[.string a0, .iface 30 (.int .i64 a0_1)])), (36, .iface 30 (.int .i64 r2)), (37, .iface 30 (.int .i64 r2)), (38, .bool false)]) (fun _ => []) (fun _ => []) (fun _ => by kernel_rfl) (fun _ => ?_)
    refine WP.no rfl rfl ?_
    refine WP.skip ?_
    refine WP.seq ?_
    refine WP.run [] [0, 1, 2, 6, 7, 8, 9, 14, 15, 19, 20, 21, 22, 23, 24, 25, 26, 27, 28, 29, 30, 31, 32, 33, 34, 35, 36, 37, 38] (fun _ => [(0, .iface 30 (.int .i64 r2)), (1, .iface 30 (.int .i64 a1)), (2, .bool a2), (6, .bool false), (7, .nilIface), (8, .bool false), (9, .iface 183 (.agg #[.string a0, .iface 30 (.int .i64 a0_1)])), (14, .bool a2), (15, .bool a2), (19, .bool (a2 && (r2 == a1))), (20, .tuple #[.nilIface, .bool false]), (21, .iface 30 (.int .i64 r2)), (22, .tuple #[.nilIface, .bool false]), (23, .nilIface), (24, .bool false), (25, .bool false), (26, .bool false), (27, .tuple #[]), (28, .tuple #[]), (29, .tuple #[]), (30, .bool false), (31, .iface 30 (.int .i64 r2)), (32, .tuple #[.iface 183 (.agg #[.string a0, .iface 30 (.int .i64 a0_1)]), .bool true]), (33, .bool true), (34, .iface 183 (.agg #[.string a0, .iface 30 (.int .i64 a0_1)])), (35, .iface 183 (.agg #[.string a0, .iface 30 (.int .i64 a0_1)])), (36, .iface 30 (.int .i64 r2)), (37, .iface 30 (.int .i64 r2)), (38, .bool false)]) (fun _ => []) (fun _ => []) (fun _ => by kernel_rfl) (fun _ => ?_)
    refine WP.block ?_
    refine WP.seq ?_
    refine WP.region ?_
    refine WL.val (fun _ => run_assertLacks (t := 30) (v := .int .i64 r2) (z := .nilIface) (by kernel_rfl) (by kernel_rfl) (by kernel_rfl)) (by kernel_rfl) (by kernel_rfl) rfl ?_
    refine WL.run 2 [] [0, 1, 2, 6, 7, 8, 9, 14, 15, 19, 20, 21, 22, 23, 24, 25, 26, 27, 28, 29, 30, 31, 32, 33, 34, 35, 36, 37, 38] (fun _ => [(0, .iface 30 (.int .i64 r2)), (1, .iface 30 (.int .i64 a1)), (2, .bool a2), (6, .bool false), (7, .nilIface), (8, .bool false), (9, .iface 183 (.agg #[.string a0, .iface 30 (.int .i64 a0_1)])), (14, .bool a2), (15, .bool a2), (19, .bool (a2 && (r2 == a1))), (20, .tuple #[.nilIface, .bool false]), (21, .iface 30 (.int .i64 r2)), (22, .tuple #[.nilIface, .bool false]), (23, .nilIface), (24, .bool false), (25, .bool false), (26, .bool false), (27, .tuple #[]), (28, .tuple #[]), (29, .tuple #[]), (30, .bool false), (31, .iface 30 (.int .i64 r2)), (32, .tuple #[.nilIface, .bool false]), (33, .bool false), (34, .nilIface), (35, .iface 183 (.agg #[.string a0, .iface 30 (.int .i64 a0_1)])), (36, .iface 30 (.int .i64 r2)), (37, .iface 30 (.int .i64 r2)), (38, .bool false)]) (fun _ => []) (fun _ => []) (fun _ => by kernel_rfl) (fun _ => ?_)
    refine WP.done ?_
    refine WP.no rfl rfl ?_
    refine WP.seq ?_
    refine WP.region ?_
    refine WL.val (fun _ => run_assertLacks (t := 30) (v := .int .i64 r2) (z := .nilIface) (by kernel_rfl) (by kernel_rfl) (by kernel_rfl)) (by kernel_rfl) (by kernel_rfl) rfl ?_
    refine WL.run 2 [] [0, 1, 2, 6, 7, 8, 9, 14, 15, 19, 20, 21, 22, 23, 24, 25, 26, 27, 28, 29, 30, 31, 32, 33, 34, 35, 36, 37, 38, 39, 40, 41] (fun _ => [(0, .iface 30 (.int .i64 r2)), (1, .iface 30 (.int .i64 a1)), (2, .bool a2), (6, .bool false), (7, .nilIface), (8, .bool false), (9, .iface 183 (.agg #[.string a0, .iface 30 (.int .i64 a0_1)])), (14, .bool a2), (15, .bool a2), (19, .bool (a2 && (r2 == a1))), (20, .tuple #[.nilIface, .bool false]), (21, .iface 30 (.int .i64 r2)), (22, .tuple #[.nilIface, .bool false]), (23, .nilIface), (24, .bool false), (25, .bool false), (26, .bool false), (27, .tuple #[]), (28, .tuple #[]), (29, .tuple #[]), (30, .bool false), (31, .iface 30 (.int .i64 r2)), (32, .tuple #[.nilIface, .bool false]), (33, .bool false), (34, .nilIface), (35, .iface 183 (.agg #[.string a0, .iface 30 (.int .i64 a0_1)])), (36, .iface 30 (.int .i64 r2)), (37, .iface 30 (.int .i64 r2)), (38, .bool false), (39, .tuple #[.nilIface, .bool false]), (40, .bool false), (41, .nilIface)]) (fun _ => []) (fun _ => []) (fun _ => by kernel_rfl) (fun _ => ?_)
    refine WP.done ?_
    refine WP.no rfl rfl ?_
    refine WP.seq ?_
    refine WP.run [] [0, 1, 2, 6, 7, 8, 9, 14, 15, 19, 20, 21, 22, 23, 24, 25, 26, 27, 28, 29, 30, 31, 32, 33, 34, 35, 36, 37, 38, 39, 40, 41] (fun _ => [(0, .iface 30 (.int .i64 r2)), (1, .iface 30 (.int .i64 a1)), (2, .bool a2), (6, .bool false), (7, .nilIface), (8, .bool false), (9, .iface 183 (.agg #[.string a0, .iface 30 (.int .i64 a0_1)])), (14, .bool a2), (15, .bool a2), (19, .bool (a2 && (r2 == a1))), (20, .tuple #[.nilIface, .bool false]), (21, .iface 30 (.int .i64 r2)), (22, .tuple #[.nilIface, .bool false]), (23, .nilIface), (24, .bool false), (25, .bool false), (26, .bool false), (27, .tuple #[]), (28, .tuple #[]), (29, .tuple #[]), (30, .bool false), (31, .iface 30 (.int .i64 r2)), (32, .tuple #[.nilIface, .bool false]), (33, .bool false), (34, .nilIface), (35, .iface 183 (.agg #[.string a0, .iface 30 (.int .i64 a0_1)])), (36, .iface 30 (.int .i64 r2)), (37, .iface 30 (.int .i64 r2)), (38, .bool false), (39, .tuple #[.nilIface, .bool false]), (40, .bool false), (41, .nilIface)]) (fun _ => []) (fun _ => []) (fun _ => by kernel_rfl) (fun _ => ?_)
    refine WP.seq ?_
    refine WP.run [] [0, 1, 2, 6, 7, 8, 9, 14, 15, 19, 20, 21, 22, 23, 24, 25, 26, 27, 28, 29, 30, 31, 32, 33, 34, 35, 36, 37, 38, 39, 40, 41] (fun _ => [(0, .iface 30 (.int .i64 r2)), (1, .iface 30 (.int .i64 a1)), (2, .bool a2), (6, .bool false), (7, .nilIface), (8, .bool false), (9, .iface 183 (.agg #[.string a0, .iface 30 (.int .i64 a0_1)])), (14, .bool a2), (15, .bool a2), (19, .bool (a2 && (r2 == a1))), (20, .tuple #[.nilIface, .bool false]), (21, .iface 30 (.int .i64 r2)), (22, .tuple #[.nilIface, .bool false]), (23, .nilIface), (24, .bool false), (25, .bool false), (26, .bool false), (27, .tuple #[]), (28, .tuple #[]), (29, .tuple #[]), (30, .bool false), (31, .iface 30 (.int .i64 r2)), (32, .tuple #[.nilIface, .bool false]), (33, .bool false), (34, .nilIface), (35, .iface 183 (.agg #[.string a0, .iface 30 (.int .i64 a0_1)])), (36, .iface 30 (.int .i64 r2)), (37, .iface 30 (.int .i64 r2)), (38, .bool false), (39, .tuple #[.nilIface, .bool false]), (40, .bool false), (41, .nilIface)]) (fun _ => []) (fun _ => []) (fun _ => by kernel_rfl) (fun _ => ?_)
    obtain rfl := Option.some.inj hM
    exact WP.ret [] [] (.bool false) (by kernel_rfl) (fun w' hw => ⟨rfl, hw.pick [] rfl⟩)

end Go.Proofs.YtbodofjnfmjbpaaGreatDoor

namespace Go.Proofs.YtbodofjnfmjbpaaGreatDoor
open Go Eng
set_option linter.unusedVariables false
set_option linter.unusedSimpArgs false

/-! ### errors.Is: function 83 -/
def errors_Is_1.f (a0 : ByteArray) (a0_1 : Int) (a1 : Int) : Option (Bool) :=
  (errors_is.f a0 a0_1 a1 true).bind fun r1 =>
  some r1

set_option maxRecDepth 100000 in
theorem errors_Is_1_calls (a0 : ByteArray) (a0_1 : Int) (a1 : Int) (r : Bool) (h : errors_Is_1.f a0 a0_1 a1 = some r) : Pure Tryz.prog Glob 83 #[.iface 183 (.agg #[.string a0, .iface 30 (.int .i64 a0_1)]), .iface 30 (.int .i64 a1)] (.bool r) := by
  intro w Z hS
  refine calls_of (args := [.iface 183 (.agg #[.string a0, .iface 30 (.int .i64 a0_1)]), .iface 30 (.int .i64 a1)]) (L := [(0, .iface 183 (.agg #[.string a0, .iface 30 (.int .i64 a0_1)])), (1, .iface 30 (.int .i64 a1))]) (N := 22) (S := Sat w Z [] [] Glob) Tryz.func83 rfl rfl (Nat.le_of_ble_eq_true rfl) rfl hS ?_
  have hM := h
  clear h hS
  unfold errors_Is_1.f at hM
  refine WP.seq ?_
  refine WP.run [] [0, 1, 4] (fun _ => [(0, .iface 183 (.agg #[.string a0, .iface 30 (.int .i64 a0_1)])), (1, .iface 30 (.int .i64 a1)), (4, .bool false)]) (fun _ => []) (fun _ => []) (fun _ => by kernel_rfl) (fun _ => ?_)
  refine WP.seq ?_
  refine WP.seq ?_
  refine WP.run [] [0, 1, 4, 11] (fun _ => [(0, .iface 183 (.agg #[.string a0, .iface 30 (.int .i64 a0_1)])), (1, .iface 30 (.int .i64 a1)), (4, .bool false), (11, .bool false)]) (fun _ => []) (fun _ => []) (fun _ => by kernel_rfl) (fun _ => ?_)
  refine WP.no rfl rfl ?_
  refine WP.skip ?_
  refine WP.seq ?_
  refine WP.run [] [0, 1, 4, 5] (fun _ => [(0, .iface 183 (.agg #[.string a0, .iface 30 (.int .i64 a0_1)])), (1, .iface 30 (.int .i64 a1)), (4, .bool false), (5, .bool true)]) (fun _ => []) (fun _ => []) (fun _ => by kernel_rfl) (fun _ => ?_)
  refine WP.seq ?_
  refine WP.region ?_
  refine WL.run 3 [] [4, 18, 19, 20] (fun _ => [(4, .bool false), (18, .iface 183 (.agg #[.string a0, .iface 30 (.int .i64 a0_1)])), (19, .iface 30 (.int .i64 a1)), (20, .bool true)]) (fun _ => []) (fun _ => []) (fun _ => by kernel_rfl) (fun _ => ?_)
  obtain ⟨r1, h2, hM⟩ := bind_some hM
  refine WL.callP [] [] (errors_is_calls a0 a0_1 a1 true _ h2) (fun _ h => h) (by kernel_rfl) (by kernel_rfl) rfl ?_
  refine WL.run 1 [] [4] (fun _ => [(4, .bool r1)]) (fun _ => []) (fun _ => []) (fun _ => by kernel_rfl) (fun _ => ?_)
  refine WP.done ?_
  obtain rfl := Option.some.inj hM
  exact WP.ret [] [] (.bool r1) (by kernel_rfl) (fun w' hw => ⟨rfl, hw.pick [] rfl⟩)

end Go.Proofs.YtbodofjnfmjbpaaGreatDoor

namespace Go.Proofs.YtbodofjnfmjbpaaGreatDoor
open Go Eng
set_option linter.unusedVariables false
set_option linter.unusedSimpArgs false

/-! ### errors.as: function 62 -/
def errors_as_1.f (a0 : ByteArray) (a0_1 : Int) (a1 : Int) : Option (Bool × Int) :=
  (ether_odd_Unwrap.f a0 a0_1).bind fun r3 =>
  some (true, r3)

set_option maxRecDepth 100000 in
theorem errors_as_1_calls (b_0 : Nat) (b_1 : Nat) (a0 : ByteArray) (a0_1 : Int) (a1 : Int) (r : Bool × Int) (h : errors_as_1.f a0 a0_1 a1 = some r) : Does Tryz.prog 62 #[.iface 183 (.agg #[.string a0, .iface 30 (.int .i64 a0_1)]), .iface 175 (.pointer (some ⟨b_0, 0, none⟩)), .agg #[.pointer (some ⟨2, 175, none⟩), .pointer (some ⟨b_1, 0, none⟩), .int .u64 150], .iface 148 (.agg #[.pointer (some ⟨2, 30, none⟩)])] [(b_0, .cells #[.int .i64 a1] 30 (0, 0)), (b_1, .cells #[.pointer (some ⟨b_0, 0, none⟩)] 175 (0, 0))] Glob (fun _ : Unit => .bool r.1) (fun _ => [(b_0, .cells #[.int .i64 r.2] 30 (0, 0)), (b_1, .cells #[.pointer (some ⟨b_0, 0, none⟩)] 175 (0, 0))]) (fun _ => []) (fun _ => Glob) := by
  intro w Z hS
  refine calls_of (args := [.iface 183 (.agg #[.string a0, .iface 30 (.int .i64 a0_1)]), .iface 175 (.pointer (some ⟨b_0, 0, none⟩)), .agg #[.pointer (some ⟨2, 175, none⟩), .pointer (some ⟨b_1, 0, none⟩), .int .u64 150], .iface 148 (.agg #[.pointer (some ⟨2, 30, none⟩)])]) (L := [(0, .iface 183 (.agg #[.string a0, .iface 30 (.int .i64 a0_1)])), (1, .iface 175 (.pointer (some ⟨b_0, 0, none⟩))), (2, .agg #[.pointer (some ⟨2, 175, none⟩), .pointer (some ⟨b_1, 0, none⟩), .int .u64 150]), (3, .iface 148 (.agg #[.pointer (some ⟨2, 30, none⟩)]))]) (N := 62) (S := Sat w Z [(b_0, .cells #[.int .i64 a1] 30 (0, 0)), (b_1, .cells #[.pointer (some ⟨b_0, 0, none⟩)] 175 (0, 0))] [] Glob) Tryz.func62 rfl rfl (Nat.le_of_ble_eq_true rfl) rfl hS ?_
  have hM := h
  clear h hS
  unfold errors_as_1.f at hM
  refine WP.seq ?_
  refine WP.run [] [0, 1, 3, 6, 8] (fun b1 => [(0, .iface 183 (.agg #[.string a0, .iface 30 (.int .i64 a0_1)])), (1, .iface 175 (.pointer (some ⟨b_0, 0, none⟩))), (3, .iface 148 (.agg #[.pointer (some ⟨2, 30, none⟩)])), (6, .pointer (some ⟨b1, 0, none⟩)), (8, .bool false)]) (fun b1 => [(b_0, .cells #[.int .i64 a1] 30 (0, 0)), (b_1, .cells #[.pointer (some ⟨b_0, 0, none⟩)] 175 (0, 0)), (b1, .cells #[.pointer (some ⟨2, 175, none⟩), .pointer (some ⟨b_1, 0, none⟩), .int .u64 150] 106 (0, 0))]) (fun b1 => []) (fun b1 => by kernel_rfl) (fun b1 => ?_)
  refine WP.block ?_
  refine WP.unroll 40 ?_
  refine WP.block ?_
  refine WP.seq ?_
  refine WP.seq ?_
  refine WP.run [] [0, 1, 3, 6, 8, 16, 17, 18, 19] (fun _ => [(0, .iface 183 (.agg #[.string a0, .iface 30 (.int .i64 a0_1)])), (1, .iface 175 (.pointer (some ⟨b_0, 0, none⟩))), (3, .iface 148 (.agg #[.pointer (some ⟨2, 30, none⟩)])), (6, .pointer (some ⟨b1, 0, none⟩)), (8, .bool false), (16, .iface 183 (.agg #[.string a0, .iface 30 (.int .i64 a0_1)])), (17, .iface 148 (.agg #[.pointer (some ⟨2, 183, none⟩)])), (18, .iface 148 (.agg #[.pointer (some ⟨2, 30, none⟩)])), (19, .bool false)]) (fun _ => [(b_0, .cells #[.int .i64 a1] 30 (0, 0)), (b_1, .cells #[.pointer (some ⟨b_0, 0, none⟩)] 175 (0, 0)), (b1, .cells #[.pointer (some ⟨2, 175, none⟩), .pointer (some ⟨b_1, 0, none⟩), .int .u64 150] 106 (0, 0))]) (fun _ => []) (fun _ => by kernel_rfl) (fun _ => ?_)
  refine WP.no rfl rfl ?_
  refine WP.skip ?_
  refine WP.seq ?_
  refine WP.seq ?_
  refine WP.region ?_
  refine WL.run 1 [] [0, 1, 3, 6, 8, 16, 17, 18, 19, 26] (fun _ => [(0, .iface 183 (.agg #[.string a0, .iface 30 (.int .i64 a0_1)])), (1, .iface 175 (.pointer (some ⟨b_0, 0, none⟩))), (3, .iface 148 (.agg #[.pointer (some ⟨2, 30, none⟩)])), (6, .pointer (some ⟨b1, 0, none⟩)), (8, .bool false), (16, .iface 183 (.agg #[.string a0, .iface 30 (.int .i64 a0_1)])), (17, .iface 148 (.agg #[.pointer (some ⟨2, 183, none⟩)])), (18, .iface 148 (.agg #[.pointer (some ⟨2, 30, none⟩)])), (19, .bool false), (26, .iface 183 (.agg #[.string a0, .iface 30 (.int .i64 a0_1)]))]) (fun _ => [(b_0, .cells #[.int .i64 a1] 30 (0, 0)), (b_1, .cells #[.pointer (some ⟨b_0, 0, none⟩)] 175 (0, 0)), (b1, .cells #[.pointer (some ⟨2, 175, none⟩), .pointer (some ⟨b_1, 0, none⟩), .int .u64 150] 106 (0, 0))]) (fun _ => []) (fun _ => by kernel_rfl) (fun _ => ?_)
  refine WL.val (fun _ => run_assertLacks (t := 183) (v := .agg #[.string a0, .iface 30 (.int .i64 a0_1)]) (z := .nilIface) (by kernel_rfl) (by kernel_rfl) (by kernel_rfl)) (by kernel_rfl) (by kernel_rfl) rfl ?_
  refine WL.run 5 [] [0, 1, 3, 6, 8, 9, 10, 16, 17, 18, 19, 25, 26, 27, 28, 29] (fun _ => [(0, .iface 183 (.agg #[.string a0, .iface 30 (.int .i64 a0_1)])), (1, .iface 175 (.pointer (some ⟨b_0, 0, none⟩))), (3, .iface 148 (.agg #[.pointer (some ⟨2, 30, none⟩)])), (6, .pointer (some ⟨b1, 0, none⟩)), (8, .bool false), (9, .nilIface), (10, .bool false), (16, .iface 183 (.agg #[.string a0, .iface 30 (.int .i64 a0_1)])), (17, .iface 148 (.agg #[.pointer (some ⟨2, 183, none⟩)])), (18, .iface 148 (.agg #[.pointer (some ⟨2, 30, none⟩)])), (19, .bool false), (25, .tuple #[.nilIface, .bool false]), (26, .iface 183 (.agg #[.string a0, .iface 30 (.int .i64 a0_1)])), (27, .tuple #[.nilIface, .bool false]), (28, .nilIface), (29, .bool false)]) (fun _ => [(b_0, .cells #[.int .i64 a1] 30 (0, 0)), (b_1, .cells #[.pointer (some ⟨b_0, 0, none⟩)] 175 (0, 0)), (b1, .cells #[.pointer (some ⟨2, 175, none⟩), .pointer (some ⟨b_1, 0, none⟩), .int .u64 150] 106 (0, 0))]) (fun _ => []) (fun _ => by kernel_rfl) (fun _ => ?_)
  refine WP.done ?_
  refine WP.seq ?_
  refine WP.run [] [0, 1, 3, 6, 8, 9, 10, 16, 17, 18, 19, 25, 26, 27, 28, 29, 30, 31, 32, 33, 34, 35] (fun _ => [(0, .iface 183 (.agg #[.string a0, .iface 30 (.int .i64 a0_1)])), (1, .iface 175 (.pointer (some ⟨b_0, 0, none⟩))), (3, .iface 148 (.agg #[.pointer (some ⟨2, 30, none⟩)])), (6, .pointer (some ⟨b1, 0, none⟩)), (8, .bool false), (9, .nilIface), (10, .bool false), (16, .iface 183 (.agg #[.string a0, .iface 30 (.int .i64 a0_1)])), (17, .iface 148 (.agg #[.pointer (some ⟨2, 183, none⟩)])), (18, .iface 148 (.agg #[.pointer (some ⟨2, 30, none⟩)])), (19, .bool false), (25, .tuple #[.nilIface, .bool false]), (26, .iface 183 (.agg #[.string a0, .iface 30 (.int .i64 a0_1)])), (27, .tuple #[.nilIface, .bool false]), (28, .nilIface), (29, .bool false), (30, .bool false), (31, .bool false), (32, .tuple #[]), (33, .tuple #[]), (34, .tuple #[]), (35, .bool false)]) (fun _ => [(b_0, .cells #[.int .i64 a1] 30 (0, 0)), (b_1, .cells #[.pointer (some ⟨b_0, 0, none⟩)] 175 (0, 0)), (b1, .cells #[.pointer (some ⟨2, 175, none⟩), .pointer (some ⟨b_1, 0, none⟩), .int .u64 150] 106 (0, 0))]) (fun _ => []) (fun _ => by kernel_rfl) (fun _ => ?_)
  refine WP.no rfl rfl ?_
  refine WP.skip ?_
  refine WP.seq ?_
  refine WP.run [] [0, 1, 3, 6, 8, 9, 10, 16, 17, 18, 19, 25, 26, 27, 28, 29, 30, 31, 32, 33, 34, 35, 36] (fun _ => [(0, .iface 183 (.agg #[.string a0, .iface 30 (.int .i64 a0_1)])), (1, .iface 175 (.pointer (some ⟨b_0, 0, none⟩))), (3, .iface 148 (.agg #[.pointer (some ⟨2, 30, none⟩)])), (6, .pointer (some ⟨b1, 0, none⟩)), (8, .bool false), (9, .nilIface), (10, .bool false), (16, .iface 183 (.agg #[.string a0, .iface 30 (.int .i64 a0_1)])), (17, .iface 148 (.agg #[.pointer (some ⟨2, 183, none⟩)])), (18, .iface 148 (.agg #[.pointer (some ⟨2, 30, none⟩)])), (19, .bool false), (25, .tuple #[.nilIface, .bool false]), (26, .iface 183 (.agg #[.string a0, .iface 30 (.int .i64 a0_1)])), (27, .tuple #[.nilIface, .bool false]), (28, .nilIface), (29, .bool false), (30, .bool false), (31, .bool false), (32, .tuple #[]), (33, .tuple #[]), (34, .tuple #[]), (35, .bool false), (36, .iface 183 (.agg #[.string a0, .iface 30 (.int .i64 a0_1)]))]) (fun _ => [(b_0, .cells #[.int .i64 a1] 30 (0, 0)), (b_1, .cells #[.pointer (some ⟨b_0, 0, none⟩)] 175 (0, 0)), (b1, .cells #[.pointer (some ⟨2, 175, none⟩), .pointer (some ⟨b_1, 0, none⟩), .int .u64 150] 106 (0, 0))]) (fun _ => []) (fun _ => by kernel_rfl) (fun _ => ?_)
  refine WP.block ?_
  refine WP.seq ?_
  refine WP.region ?_
  refine WL.val (fun _ => run_assertHas (t := 183) (v := .agg #[.string a0, .iface 30 (.int .i64 a0_1)]) (by kernel_rfl) (by kernel_rfl)) (by kernel_rfl) (by kernel_rfl) rfl ?_
  refine WL.run 2 [] [0, 1, 3, 6, 8, 9, 10, 16, 17, 18, 19, 25, 26, 27, 28, 29, 30, 31, 32, 33, 34, 35, 36, 37, 38, 39] (fun _ => [(0, .iface 183 (.agg #[.string a0, .iface 30 (.int .i64 a0_1)])), (1, .iface 175 (.pointer (some ⟨b_0, 0, none⟩))), (3, .iface 148 (.agg #[.pointer (some ⟨2, 30, none⟩)])), (6, .pointer (some ⟨b1, 0, none⟩)), (8, .bool false), (9, .nilIface), (10, .bool false), (16, .iface 183 (.agg #[.string a0, .iface 30 (.int .i64 a0_1)])), (17, .iface 148 (.agg #[.pointer (some ⟨2, 183, none⟩)])), (18, .iface 148 (.agg #[.pointer (some ⟨2, 30, none⟩)])), (19, .bool false), (25, .tuple #[.nilIface, .bool false]), (26, .iface 183 (.agg #[.string a0, .iface 30 (.int .i64 a0_1)])), (27, .tuple #[.nilIface, .bool false]), (28, .nilIface), (29, .bool false), (30, .bool false), (31, .bool false), (32, .tuple #[]), (33, .tuple #[]), (34, .tuple #[]), (35, .bool false), (36, .iface 183 (.agg #[.string a0, .iface 30 (.int .i64 a0_1)])), (37, .tuple #[.iface 183 (.agg #[.string a0, .iface 30 (.int .i64 a0_1)]), .bool true]), (38, .bool true), (39, .iface 183 (.agg #[.string a0, .iface 30 (.int .i64 a0_1)]))]) (fun _ => [(b_0, .cells #[.int .i64 a1] 30 (0, 0)), (b_1, .cells #[.pointer (some ⟨b_0, 0, none⟩)] 175 (0, 0)), (b1, .cells #[.pointer (some ⟨2, 175, none⟩), .pointer (some ⟨b_1, 0, none⟩), .int .u64 150] 106 (0, 0))]) (fun _ => []) (fun _ => by kernel_rfl) (fun _ => ?_)
  refine WP.done ?_
  refine WP.yes rfl rfl ?_
  refine WP.seq ?_
  refine WP.run [] [0, 1, 3, 6, 8, 9, 10, 11, 16, 17, 18, 19, 25, 26, 27, 28, 29, 30, 31, 32, 33, 34, 35, 36, 37, 38, 39] (fun _ => [(0, .iface 183 (.agg #[.string a0, .iface 30 (.int .i64 a0_1)])), (1, .iface 175 (.pointer (some ⟨b_0, 0, none⟩))), (3, .iface 148 (.agg #[.pointer (some ⟨2, 30, none⟩)])), (6, .pointer (some ⟨b1, 0, none⟩)), (8, .bool false), (9, .nilIface), (10, .bool false), (11, .iface 183 (.agg #[.string a0, .iface 30 (.int .i64 a0_1)])), (16, .iface 183 (.agg #[.string a0, .iface 30 (.int .i64 a0_1)])), (17, .iface 148 (.agg #[.pointer (some ⟨2, 183, none⟩)])), (18, .iface 148 (.agg #[.pointer (some ⟨2, 30, none⟩)])), (19, .bool false), (25, .tuple #[.nilIface, .bool false]), (26, .iface 183 (.agg #[.string a0, .iface 30 (.int .i64 a0_1)])), (27, .tuple #[.nilIface, .bool false]), (28, .nilIface), (29, .bool false), (30, .bool false), (31, .bool false), (32, .tuple #[]), (33, .tuple #[]), (34, .tuple #[]), (35, .bool false), (36, .iface 183 (.agg #[.string a0, .iface 30 (.int .i64 a0_1)])), (37, .tuple #[.iface 183 (.agg #[.string a0, .iface 30 (.int .i64 a0_1)]), .bool true]), (38, .bool true), (39, .iface 183 (.agg #[.string a0, .iface 30 (.int .i64 a0_1)]))]) (fun _ => [(b_0, .cells #[.int .i64 a1] 30 (0, 0)), (b_1, .cells #[.pointer (some ⟨b_0, 0, none⟩)] 175 (0, 0)), (b1, .cells #[.pointer (some ⟨2, 175, none⟩), .pointer (some ⟨b_1, 0, none⟩), .int .u64 150] 106 (0, 0))]) (fun _ => []) (fun _ => by kernel_rfl) (fun _ => ?_)
  refine WP.seq ?_
  refine WP.region ?_
  refine WL.run 1 [] [0, 1, 3, 6, 8, 9, 10, 11, 16, 17, 18, 19, 25, 26, 27, 28, 29, 30, 31, 32, 33, 34, 35, 36, 37, 38, 39, 40] (fun _ => [(0, .iface 183 (.agg #[.string a0, .iface 30 (.int .i64 a0_1)])), (1, .iface 175 (.pointer (some ⟨b_0, 0, none⟩))), (3, .iface 148 (.agg #[.pointer (some ⟨2, 30, none⟩)])), (6, .pointer (some ⟨b1, 0, none⟩)), (8, .bool false), (9, .nilIface), (10, .bool false), (11, .iface 183 (.agg #[.string a0, .iface 30 (.int .i64 a0_1)])), (16, .iface 183 (.agg #[.string a0, .iface 30 (.int .i64 a0_1)])), (17, .iface 148 (.agg #[.pointer (some ⟨2, 183, none⟩)])), (18, .iface 148 (.agg #[.pointer (some ⟨2, 30, none⟩)])), (19, .bool false), (25, .tuple #[.nilIface, .bool false]), (26, .iface 183 (.agg #[.string a0, .iface 30 (.int .i64 a0_1)])), (27, .tuple #[.nilIface, .bool false]), (28, .nilIface), (29, .bool false), (30, .bool false), (31, .bool false), (32, .tuple #[]), (33, .tuple #[]), (34, .tuple #[]), (35, .bool false), (36, .iface 183 (.agg #[.string a0, .iface 30 (.int .i64 a0_1)])), (37, .tuple #[.iface 183 (.agg #[.string a0, .iface 30 (.int .i64 a0_1)]), .bool true]), (38, .bool true), (39, .iface 183 (.agg #[.string a0, .iface 30 (.int .i64 a0_1)])), (40, .iface 183 (.agg #[.string a0, .iface 30 (.int .i64 a0_1)]))]) (fun _ => [(b_0, .cells #[.int .i64 a1] 30 (0, 0)), (b_1, .cells #[.pointer (some ⟨b_0, 0, none⟩)] 175 (0, 0)), (b1, .cells #[.pointer (some ⟨2, 175, none⟩), .pointer (some ⟨b_1, 0, none⟩), .int .u64 150] 106 (0, 0))]) (fun _ => []) (fun _ => by kernel_rfl) (fun _ => ?_)
  obtain ⟨r3, h4, hM⟩ := bind_some hM
  refine WL.callP [] [] (ether_odd_Unwrap_calls a0 a0_1 _ h4) (fun _ h => h) (by kernel_rfl) (by kernel_rfl) rfl ?_
  refine WL.run 1 [] [0, 1, 3, 6, 8, 9, 10, 11, 16, 17, 18, 19, 25, 26, 27, 28, 29, 30, 31, 32, 33, 34, 35, 36, 37, 38, 39, 40, 41] (fun _ => [(0, .iface 30 (.int .i64 r3)), (1, .iface 175 (.pointer (some ⟨b_0, 0, none⟩))), (3, .iface 148 (.agg #[.pointer (some ⟨2, 30, none⟩)])), (6, .pointer (some ⟨b1, 0, none⟩)), (8, .bool false), (9, .nilIface), (10, .bool false), (11, .iface 183 (.agg #[.string a0, .iface 30 (.int .i64 a0_1)])), (16, .iface 183 (.agg #[.string a0, .iface 30 (.int .i64 a0_1)])), (17, .iface 148 (.agg #[.pointer (some ⟨2, 183, none⟩)])), (18, .iface 148 (.agg #[.pointer (some ⟨2, 30, none⟩)])), (19, .bool false), (25, .tuple #[.nilIface, .bool false]), (26, .iface 183 (.agg #[.string a0, .iface 30 (.int .i64 a0_1)])), (27, .tuple #[.nilIface, .bool false]), (28, .nilIface), (29, .bool false), (30, .bool false), (31, .bool false), (32, .tuple #[]), (33, .tuple #[]), (34, .tuple #[]), (35, .bool false), (36, .iface 183 (.agg #[.string a0, .iface 30 (.int .i64 a0_1)])), (37, .tuple #[.iface 183 (.agg #[.string a0, .iface 30 (.int .i64 a0_1)]), .bool true]), (38, .bool true), (39, .iface 183 (.agg #[.string a0, .iface 30 (.int .i64 a0_1)])), (40, .iface 183 (.agg #[.string a0, .iface 30 (.int .i64 a0_1)])), (41, .iface 30 (.int .i64 r3))]) (fun _ => [(b_0, .cells #[.int .i64 a1] 30 (0, 0)), (b_1, .cells #[.pointer (some ⟨b_0, 0, none⟩)] 175 (0, 0)), (b1, .cells #[.pointer (some ⟨2, 175, none⟩), .pointer (some ⟨b_1, 0, none⟩), .int .u64 150] 106 (0, 0))]) (fun _ => []) (fun _ => by kernel_rfl) (fun _ => ?_)
  refine WP.done ?_
  refine WP.seq ?_
  refine WP.run [] [0, 1, 3, 6, 8, 9, 10, 11, 16, 17, 18, 19, 25, 26, 27, 28, 29, 30, 31, 32, 33, 34, 35, 36, 37, 38, 39, 40, 41, 42, 43] (fun _ => [(0, .iface 30 (.int .i64 r3)), (1, .iface 175 (.pointer (some ⟨b_0, 0, none⟩))), (3, .iface 148 (.agg #[.pointer (some ⟨2, 30, none⟩)])), (6, .pointer (some ⟨b1, 0, none⟩)), (8, .bool false), (9, .nilIface), (10, .bool false), (11, .iface 183 (.agg #[.string a0, .iface 30 (.int .i64 a0_1)])), (16, .iface 183 (.agg #[.string a0, .iface 30 (.int .i64 a0_1)])), (17, .iface 148 (.agg #[.pointer (some ⟨2, 183, none⟩)])), (18, .iface 148 (.agg #[.pointer (some ⟨2, 30, none⟩)])), (19, .bool false), (25, .tuple #[.nilIface, .bool false]), (26, .iface 183 (.agg #[.string a0, .iface 30 (.int .i64 a0_1)])), (27, .tuple #[.nilIface, .bool false]), (28, .nilIface), (29, .bool false), (30, .bool false), (31, .bool false), (32, .tuple #[]), (33, .tuple #[]), (34, .tuple #[]), (35, .bool false), (36, .iface 183 (.agg #[.string a0, .iface 30 (.int .i64 a0_1)])), (37, .tuple #[.iface 183 (.agg #[.string a0, .iface 30 (.int .i64 a0_1)]), .bool true]), (38, .bool true), (39, .iface 183 (.agg #[.string a0, .iface 30 (.int .i64 a0_1)])), (40, .iface 183 (.agg #[.string a0, .iface 30 (.int .i64 a0_1)])), (41, .iface 30 (.int .i64 r3)), (42, .iface 30 (.int .i64 r3)), (43, .bool false)]) (fun _ => [(b_0, .cells #[.int .i64 a1] 30 (0, 0)), (b_1, .cells #[.pointer (some ⟨b_0, 0, none⟩)] 175 (0, 0)), (b1, .cells #[.pointer (some ⟨2, 175, none⟩), .pointer (some ⟨b_1, 0, none⟩), .int .u64 150] 106 (0, 0))]) (fun _ => []) (fun _ => by kernel_rfl) (fun _ => ?_)
  refine WP.no rfl rfl ?_
  refine WP.skip ?_
  refine WP.leave ?_
  refine WP.leave ?_
  refine WP.round ?_
  refine WP.block ?_
  refine WP.seq ?_
  refine WP.seq ?_
  refine WP.run [] [0, 1, 3, 6, 8, 9, 10, 11, 16, 17, 18, 19, 25, 26, 27, 28, 29, 30, 31, 32, 33, 34, 35, 36, 37, 38, 39, 40, 41, 42, 43] (fun _ => [(0, .iface 30 (.int .i64 r3)), (1, .iface 175 (.pointer (some ⟨b_0, 0, none⟩))), (3, .iface 148 (.agg #[.pointer (some ⟨2, 30, none⟩)])), (6, .pointer (some ⟨b1, 0, none⟩)), (8, .bool false), (9, .nilIface), (10, .bool false), (11, .iface 183 (.agg #[.string a0, .iface 30 (.int .i64 a0_1)])), (16, .iface 30 (.int .i64 r3)), (17, .iface 148 (.agg #[.pointer (some ⟨2, 30, none⟩)])), (18, .iface 148 (.agg #[.pointer (some ⟨2, 30, none⟩)])), (19, .bool true), (25, .tuple #[.nilIface, .bool false]), (26, .iface 183 (.agg #[.string a0, .iface 30 (.int .i64 a0_1)])), (27, .tuple #[.nilIface, .bool false]), (28, .nilIface), (29, .bool false), (30, .bool false), (31, .bool false), (32, .tuple #[]), (33, .tuple #[]), (34, .tuple #[]), (35, .bool false), (36, .iface 183 (.agg #[.string a0, .iface 30 (.int .i64 a0_1)])), (37, .tuple #[.iface 183 (.agg #[.string a0, .iface 30 (.int .i64 a0_1)]), .bool true]), (38, .bool true), (39, .iface 183 (.agg #[.string a0, .iface 30 (.int .i64 a0_1)])), (40, .iface 183 (.agg #[.string a0, .iface 30 (.int .i64 a0_1)])), (41, .iface 30 (.int .i64 r3)), (42, .iface 30 (.int .i64 r3)), (43, .bool false)]) (fun _ => [(b_0, .cells #[.int .i64 a1] 30 (0, 0)), (b_1, .cells #[.pointer (some ⟨b_0, 0, none⟩)] 175 (0, 0)), (b1, .cells #[.pointer (some ⟨2, 175, none⟩), .pointer (some ⟨b_1, 0, none⟩), .int .u64 150] 106 (0, 0))]) (fun _ => []) (fun _ => by kernel_rfl) (fun _ => ?_)
  refine WP.yes rfl rfl ?_
  refine WP.seq ?_
  refine WP.run [2, 2, 2, 1, 3, 0] [0, 1, 3, 6, 8, 9, 10, 11, 16, 17, 18, 19, 20, 21, 22, 23, 25, 26, 27, 28, 29, 30, 31, 32, 33, 34, 35, 36, 37, 38, 39, 40, 41, 42, 43] (fun b5 => [(0, .iface 30 (.int .i64 r3)), (1, .iface 175 (.pointer (some ⟨b_0, 0, none⟩))), (3, .iface 148 (.agg #[.pointer (some ⟨2, 30, none⟩)])), (6, .pointer (some ⟨b1, 0, none⟩)), (8, .bool false), (9, .nilIface), (10, .bool false), (11, .iface 183 (.agg #[.string a0, .iface 30 (.int .i64 a0_1)])), (16, .iface 30 (.int .i64 r3)), (17, .iface 148 (.agg #[.pointer (some ⟨2, 30, none⟩)])), (18, .iface 148 (.agg #[.pointer (some ⟨2, 30, none⟩)])), (19, .bool true), (20, .agg #[.pointer (some ⟨2, 175, none⟩), .pointer (some ⟨b_1, 0, none⟩), .int .u64 150]), (21, .agg #[.pointer (some ⟨2, 30, none⟩), .pointer (some ⟨b_0, 0, none⟩), .int .u64 386]), (22, .iface 30 (.int .i64 r3)), (23, .agg #[.pointer (some ⟨2, 30, none⟩), .pointer (some ⟨b5, 0, none⟩), .int .u64 130]), (25, .tuple #[.nilIface, .bool false]), (26, .iface 183 (.agg #[.string a0, .iface 30 (.int .i64 a0_1)])), (27, .tuple #[.nilIface, .bool false]), (28, .nilIface), (29, .bool false), (30, .bool false), (31, .bool false), (32, .tuple #[]), (33, .tuple #[]), (34, .tuple #[]), (35, .bool false), (36, .iface 183 (.agg #[.string a0, .iface 30 (.int .i64 a0_1)])), (37, .tuple #[.iface 183 (.agg #[.string a0, .iface 30 (.int .i64 a0_1)]), .bool true]), (38, .bool true), (39, .iface 183 (.agg #[.string a0, .iface 30 (.int .i64 a0_1)])), (40, .iface 183 (.agg #[.string a0, .iface 30 (.int .i64 a0_1)])), (41, .iface 30 (.int .i64 r3)), (42, .iface 30 (.int .i64 r3)), (43, .bool false)]) (fun b5 => [(b_0, .cells #[.int .i64 r3] 30 (0, 0)), (b_1, .cells #[.pointer (some ⟨b_0, 0, none⟩)] 175 (0, 0)), (b1, .cells #[.pointer (some ⟨2, 175, none⟩), .pointer (some ⟨b_1, 0, none⟩), .int .u64 150] 106 (0, 0)), (b5, .cells #[.int .i64 r3] 30 (0, 0))]) (fun b5 => [b_0, b5, b_1, b1, b1, b1]) (fun b5 => by kernel_rfl) (fun b5 => ?_)
  refine WP.seq ?_
  refine WP.run [] [0, 1, 3, 6, 8, 9, 10, 11, 16, 17, 18, 19, 20, 21, 22, 23, 25, 26, 27, 28, 29, 30, 31, 32, 33, 34, 35, 36, 37, 38, 39, 40, 41, 42, 43] (fun _ => [(0, .iface 30 (.int .i64 r3)), (1, .iface 175 (.pointer (some ⟨b_0, 0, none⟩))), (3, .iface 148 (.agg #[.pointer (some ⟨2, 30, none⟩)])), (6, .pointer (some ⟨b1, 0, none⟩)), (8, .bool true), (9, .nilIface), (10, .bool false), (11, .iface 183 (.agg #[.string a0, .iface 30 (.int .i64 a0_1)])), (16, .iface 30 (.int .i64 r3)), (17, .iface 148 (.agg #[.pointer (some ⟨2, 30, none⟩)])), (18, .iface 148 (.agg #[.pointer (some ⟨2, 30, none⟩)])), (19, .bool true), (20, .agg #[.pointer (some ⟨2, 175, none⟩), .pointer (some ⟨b_1, 0, none⟩), .int .u64 150]), (21, .agg #[.pointer (some ⟨2, 30, none⟩), .pointer (some ⟨b_0, 0, none⟩), .int .u64 386]), (22, .iface 30 (.int .i64 r3)), (23, .agg #[.pointer (some ⟨2, 30, none⟩), .pointer (some ⟨b5, 0, none⟩), .int .u64 130]), (25, .tuple #[.nilIface, .bool false]), (26, .iface 183 (.agg #[.string a0, .iface 30 (.int .i64 a0_1)])), (27, .tuple #[.nilIface, .bool false]), (28, .nilIface), (29, .bool false), (30, .bool false), (31, .bool false), (32, .tuple #[]), (33, .tuple #[]), (34, .tuple #[]), (35, .bool false), (36, .iface 183 (.agg #[.string a0, .iface 30 (.int .i64 a0_1)])), (37, .tuple #[.iface 183 (.agg #[.string a0, .iface 30 (.int .i64 a0_1)]), .bool true]), (38, .bool true), (39, .iface 183 (.agg #[.string a0, .iface 30 (.int .i64 a0_1)])), (40, .iface 183 (.agg #[.string a0, .iface 30 (.int .i64 a0_1)])), (41, .iface 30 (.int .i64 r3)), (42, .iface 30 (.int .i64 r3)), (43, .bool false)]) (fun _ => [(b_0, .cells #[.int .i64 r3] 30 (0, 0)), (b_1, .cells #[.pointer (some ⟨b_0, 0, none⟩)] 175 (0, 0)), (b1, .cells #[.pointer (some ⟨2, 175, none⟩), .pointer (some ⟨b_1, 0, none⟩), .int .u64 150] 106 (0, 0)), (b5, .cells #[.int .i64 r3] 30 (0, 0))]) (fun _ => []) (fun _ => by kernel_rfl) (fun _ => ?_)
  obtain rfl := Option.some.inj hM
  exact WP.ret [] [] (.bool true) (by kernel_rfl) (fun w' hw => ⟨(), rfl, hw.pick [0, 1] (by kernel_rfl)⟩)

end Go.Proofs.YtbodofjnfmjbpaaGreatDoor
