/- The walks of the functions that the laws reach: each shows that a call returns what its plain model says, wherever the model gives an answer. -/
import Derived.Test.YtbodofjnfmjbpaaGreatDoorF1
import Derived.Test.YtbodofjnfmjbpaaGreatDoorF3

namespace Go.Proofs.YtbodofjnfmjbpaaGreatDoor
open Go Eng
set_option linter.unusedVariables false
set_option linter.unusedSimpArgs false

/-! ### gangway/arp.Parse: function 56 -/
def arp_Parse.k1 (r4 : Int) (r7 : Int) (r10 : Int) (r13 : Int) (r16 : Int) (x25 : Bool) : Option (api_Arp × Int) :=
  bif x25 then
    some ((api_Arp.mk 0 0 0 0 0), 51)
  else
    some ((api_Arp.mk (i64 r4) r7 (u32 r10) r13 (u32 r16)), 0)

def arp_Parse.f (k : Nat) (a0 : ByteArray) : Option (api_Arp × Int) :=
  bif decide ((a0.size : Int) < 28) then
    some ((api_Arp.mk 0 0 0 0 0), 50)
  else
    (arp_Parse_1.f k 2 a0 6).bind fun (r4, r5) =>
    (arp_Parse_1.f k 6 a0 r5).bind fun (r7, r8) =>
    (arp_Parse_1.f k 4 a0 r8).bind fun (r10, r11) =>
    (arp_Parse_1.f k 6 a0 r11).bind fun (r13, r14) =>
    (arp_Parse_1.f k 4 a0 r14).bind fun (r16, r17) =>
    (strings_HasPrefix.f a0 (⟨#[0, 1, 8, 0, 6, 4]⟩ : ByteArray)).bind fun r20 =>
    bif !r20 then
      arp_Parse.k1 r4 r7 r10 r13 r16 true
    else
      (arp_Check.f (api_Arp.mk (i64 r4) r7 (u32 r10) r13 (u32 r16))).bind fun r23 =>
      arp_Parse.k1 r4 r7 r10 r13 r16 (r23 != 0)

set_option maxRecDepth 100000 in
theorem arp_Parse_calls (k : Nat) (a0 : ByteArray) (r : api_Arp × Int) (h : arp_Parse.f k a0 = some r) : Pure Tryz.prog Glob 56 #[.string a0] (.tuple #[.agg #[.int .i64 r.1.Op, .int .u64 r.1.SMac, .int .u32 r.1.SIp, .int .u64 r.1.TMac, .int .u32 r.1.TIp], .int .i64 r.2]) := by
  intro w Z hS
  refine calls_of (args := [.string a0]) (L := [(0, .string a0)]) (N := 36) (S := Sat w Z [] [] Glob) Tryz.func56 rfl rfl (Nat.le_of_ble_eq_true rfl) rfl hS ?_
  have hM := h
  clear h hS
  unfold arp_Parse.f at hM
  refine WP.seq ?_
  refine WP.run [] [1, 2, 3] (fun b1 => [(1, .pointer (some ⟨b1, 0, none⟩)), (2, .pointer (some ⟨(b1 + 1), 0, none⟩)), (3, .int .i64 0)]) (fun b1 => [(b1, .cells #[.string a0] 9 (0, 0)), ((b1 + 1), .cells #[.int .i64 0, .int .u64 0, .int .u32 0, .int .u64 0, .int .u32 0] 49 (0, 0))]) (fun b1 => []) (fun b1 => by kernel_rfl) (fun b1 => ?_)
  refine WP.seq ?_
  refine WP.seq ?_
  refine WP.run [0] [1, 2, 3, 9] (fun _ => [(1, .pointer (some ⟨b1, 0, none⟩)), (2, .pointer (some ⟨(b1 + 1), 0, none⟩)), (3, .int .i64 0), (9, .bool (decide ((a0.size : Int) < 28)))]) (fun _ => [(b1, .cells #[.string a0] 9 (0, 0)), ((b1 + 1), .cells #[.int .i64 0, .int .u64 0, .int .u32 0, .int .u64 0, .int .u32 0] 49 (0, 0))]) (fun _ => [b1]) (fun _ => by kernel_rfl) (fun _ => ?_)
  refine WP.cond (decide ((a0.size : Int) < 28)) rfl rfl (fun c2 => ?_) (fun c2 => ?_)
  · replace hM := cond_t hM c2
    refine WP.seq ?_
    refine WP.run [1, 1, 1, 1, 1] [1, 2, 3] (fun _ => [(1, .pointer (some ⟨b1, 0, none⟩)), (2, .pointer (some ⟨(b1 + 1), 0, none⟩)), (3, .int .i64 50)]) (fun _ => [(b1, .cells #[.string a0] 9 (0, 0)), ((b1 + 1), .cells #[.int .i64 0, .int .u64 0, .int .u32 0, .int .u64 0, .int .u32 0] 49 (0, 0))]) (fun _ => [(b1 + 1), (b1 + 1), (b1 + 1), (b1 + 1), (b1 + 1)]) (fun _ => by kernel_rfl) (fun _ => ?_)
    obtain rfl := Option.some.inj hM
    exact WP.ret [1, 1, 1, 1, 1] [(b1 + 1), (b1 + 1), (b1 + 1), (b1 + 1), (b1 + 1)] (.tuple #[.agg #[.int .i64 0, .int .u64 0, .int .u32 0, .int .u64 0, .int .u32 0], .int .i64 50]) (by kernel_rfl) (fun w' hw => ⟨rfl, hw.pick [] rfl⟩)
  · replace hM := cond_f hM c2
    refine WP.skip ?_
    refine WP.seq ?_
    refine WP.run [2] [1, 2, 3, 4] (fun b3 => [(1, .pointer (some ⟨b1, 0, none⟩)), (2, .pointer (some ⟨(b1 + 1), 0, none⟩)), (3, .int .i64 0), (4, .pointer (some ⟨b3, 0, none⟩))]) (fun b3 => [(b1, .cells #[.string a0] 9 (0, 0)), ((b1 + 1), .cells #[.int .i64 0, .int .u64 0, .int .u32 0, .int .u64 0, .int .u32 0] 49 (0, 0)), (b3, .cells #[.int .i64 6] 3 (0, 0))]) (fun b3 => [b3]) (fun b3 => by kernel_rfl) (fun b3 => ?_)
    refine WP.seq ?_
    refine WP.run [] [1, 2, 3, 5] (fun _ => [(1, .pointer (some ⟨b1, 0, none⟩)), (2, .pointer (some ⟨(b1 + 1), 0, none⟩)), (3, .int .i64 0), (5, .func (.func 86) #[] #[.pointer (some ⟨b1, 0, none⟩), .pointer (some ⟨b3, 0, none⟩)])]) (fun _ => [(b1, .cells #[.string a0] 9 (0, 0)), ((b1 + 1), .cells #[.int .i64 0, .int .u64 0, .int .u32 0, .int .u64 0, .int .u32 0] 49 (0, 0)), (b3, .cells #[.int .i64 6] 3 (0, 0))]) (fun _ => []) (fun _ => by kernel_rfl) (fun _ => ?_)
    refine WP.seq ?_
    refine WP.region ?_
    refine WL.run 1 [] [1, 2, 3, 5, 12] (fun _ => [(1, .pointer (some ⟨b1, 0, none⟩)), (2, .pointer (some ⟨(b1 + 1), 0, none⟩)), (3, .int .i64 0), (5, .func (.func 86) #[] #[.pointer (some ⟨b1, 0, none⟩), .pointer (some ⟨b3, 0, none⟩)]), (12, .func (.func 86) #[] #[.pointer (some ⟨b1, 0, none⟩), .pointer (some ⟨b3, 0, none⟩)])]) (fun _ => [(b1, .cells #[.string a0] 9 (0, 0)), ((b1 + 1), .cells #[.int .i64 0, .int .u64 0, .int .u32 0, .int .u64 0, .int .u32 0] 49 (0, 0)), (b3, .cells #[.int .i64 6] 3 (0, 0))]) (fun _ => []) (fun _ => by kernel_rfl) (fun _ => ?_)
    obtain ⟨⟨r4, r5⟩, h6, hM⟩ := bind_some hM
    dsimp only at hM
    refine WL.callE (X := Unit) [] [] [true, false, true] (fun _ => _) (arp_Parse_1_calls k b1 b3 2 a0 6 _ h6) rfl rfl (fun _ h => h) (by kernel_rfl) (by kernel_rfl) (fun _ => rfl) (fun _ => ?_)
    refine WL.run 2 [] [1, 2, 3, 5, 14, 15] (fun _ => [(1, .pointer (some ⟨b1, 0, none⟩)), (2, .pointer (some ⟨(b1 + 1), 0, none⟩)), (3, .int .i64 0), (5, .func (.func 86) #[] #[.pointer (some ⟨b1, 0, none⟩), .pointer (some ⟨b3, 0, none⟩)]), (14, .int .i64 (i64 r4)), (15, .func (.func 86) #[] #[.pointer (some ⟨b1, 0, none⟩), .pointer (some ⟨b3, 0, none⟩)])]) (fun _ => [(b1, .cells #[.string a0] 9 (0, 0)), (b3, .cells #[.int .i64 r5] 3 (0, 0)), ((b1 + 1), .cells #[.int .i64 0, .int .u64 0, .int .u32 0, .int .u64 0, .int .u32 0] 49 (0, 0))]) (fun _ => []) (fun _ => by kernel_rfl) (fun _ => ?_)
    obtain ⟨⟨r7, r8⟩, h9, hM⟩ := bind_some hM
    dsimp only at hM
    refine WL.callE (X := Unit) [] [] [true, true, false] (fun _ => _) (arp_Parse_1_calls k b1 b3 6 a0 r5 _ h9) rfl rfl (fun _ h => h) (by kernel_rfl) (by kernel_rfl) (fun _ => rfl) (fun _ => ?_)
    refine WL.run 1 [] [1, 2, 3, 5, 14, 16, 17] (fun _ => [(1, .pointer (some ⟨b1, 0, none⟩)), (2, .pointer (some ⟨(b1 + 1), 0, none⟩)), (3, .int .i64 0), (5, .func (.func 86) #[] #[.pointer (some ⟨b1, 0, none⟩), .pointer (some ⟨b3, 0, none⟩)]), (14, .int .i64 (i64 r4)), (16, .int .u64 r7), (17, .func (.func 86) #[] #[.pointer (some ⟨b1, 0, none⟩), .pointer (some ⟨b3, 0, none⟩)])]) (fun _ => [(b1, .cells #[.string a0] 9 (0, 0)), (b3, .cells #[.int .i64 r8] 3 (0, 0)), ((b1 + 1), .cells #[.int .i64 0, .int .u64 0, .int .u32 0, .int .u64 0, .int .u32 0] 49 (0, 0))]) (fun _ => []) (fun _ => by kernel_rfl) (fun _ => ?_)
    obtain ⟨⟨r10, r11⟩, h12, hM⟩ := bind_some hM
    dsimp only at hM
    refine WL.callE (X := Unit) [] [] [true, true, false] (fun _ => _) (arp_Parse_1_calls k b1 b3 4 a0 r8 _ h12) rfl rfl (fun _ h => h) (by kernel_rfl) (by kernel_rfl) (fun _ => rfl) (fun _ => ?_)
    refine WL.run 2 [] [1, 2, 3, 5, 14, 16, 19, 20] (fun _ => [(1, .pointer (some ⟨b1, 0, none⟩)), (2, .pointer (some ⟨(b1 + 1), 0, none⟩)), (3, .int .i64 0), (5, .func (.func 86) #[] #[.pointer (some ⟨b1, 0, none⟩), .pointer (some ⟨b3, 0, none⟩)]), (14, .int .i64 (i64 r4)), (16, .int .u64 r7), (19, .int .u32 (u32 r10)), (20, .func (.func 86) #[] #[.pointer (some ⟨b1, 0, none⟩), .pointer (some ⟨b3, 0, none⟩)])]) (fun _ => [(b1, .cells #[.string a0] 9 (0, 0)), (b3, .cells #[.int .i64 r11] 3 (0, 0)), ((b1 + 1), .cells #[.int .i64 0, .int .u64 0, .int .u32 0, .int .u64 0, .int .u32 0] 49 (0, 0))]) (fun _ => []) (fun _ => by kernel_rfl) (fun _ => ?_)
    obtain ⟨⟨r13, r14⟩, h15, hM⟩ := bind_some hM
    dsimp only at hM
    refine WL.callE (X := Unit) [] [] [true, true, false] (fun _ => _) (arp_Parse_1_calls k b1 b3 6 a0 r11 _ h15) rfl rfl (fun _ h => h) (by kernel_rfl) (by kernel_rfl) (fun _ => rfl) (fun _ => ?_)
    refine WL.run 1 [] [1, 2, 3, 14, 16, 19, 21, 22] (fun _ => [(1, .pointer (some ⟨b1, 0, none⟩)), (2, .pointer (some ⟨(b1 + 1), 0, none⟩)), (3, .int .i64 0), (14, .int .i64 (i64 r4)), (16, .int .u64 r7), (19, .int .u32 (u32 r10)), (21, .int .u64 r13), (22, .func (.func 86) #[] #[.pointer (some ⟨b1, 0, none⟩), .pointer (some ⟨b3, 0, none⟩)])]) (fun _ => [(b1, .cells #[.string a0] 9 (0, 0)), (b3, .cells #[.int .i64 r14] 3 (0, 0)), ((b1 + 1), .cells #[.int .i64 0, .int .u64 0, .int .u32 0, .int .u64 0, .int .u32 0] 49 (0, 0))]) (fun _ => []) (fun _ => by kernel_rfl) (fun _ => ?_)
    obtain ⟨⟨r16, r17⟩, h18, hM⟩ := bind_some hM
    dsimp only at hM
    refine WL.callE (X := Unit) [] [] [true, true, false] (fun _ => _) (arp_Parse_1_calls k b1 b3 4 a0 r14 _ h18) rfl rfl (fun _ h => h) (by kernel_rfl) (by kernel_rfl) (fun _ => rfl) (fun _ => ?_)
    refine WL.run 4 [3, 3, 3, 3, 3] [1, 2, 3, 6] (fun b19 => [(1, .pointer (some ⟨b1, 0, none⟩)), (2, .pointer (some ⟨(b1 + 1), 0, none⟩)), (3, .int .i64 0), (6, .pointer (some ⟨b19, 0, none⟩))]) (fun b19 => [(b1, .cells #[.string a0] 9 (0, 0)), (b3, .cells #[.int .i64 r17] 3 (0, 0)), ((b1 + 1), .cells #[.int .i64 0, .int .u64 0, .int .u32 0, .int .u64 0, .int .u32 0] 49 (0, 0)), (b19, .cells #[.int .i64 (i64 r4), .int .u64 r7, .int .u32 (u32 r10), .int .u64 r13, .int .u32 (u32 r16)] 49 (0, 0))]) (fun b19 => [b19, b19, b19, b19, b19]) (fun b19 => by kernel_rfl) (fun b19 => ?_)
    refine WP.done ?_
    refine WP.keep [true, false, true, true] (by kernel_rfl : _ = [(b1, .cells #[.string a0] 9 (0, 0)), ((b1 + 1), .cells #[.int .i64 0, .int .u64 0, .int .u32 0, .int .u64 0, .int .u32 0] 49 (0, 0)), (b19, .cells #[.int .i64 (i64 r4), .int .u64 r7, .int .u32 (u32 r10), .int .u64 r13, .int .u32 (u32 r16)] 49 (0, 0))]) ?_
    refine WP.seq ?_
    refine WP.seq ?_
    refine WP.region ?_
    refine WL.run 1 [0] [2, 3, 6, 26] (fun _ => [(2, .pointer (some ⟨(b1 + 1), 0, none⟩)), (3, .int .i64 0), (6, .pointer (some ⟨b19, 0, none⟩)), (26, .string a0)]) (fun _ => [(b1, .cells #[.string a0] 9 (0, 0)), ((b1 + 1), .cells #[.int .i64 0, .int .u64 0, .int .u32 0, .int .u64 0, .int .u32 0] 49 (0, 0)), (b19, .cells #[.int .i64 (i64 r4), .int .u64 r7, .int .u32 (u32 r10), .int .u64 r13, .int .u32 (u32 r16)] 49 (0, 0))]) (fun _ => [b1]) (fun _ => by kernel_rfl) (fun _ => ?_)
    obtain ⟨r20, h21, hM⟩ := bind_some hM
    refine WL.callP [] [] (strings_HasPrefix_calls a0 (⟨#[0, 1, 8, 0, 6, 4]⟩ : ByteArray) _ h21) (fun _ h => h) (by kernel_rfl) (by kernel_rfl) rfl ?_
    refine WL.run 2 [] [2, 3, 6, 29] (fun _ => [(2, .pointer (some ⟨(b1 + 1), 0, none⟩)), (3, .int .i64 0), (6, .pointer (some ⟨b19, 0, none⟩)), (29, .bool (!r20))]) (fun _ => [(b1, .cells #[.string a0] 9 (0, 0)), ((b1 + 1), .cells #[.int .i64 0, .int .u64 0, .int .u32 0, .int .u64 0, .int .u32 0] 49 (0, 0)), (b19, .cells #[.int .i64 (i64 r4), .int .u64 r7, .int .u32 (u32 r10), .int .u64 r13, .int .u32 (u32 r16)] 49 (0, 0))]) (fun _ => []) (fun _ => by kernel_rfl) (fun _ => ?_)
    refine WL.sub [2, 3, 6, 29] (L' := [(2, .pointer (some ⟨(b1 + 1), 0, none⟩)), (3, .int .i64 0), (6, .pointer (some ⟨b19, 0, none⟩)), (29, .bool (!r20))]) (by kernel_rfl) ?_
    refine WL.join (σ := Bool) 4 (fun st => arp_Parse.k1 r4 r7 r10 r13 r16 st = some r) (fun st => [(2, .pointer (some ⟨(b1 + 1), 0, none⟩)), (3, .int .i64 0), (6, .pointer (some ⟨b19, 0, none⟩)), (33, .bool st)]) (fun st => Sat w Z [((b1 + 1), .cells #[.int .i64 0, .int .u64 0, .int .u32 0, .int .u64 0, .int .u32 0] 49 (0, 0)), (b19, .cells #[.int .i64 (i64 r4), .int .u64 r7, .int .u32 (u32 r10), .int .u64 r13, .int .u32 (u32 r16)] 49 (0, 0))] [] Glob) (fun st hM => ?_) (fun K1 => ?_)
    ·
      obtain ⟨x25, rfl⟩ : ∃ y, y = st := ⟨st, rfl⟩
      replace hM : arp_Parse.k1 r4 r7 r10 r13 r16 x25 = some r := hM
      unfold arp_Parse.k1 at hM
      show WL _ _ _ _ _ [(2, .pointer (some ⟨(b1 + 1), 0, none⟩)), (3, .int .i64 0), (6, .pointer (some ⟨b19, 0, none⟩)), (33, .bool x25)] (Sat w Z [((b1 + 1), .cells #[.int .i64 0, .int .u64 0, .int .u32 0, .int .u64 0, .int .u32 0] 49 (0, 0)), (b19, .cells #[.int .i64 (i64 r4), .int .u64 r7, .int .u32 (u32 r10), .int .u64 r13, .int .u32 (u32 r16)] 49 (0, 0))] [] Glob)
      refine WP.done ?_
      refine WP.cond x25 rfl rfl (fun c26 => ?_) (fun c26 => ?_)
      · replace hM := cond_t hM c26
        refine WP.seq ?_
        refine WP.run [0, 0, 0, 0, 0] [2, 3, 6] (fun _ => [(2, .pointer (some ⟨(b1 + 1), 0, none⟩)), (3, .int .i64 51), (6, .pointer (some ⟨b19, 0, none⟩))]) (fun _ => [((b1 + 1), .cells #[.int .i64 0, .int .u64 0, .int .u32 0, .int .u64 0, .int .u32 0] 49 (0, 0)), (b19, .cells #[.int .i64 (i64 r4), .int .u64 r7, .int .u32 (u32 r10), .int .u64 r13, .int .u32 (u32 r16)] 49 (0, 0))]) (fun _ => [(b1 + 1), (b1 + 1), (b1 + 1), (b1 + 1), (b1 + 1)]) (fun _ => by kernel_rfl) (fun _ => ?_)
        obtain rfl := Option.some.inj hM
        exact WP.ret [0, 0, 0, 0, 0] [(b1 + 1), (b1 + 1), (b1 + 1), (b1 + 1), (b1 + 1)] (.tuple #[.agg #[.int .i64 0, .int .u64 0, .int .u32 0, .int .u64 0, .int .u32 0], .int .i64 51]) (by kernel_rfl) (fun w' hw => ⟨rfl, hw.pick [] rfl⟩)
      · replace hM := cond_f hM c26
        refine WP.skip ?_
        refine WP.seq ?_
        refine WP.run [1, 1, 1, 1, 1, 0, 0, 0, 0, 0] [2, 3] (fun _ => [(2, .pointer (some ⟨(b1 + 1), 0, none⟩)), (3, .int .i64 0)]) (fun _ => [((b1 + 1), .cells #[.int .i64 (i64 r4), .int .u64 r7, .int .u32 (u32 r10), .int .u64 r13, .int .u32 (u32 r16)] 49 (0, 0)), (b19, .cells #[.int .i64 (i64 r4), .int .u64 r7, .int .u32 (u32 r10), .int .u64 r13, .int .u32 (u32 r16)] 49 (0, 0))]) (fun _ => [(b1 + 1), (b1 + 1), (b1 + 1), (b1 + 1), (b1 + 1), b19, b19, b19, b19, b19]) (fun _ => by kernel_rfl) (fun _ => ?_)
        refine WP.keep [true, false] (by kernel_rfl : _ = [((b1 + 1), .cells #[.int .i64 (i64 r4), .int .u64 r7, .int .u32 (u32 r10), .int .u64 r13, .int .u32 (u32 r16)] 49 (0, 0))]) ?_
        obtain rfl := Option.some.inj hM
        exact WP.ret [0, 0, 0, 0, 0] [(b1 + 1), (b1 + 1), (b1 + 1), (b1 + 1), (b1 + 1)] (.tuple #[.agg #[.int .i64 (i64 r4), .int .u64 r7, .int .u32 (u32 r10), .int .u64 r13, .int .u32 (u32 r16)], .int .i64 0]) (by kernel_rfl) (fun w' hw => ⟨rfl, hw.pick [] rfl⟩)
    ·
      refine WL.split (fun b' => [(2, .pointer (some ⟨(b1 + 1), 0, none⟩)), (3, .int .i64 0), (6, .pointer (some ⟨b19, 0, none⟩)), (29, .bool b')]) (!r20) (fun c22 => ?_) (fun c22 => ?_)
      · replace hM := cond_t hM c22
        refine WL.run 4 [] [2, 3, 6, 33] (fun _ => [(2, .pointer (some ⟨(b1 + 1), 0, none⟩)), (3, .int .i64 0), (6, .pointer (some ⟨b19, 0, none⟩)), (33, .bool true)]) (fun _ => [(b1, .cells #[.string a0] 9 (0, 0)), ((b1 + 1), .cells #[.int .i64 0, .int .u64 0, .int .u32 0, .int .u64 0, .int .u32 0] 49 (0, 0)), (b19, .cells #[.int .i64 (i64 r4), .int .u64 r7, .int .u32 (u32 r10), .int .u64 r13, .int .u32 (u32 r16)] 49 (0, 0))]) (fun _ => []) (fun _ => by kernel_rfl) (fun _ => ?_)
        exact WL.sub [2, 3, 6, 33] (by kernel_rfl) (WL.pick [1, 2] (by kernel_rfl) (by kernel_rfl) (K1 true hM))
      · replace hM := cond_f hM c22
        refine WL.run 1 [2, 2, 2, 2, 2] [2, 3, 6, 29, 30] (fun _ => [(2, .pointer (some ⟨(b1 + 1), 0, none⟩)), (3, .int .i64 0), (6, .pointer (some ⟨b19, 0, none⟩)), (29, .bool false), (30, .agg #[.int .i64 (i64 r4), .int .u64 r7, .int .u32 (u32 r10), .int .u64 r13, .int .u32 (u32 r16)])]) (fun _ => [(b1, .cells #[.string a0] 9 (0, 0)), ((b1 + 1), .cells #[.int .i64 0, .int .u64 0, .int .u32 0, .int .u64 0, .int .u32 0] 49 (0, 0)), (b19, .cells #[.int .i64 (i64 r4), .int .u64 r7, .int .u32 (u32 r10), .int .u64 r13, .int .u32 (u32 r16)] 49 (0, 0))]) (fun _ => [b19, b19, b19, b19, b19]) (fun _ => by kernel_rfl) (fun _ => ?_)
        obtain ⟨r23, h24, hM⟩ := bind_some hM
        refine WL.callP [] [] (arp_Check_calls (api_Arp.mk (i64 r4) r7 (u32 r10) r13 (u32 r16)) _ h24) (fun _ h => h) (by kernel_rfl) (by kernel_rfl) rfl ?_
        refine WL.run 2 [] [2, 3, 6, 33] (fun _ => [(2, .pointer (some ⟨(b1 + 1), 0, none⟩)), (3, .int .i64 0), (6, .pointer (some ⟨b19, 0, none⟩)), (33, .bool (r23 != 0))]) (fun _ => [(b1, .cells #[.string a0] 9 (0, 0)), ((b1 + 1), .cells #[.int .i64 0, .int .u64 0, .int .u32 0, .int .u64 0, .int .u32 0] 49 (0, 0)), (b19, .cells #[.int .i64 (i64 r4), .int .u64 r7, .int .u32 (u32 r10), .int .u64 r13, .int .u32 (u32 r16)] 49 (0, 0))]) (fun _ => []) (fun _ => by kernel_rfl) (fun _ => ?_)
        exact WL.sub [2, 3, 6, 33] (by kernel_rfl) (WL.pick [1, 2] (by kernel_rfl) (by kernel_rfl) (K1 (r23 != 0) hM))

end Go.Proofs.YtbodofjnfmjbpaaGreatDoor

namespace Go.Proofs.YtbodofjnfmjbpaaGreatDoor
open Go Eng
set_option linter.unusedVariables false
set_option linter.unusedSimpArgs false

/-! ### gangway/arp.Of: function 32 -/
def arp_Of.f (k : Nat) (a0 : api_Frame) : Option (api_Arp × Bool) :=
  bif (a0.Type_ != 2054) then
    some ((api_Arp.mk 0 0 0 0 0), false)
  else
    (arp_Parse.f k a0.Body).bind fun (r3, r4) =>
    some (r3, (r4 == 0))

set_option maxRecDepth 100000 in
theorem arp_Of_calls (k : Nat) (a0 : api_Frame) (r : api_Arp × Bool) (h : arp_Of.f k a0 = some r) : Pure Tryz.prog Glob 32 #[.agg #[.int .u64 a0.Dst, .int .u64 a0.Src, .bool a0.Tag.Has, .int .i64 a0.Tag.Pri, .bool a0.Tag.Dei, .int .i64 a0.Tag.Vid, .int .i64 a0.Type_, .string a0.Body]] (.tuple #[.agg #[.int .i64 r.1.Op, .int .u64 r.1.SMac, .int .u32 r.1.SIp, .int .u64 r.1.TMac, .int .u32 r.1.TIp], .bool r.2]) := by
  intro w Z hS
  refine calls_of (args := [.agg #[.int .u64 a0.Dst, .int .u64 a0.Src, .bool a0.Tag.Has, .int .i64 a0.Tag.Pri, .bool a0.Tag.Dei, .int .i64 a0.Tag.Vid, .int .i64 a0.Type_, .string a0.Body]]) (L := [(0, .agg #[.int .u64 a0.Dst, .int .u64 a0.Src, .bool a0.Tag.Has, .int .i64 a0.Tag.Pri, .bool a0.Tag.Dei, .int .i64 a0.Tag.Vid, .int .i64 a0.Type_, .string a0.Body])]) (N := 19) (S := Sat w Z [] [] Glob) Tryz.func32 rfl rfl (Nat.le_of_ble_eq_true rfl) rfl hS ?_
  have hM := h
  clear h hS
  unfold arp_Of.f at hM
  refine WP.seq ?_
  refine WP.run [] [1, 2, 3] (fun b1 => [(1, .pointer (some ⟨b1, 0, none⟩)), (2, .pointer (some ⟨(b1 + 1), 0, none⟩)), (3, .bool false)]) (fun b1 => [(b1, .cells #[.int .u64 a0.Dst, .int .u64 a0.Src, .bool a0.Tag.Has, .int .i64 a0.Tag.Pri, .bool a0.Tag.Dei, .int .i64 a0.Tag.Vid, .int .i64 a0.Type_, .string a0.Body] 29 (0, 0)), ((b1 + 1), .cells #[.int .i64 0, .int .u64 0, .int .u32 0, .int .u64 0, .int .u32 0] 49 (0, 0))]) (fun b1 => []) (fun b1 => by kernel_rfl) (fun b1 => ?_)
  refine WP.seq ?_
  refine WP.seq ?_
  refine WP.run [0] [1, 2, 3, 8] (fun _ => [(1, .pointer (some ⟨b1, 0, none⟩)), (2, .pointer (some ⟨(b1 + 1), 0, none⟩)), (3, .bool false), (8, .bool (a0.Type_ != 2054))]) (fun _ => [(b1, .cells #[.int .u64 a0.Dst, .int .u64 a0.Src, .bool a0.Tag.Has, .int .i64 a0.Tag.Pri, .bool a0.Tag.Dei, .int .i64 a0.Tag.Vid, .int .i64 a0.Type_, .string a0.Body] 29 (0, 0)), ((b1 + 1), .cells #[.int .i64 0, .int .u64 0, .int .u32 0, .int .u64 0, .int .u32 0] 49 (0, 0))]) (fun _ => [b1]) (fun _ => by kernel_rfl) (fun _ => ?_)
  refine WP.cond (a0.Type_ != 2054) rfl rfl (fun c2 => ?_) (fun c2 => ?_)
  · replace hM := cond_t hM c2
    refine WP.seq ?_
    refine WP.run [1, 1, 1, 1, 1] [1, 2, 3] (fun _ => [(1, .pointer (some ⟨b1, 0, none⟩)), (2, .pointer (some ⟨(b1 + 1), 0, none⟩)), (3, .bool false)]) (fun _ => [(b1, .cells #[.int .u64 a0.Dst, .int .u64 a0.Src, .bool a0.Tag.Has, .int .i64 a0.Tag.Pri, .bool a0.Tag.Dei, .int .i64 a0.Tag.Vid, .int .i64 a0.Type_, .string a0.Body] 29 (0, 0)), ((b1 + 1), .cells #[.int .i64 0, .int .u64 0, .int .u32 0, .int .u64 0, .int .u32 0] 49 (0, 0))]) (fun _ => [(b1 + 1), (b1 + 1), (b1 + 1), (b1 + 1), (b1 + 1)]) (fun _ => by kernel_rfl) (fun _ => ?_)
    obtain rfl := Option.some.inj hM
    exact WP.ret [1, 1, 1, 1, 1] [(b1 + 1), (b1 + 1), (b1 + 1), (b1 + 1), (b1 + 1)] (.tuple #[.agg #[.int .i64 0, .int .u64 0, .int .u32 0, .int .u64 0, .int .u32 0], .bool false]) (by kernel_rfl) (fun w' hw => ⟨rfl, hw.pick [] rfl⟩)
  · replace hM := cond_f hM c2
    refine WP.skip ?_
    refine WP.seq ?_
    refine WP.region ?_
    refine WL.run 2 [0] [2, 3, 12] (fun _ => [(2, .pointer (some ⟨(b1 + 1), 0, none⟩)), (3, .bool false), (12, .string a0.Body)]) (fun _ => [(b1, .cells #[.int .u64 a0.Dst, .int .u64 a0.Src, .bool a0.Tag.Has, .int .i64 a0.Tag.Pri, .bool a0.Tag.Dei, .int .i64 a0.Tag.Vid, .int .i64 a0.Type_, .string a0.Body] 29 (0, 0)), ((b1 + 1), .cells #[.int .i64 0, .int .u64 0, .int .u32 0, .int .u64 0, .int .u32 0] 49 (0, 0))]) (fun _ => [b1]) (fun _ => by kernel_rfl) (fun _ => ?_)
    obtain ⟨⟨r3, r4⟩, h5, hM⟩ := bind_some hM
    dsimp only at hM
    refine WL.callP [] [] (arp_Parse_calls k a0.Body _ h5) (fun _ h => h) (by kernel_rfl) (by kernel_rfl) rfl ?_
    refine WL.run 6 [2, 2, 2, 2, 2] [2, 3, 4, 5] (fun b6 => [(2, .pointer (some ⟨(b1 + 1), 0, none⟩)), (3, .bool false), (4, .pointer (some ⟨b6, 0, none⟩)), (5, .int .i64 r4)]) (fun b6 => [(b1, .cells #[.int .u64 a0.Dst, .int .u64 a0.Src, .bool a0.Tag.Has, .int .i64 a0.Tag.Pri, .bool a0.Tag.Dei, .int .i64 a0.Tag.Vid, .int .i64 a0.Type_, .string a0.Body] 29 (0, 0)), ((b1 + 1), .cells #[.int .i64 0, .int .u64 0, .int .u32 0, .int .u64 0, .int .u32 0] 49 (0, 0)), (b6, .cells #[.int .i64 r3.Op, .int .u64 r3.SMac, .int .u32 r3.SIp, .int .u64 r3.TMac, .int .u32 r3.TIp] 49 (0, 0))]) (fun b6 => [b6, b6, b6, b6, b6]) (fun b6 => by kernel_rfl) (fun b6 => ?_)
    refine WP.done ?_
    refine WP.keep [false, true, true] (by kernel_rfl : _ = [((b1 + 1), .cells #[.int .i64 0, .int .u64 0, .int .u32 0, .int .u64 0, .int .u32 0] 49 (0, 0)), (b6, .cells #[.int .i64 r3.Op, .int .u64 r3.SMac, .int .u32 r3.SIp, .int .u64 r3.TMac, .int .u32 r3.TIp] 49 (0, 0))]) ?_
    refine WP.seq ?_
    refine WP.run [1, 1, 1, 1, 1, 0, 0, 0, 0, 0] [2, 3] (fun _ => [(2, .pointer (some ⟨(b1 + 1), 0, none⟩)), (3, .bool (r4 == 0))]) (fun _ => [((b1 + 1), .cells #[.int .i64 r3.Op, .int .u64 r3.SMac, .int .u32 r3.SIp, .int .u64 r3.TMac, .int .u32 r3.TIp] 49 (0, 0)), (b6, .cells #[.int .i64 r3.Op, .int .u64 r3.SMac, .int .u32 r3.SIp, .int .u64 r3.TMac, .int .u32 r3.TIp] 49 (0, 0))]) (fun _ => [(b1 + 1), (b1 + 1), (b1 + 1), (b1 + 1), (b1 + 1), b6, b6, b6, b6, b6]) (fun _ => by kernel_rfl) (fun _ => ?_)
    refine WP.keep [true, false] (by kernel_rfl : _ = [((b1 + 1), .cells #[.int .i64 r3.Op, .int .u64 r3.SMac, .int .u32 r3.SIp, .int .u64 r3.TMac, .int .u32 r3.TIp] 49 (0, 0))]) ?_
    obtain rfl := Option.some.inj hM
    exact WP.ret [0, 0, 0, 0, 0] [(b1 + 1), (b1 + 1), (b1 + 1), (b1 + 1), (b1 + 1)] (.tuple #[.agg #[.int .i64 r3.Op, .int .u64 r3.SMac, .int .u32 r3.SIp, .int .u64 r3.TMac, .int .u32 r3.TIp], .bool (r4 == 0)]) (by kernel_rfl) (fun w' hw => ⟨rfl, hw.pick [] rfl⟩)

end Go.Proofs.YtbodofjnfmjbpaaGreatDoor

namespace Go.Proofs.YtbodofjnfmjbpaaGreatDoor
open Go Eng
set_option linter.unusedVariables false
set_option linter.unusedSimpArgs false

/-! ### gangway/csum.Right: function 116 -/
def csum_Right.f (k : Nat) (a0 : (List ByteArray)) : Option (Bool) :=
  (csum_total.f k a0).bind fun r1 =>
  some (r1 == 65535)

set_option maxRecDepth 100000 in
theorem csum_Right_calls (k : Nat) (A00 : SkL Unit) (a0 : (List ByteArray)) (r : Bool) (h : csum_Right.f k a0 = some r) : Pure Tryz.prog ([Row 1 (pl encS) noK A00 a0] ++ Glob) 116 #[slcV A00 a0.length] (.bool r) := by
  intro w Z hS
  refine calls_of (args := [slcV A00 a0.length]) (L := [(0, slcV A00 a0.length)]) (N := 6) (S := Sat w Z [] [] ([Row 1 (pl encS) noK A00 a0] ++ Glob)) Tryz.func116 rfl rfl (Nat.le_of_ble_eq_true rfl) rfl hS ?_
  have hM := h
  clear h hS
  unfold csum_Right.f at hM
  refine WP.seq ?_
  refine WP.run [] [0, 2] (fun _ => [(0, slcV A00 a0.length), (2, .bool false)]) (fun _ => []) (fun _ => []) (fun _ => by kernel_rfl) (fun _ => ?_)
  refine WP.seq ?_
  refine WP.region ?_
  refine WL.run 1 [] [2, 3] (fun _ => [(2, .bool false), (3, slcV A00 a0.length)]) (fun _ => []) (fun _ => []) (fun _ => by kernel_rfl) (fun _ => ?_)
  obtain ⟨r1, h2, hM⟩ := bind_some hM
  refine WL.callP [] [] (csum_total_calls k A00 a0 _ h2) (sub_pick [0] (by kernel_rfl)) (by kernel_rfl) (by kernel_rfl) rfl ?_
  refine WL.run 2 [] [2] (fun _ => [(2, .bool (r1 == 65535))]) (fun _ => []) (fun _ => []) (fun _ => by kernel_rfl) (fun _ => ?_)
  refine WP.done ?_
  obtain rfl := Option.some.inj hM
  exact WP.ret [] [] (.bool (r1 == 65535)) (by kernel_rfl) (fun w' hw => ⟨rfl, (hw.pick [] rfl).lessF [0] (by kernel_rfl)⟩)

end Go.Proofs.YtbodofjnfmjbpaaGreatDoor

namespace Go.Proofs.YtbodofjnfmjbpaaGreatDoor
open Go Eng
set_option linter.unusedVariables false
set_option linter.unusedSimpArgs false

/-! ### gangway/inet.get: function 117 -/
def inet_get.f (a0 : ByteArray) (a1 : Int) : Option (Int) :=
  (idxS a0 a1).bind fun t1 =>
  (idxS a0 (i64 (a1 + 1))).bind fun t3 =>
  some (bOr .i64 (i64 ((i64 t1) * 256)) (i64 t3))

set_option maxRecDepth 100000 in
theorem inet_get_calls (a0 : ByteArray) (a1 : Int) (r : Int) (h : inet_get.f a0 a1 = some r) : Pure Tryz.prog Glob 117 #[.string a0, .int .i64 a1] (.int .i64 r) := by
  intro w Z hS
  refine calls_of (args := [.string a0, .int .i64 a1]) (L := [(0, .string a0), (1, .int .i64 a1)]) (N := 16) (S := Sat w Z [] [] Glob) Tryz.func117 rfl rfl (Nat.le_of_ble_eq_true rfl) rfl hS ?_
  have hM := h
  clear h hS
  unfold inet_get.f at hM
  refine WP.seq ?_
  refine WP.run [] [0, 1, 4] (fun _ => [(0, .string a0), (1, .int .i64 a1), (4, .int .i64 0)]) (fun _ => []) (fun _ => []) (fun _ => by kernel_rfl) (fun _ => ?_)
  refine WP.seq ?_
  refine WP.quiet (by kernel_rfl) (by kernel_rfl) ?_
  refine QL.run 2 [] [0, 1, 4, 5, 6] [] [(0, .string a0), (1, .int .i64 a1), (4, .int .i64 0), (5, .string a0), (6, .int .i64 a1)] (by kernel_rfl) ?_
  obtain ⟨t1, h2, hM⟩ := bind_some hM
  refine QL.val (fun _ => run_idxS (s := a0) (k := .i64) (i := a1) (by kernel_rfl) (by kernel_rfl) (by kernel_rfl) h2) (by kernel_rfl) (by kernel_rfl) rfl ?_
  refine QL.run 5 [] [4, 9, 10, 12] [] [(4, .int .i64 0), (9, .int .i64 (i64 ((i64 t1) * 256))), (10, .string a0), (12, .int .i64 (i64 (a1 + 1)))] (by kernel_rfl) ?_
  obtain ⟨t3, h4, hM⟩ := bind_some hM
  refine QL.val (fun _ => run_idxS (s := a0) (k := .i64) (i := i64 (a1 + 1)) (by kernel_rfl) (by kernel_rfl) (by kernel_rfl) h4) (by kernel_rfl) (by kernel_rfl) rfl ?_
  refine QL.run 3 [] [4] [] [(4, .int .i64 (bOr .i64 (i64 ((i64 t1) * 256)) (i64 t3)))] (by kernel_rfl) ?_
  refine QL.done ?_
  obtain rfl := Option.some.inj hM
  exact WP.ret [] [] (.int .i64 (bOr .i64 (i64 ((i64 t1) * 256)) (i64 t3))) (by kernel_rfl) (fun w' hw => ⟨rfl, hw.pick [] rfl⟩)

end Go.Proofs.YtbodofjnfmjbpaaGreatDoor

namespace Go.Proofs.YtbodofjnfmjbpaaGreatDoor
open Go Eng
set_option linter.unusedVariables false
set_option linter.unusedSimpArgs false

/-! ### gangway/inet.read: function 111 -/
def inet_read.f (k : Nat) (a0 : ByteArray) : Option (api_Ip × Un3) :=
  bif decide ((a0.size : Int) < 20) then
    some ((api_Ip.mk 0 0 false false 0 0 0 0 0 (⟨#[]⟩ : ByteArray)), some (inet_odd.mk 60))
  else
    (idxS a0 0).bind fun t3 =>
    bif (t3 != 69) then
      some ((api_Ip.mk 0 0 false false 0 0 0 0 0 (⟨#[]⟩ : ByteArray)), some (inet_odd.mk 61))
    else
      (sliceS a0 0 20).bind fun t6 =>
      (csum_Right.f k ([t6] : List ByteArray)).bind fun r9 =>
      bif !r9 then
        some ((api_Ip.mk 0 0 false false 0 0 0 0 0 (⟨#[]⟩ : ByteArray)), some (inet_odd.mk 62))
      else
        (inet_get.f a0 2).bind fun r12 =>
        (inet_get.f a0 6).bind fun r14 =>
        bif ((decide (r12 < 20)) || ((bAnd .i64 r14 32768) != 0)) then
          some ((api_Ip.mk 0 0 false false 0 0 0 0 0 (⟨#[]⟩ : ByteArray)), some (inet_odd.mk 61))
        else
          bif decide (r12 > (a0.size : Int)) then
            some ((api_Ip.mk 0 0 false false 0 0 0 0 0 (⟨#[]⟩ : ByteArray)), some (inet_odd.mk 60))
          else
            (octets_Get.f k a0 12 4).bind fun (r18, r19) =>
            (octets_Get.f k a0 16 4).bind fun (r21, r22) =>
            (idxS a0 1).bind fun t25 =>
            (inet_get.f a0 4).bind fun r27 =>
            (idxS a0 8).bind fun t29 =>
            (idxS a0 9).bind fun t31 =>
            (sliceS a0 20 r12).bind fun t35 =>
            some ((api_Ip.mk (i64 t25) r27 ((bAnd .i64 r14 16384) != 0) ((bAnd .i64 r14 8192) != 0) (Int.tmod r14 8192) (i64 t29) (i64 t31) (u32 r18) (u32 r21) t35), none)

set_option maxRecDepth 100000 in
theorem inet_read_calls (k : Nat) (a0 : ByteArray) (r : api_Ip × Un3) (h : inet_read.f k a0 = some r) : Pure Tryz.prog Glob 111 #[.string a0] (.tuple #[.agg #[.int .i64 r.1.Tos, .int .i64 r.1.Id, .bool r.1.Whole, .bool r.1.More, .int .i64 r.1.Off, .int .i64 r.1.Ttl, .int .i64 r.1.Proto, .int .u32 r.1.Src, .int .u32 r.1.Dst, .string r.1.Body], Un3.v r.2]) := by
  intro w Z hS
  refine calls_of (args := [.string a0]) (L := [(0, .string a0)]) (N := 98) (S := Sat w Z [] [] Glob) Tryz.func111 rfl rfl (Nat.le_of_ble_eq_true rfl) rfl hS ?_
  have hM := h
  clear h hS
  unfold inet_read.f at hM
  refine WP.less (Φ' := [] ++ Glob) (fun _ h => h) ?_
  refine WP.seq ?_
  refine WP.run [] [0, 2, 3] (fun b1 => [(0, .string a0), (2, .pointer (some ⟨b1, 0, none⟩)), (3, .nilIface)]) (fun b1 => [(b1, .cells #[.int .i64 0, .int .i64 0, .bool false, .bool false, .int .i64 0, .int .i64 0, .int .i64 0, .int .u32 0, .int .u32 0, .string (⟨#[]⟩ : ByteArray)] 91 (0, 0))]) (fun b1 => []) (fun b1 => by kernel_rfl) (fun b1 => ?_)
  refine WP.seq ?_
  refine WP.block ?_
  refine WP.seq ?_
  refine WP.run [] [0, 2, 3, 11] (fun _ => [(0, .string a0), (2, .pointer (some ⟨b1, 0, none⟩)), (3, .nilIface), (11, .bool (decide ((a0.size : Int) < 20)))]) (fun _ => [(b1, .cells #[.int .i64 0, .int .i64 0, .bool false, .bool false, .int .i64 0, .int .i64 0, .int .i64 0, .int .u32 0, .int .u32 0, .string (⟨#[]⟩ : ByteArray)] 91 (0, 0))]) (fun _ => []) (fun _ => by kernel_rfl) (fun _ => ?_)
  refine WP.cond (decide ((a0.size : Int) < 20)) rfl rfl (fun c2 => ?_) (fun c2 => ?_)
  · replace hM := cond_t hM c2
    refine WP.seq ?_
    refine WP.run [0, 0, 0, 0, 0, 0, 0, 0, 0, 0] [0, 2, 3] (fun _ => [(0, .string a0), (2, .pointer (some ⟨b1, 0, none⟩)), (3, .iface 188 (.agg #[.int .i64 60]))]) (fun _ => [(b1, .cells #[.int .i64 0, .int .i64 0, .bool false, .bool false, .int .i64 0, .int .i64 0, .int .i64 0, .int .u32 0, .int .u32 0, .string (⟨#[]⟩ : ByteArray)] 91 (0, 0))]) (fun _ => [b1, b1, b1, b1, b1, b1, b1, b1, b1, b1]) (fun _ => by kernel_rfl) (fun _ => ?_)
    obtain rfl := Option.some.inj hM
    exact WP.ret [0, 0, 0, 0, 0, 0, 0, 0, 0, 0] [b1, b1, b1, b1, b1, b1, b1, b1, b1, b1] (.tuple #[.agg #[.int .i64 0, .int .i64 0, .bool false, .bool false, .int .i64 0, .int .i64 0, .int .i64 0, .int .u32 0, .int .u32 0, .string (⟨#[]⟩ : ByteArray)], .iface 188 (.agg #[.int .i64 60])]) (by kernel_rfl) (fun w' hw => ⟨rfl, (hw.pick [] rfl).less (fun _ h => List.mem_append_right _ h)⟩)
  · replace hM := cond_f hM c2
    refine WP.seq ?_
    refine WP.region ?_
    refine WL.run 1 [] [0, 2, 3, 19] (fun _ => [(0, .string a0), (2, .pointer (some ⟨b1, 0, none⟩)), (3, .nilIface), (19, .string a0)]) (fun _ => [(b1, .cells #[.int .i64 0, .int .i64 0, .bool false, .bool false, .int .i64 0, .int .i64 0, .int .i64 0, .int .u32 0, .int .u32 0, .string (⟨#[]⟩ : ByteArray)] 91 (0, 0))]) (fun _ => []) (fun _ => by kernel_rfl) (fun _ => ?_)
    obtain ⟨t3, h4, hM⟩ := bind_some hM
    refine WL.val (fun _ => run_idxS (s := a0) (k := .i64) (i := 0) (by kernel_rfl) (by kernel_rfl) (by kernel_rfl) h4) (by kernel_rfl) (by kernel_rfl) rfl ?_
    refine WL.run 2 [] [0, 2, 3, 18] (fun _ => [(0, .string a0), (2, .pointer (some ⟨b1, 0, none⟩)), (3, .nilIface), (18, .bool (t3 != 69))]) (fun _ => [(b1, .cells #[.int .i64 0, .int .i64 0, .bool false, .bool false, .int .i64 0, .int .i64 0, .int .i64 0, .int .u32 0, .int .u32 0, .string (⟨#[]⟩ : ByteArray)] 91 (0, 0))]) (fun _ => []) (fun _ => by kernel_rfl) (fun _ => ?_)
    refine WP.done ?_
    refine WP.cond (t3 != 69) rfl rfl (fun c5 => ?_) (fun c5 => ?_)
    · replace hM := cond_t hM c5
      refine WP.seq ?_
      refine WP.run [0, 0, 0, 0, 0, 0, 0, 0, 0, 0] [0, 2, 3] (fun _ => [(0, .string a0), (2, .pointer (some ⟨b1, 0, none⟩)), (3, .iface 188 (.agg #[.int .i64 61]))]) (fun _ => [(b1, .cells #[.int .i64 0, .int .i64 0, .bool false, .bool false, .int .i64 0, .int .i64 0, .int .i64 0, .int .u32 0, .int .u32 0, .string (⟨#[]⟩ : ByteArray)] 91 (0, 0))]) (fun _ => [b1, b1, b1, b1, b1, b1, b1, b1, b1, b1]) (fun _ => by kernel_rfl) (fun _ => ?_)
      obtain rfl := Option.some.inj hM
      exact WP.ret [0, 0, 0, 0, 0, 0, 0, 0, 0, 0] [b1, b1, b1, b1, b1, b1, b1, b1, b1, b1] (.tuple #[.agg #[.int .i64 0, .int .i64 0, .bool false, .bool false, .int .i64 0, .int .i64 0, .int .i64 0, .int .u32 0, .int .u32 0, .string (⟨#[]⟩ : ByteArray)], .iface 188 (.agg #[.int .i64 61])]) (by kernel_rfl) (fun w' hw => ⟨rfl, (hw.pick [] rfl).less (fun _ h => List.mem_append_right _ h)⟩)
    · replace hM := cond_f hM c5
      refine WP.seq ?_
      refine WP.region ?_
      refine WL.run 1 [] [0, 2, 3, 26] (fun _ => [(0, .string a0), (2, .pointer (some ⟨b1, 0, none⟩)), (3, .nilIface), (26, .string a0)]) (fun _ => [(b1, .cells #[.int .i64 0, .int .i64 0, .bool false, .bool false, .int .i64 0, .int .i64 0, .int .i64 0, .int .u32 0, .int .u32 0, .string (⟨#[]⟩ : ByteArray)] 91 (0, 0))]) (fun _ => []) (fun _ => by kernel_rfl) (fun _ => ?_)
      obtain ⟨t6, h7, hM⟩ := bind_some hM
      refine WL.val (fun _ => run_sliceS_hi (s := a0) (kh := .i64) (h := 20) (by kernel_rfl) (by kernel_rfl) (by kernel_rfl) h7) (by kernel_rfl) (by kernel_rfl) rfl ?_
      refine WL.run 1 [] [0, 2, 3, 28] (fun b8 => [(0, .string a0), (2, .pointer (some ⟨b1, 0, none⟩)), (3, .nilIface), (28, .slice (some ⟨b8, 0, none⟩) 1 1)]) (fun b8 => [(b1, .cells #[.int .i64 0, .int .i64 0, .bool false, .bool false, .int .i64 0, .int .i64 0, .int .i64 0, .int .u32 0, .int .u32 0, .string (⟨#[]⟩ : ByteArray)] 91 (0, 0)), (b8, .cells #[.string t6] 9 (0, 0))]) (fun b8 => []) (fun b8 => by kernel_rfl) (fun b8 => ?_)
      refine WL.ice (H' := [(b1, .cells #[.int .i64 0, .int .i64 0, .bool false, .bool false, .int .i64 0, .int .i64 0, .int .i64 0, .int .u32 0, .int .u32 0, .string (⟨#[]⟩ : ByteArray)] 91 (0, 0))]) (Row 1 (pl encS) noK (SkL.at b8 1 (fun _ => ())) ([t6] : List ByteArray)) 1 (b := b8) (ob := .cells #[.string t6] 9 (0, 0)) (by kernel_rfl) [] [] (by kernel_rfl) (fun w hb hψ => row_of_block hb (fun _ _ => rfl) ⟨[], by kernel_rfl⟩ (Nat.le_of_ble_eq_true rfl) (InK.no _ _)) (by kernel_rfl) ?_
      obtain ⟨r9, h10, hM⟩ := bind_some hM
      refine WL.callP [] [] (csum_Right_calls k (SkL.at b8 1 (fun _ => ())) ([t6] : List ByteArray) _ h10) (sub_pick [0] (by kernel_rfl)) (by kernel_rfl) (by kernel_rfl) rfl ?_
      refine WL.run 2 [] [0, 2, 3, 25] (fun _ => [(0, .string a0), (2, .pointer (some ⟨b1, 0, none⟩)), (3, .nilIface), (25, .bool (!r9))]) (fun _ => [(b1, .cells #[.int .i64 0, .int .i64 0, .bool false, .bool false, .int .i64 0, .int .i64 0, .int .i64 0, .int .u32 0, .int .u32 0, .string (⟨#[]⟩ : ByteArray)] 91 (0, 0))]) (fun _ => []) (fun _ => by kernel_rfl) (fun _ => ?_)
      refine WP.done ?_
      refine WP.cond (!r9) rfl rfl (fun c11 => ?_) (fun c11 => ?_)
      · replace hM := cond_t hM c11
        refine WP.seq ?_
        refine WP.run [0, 0, 0, 0, 0, 0, 0, 0, 0, 0] [0, 2, 3] (fun _ => [(0, .string a0), (2, .pointer (some ⟨b1, 0, none⟩)), (3, .iface 188 (.agg #[.int .i64 62]))]) (fun _ => [(b1, .cells #[.int .i64 0, .int .i64 0, .bool false, .bool false, .int .i64 0, .int .i64 0, .int .i64 0, .int .u32 0, .int .u32 0, .string (⟨#[]⟩ : ByteArray)] 91 (0, 0))]) (fun _ => [b1, b1, b1, b1, b1, b1, b1, b1, b1, b1]) (fun _ => by kernel_rfl) (fun _ => ?_)
        obtain rfl := Option.some.inj hM
        exact WP.ret [0, 0, 0, 0, 0, 0, 0, 0, 0, 0] [b1, b1, b1, b1, b1, b1, b1, b1, b1, b1] (.tuple #[.agg #[.int .i64 0, .int .i64 0, .bool false, .bool false, .int .i64 0, .int .i64 0, .int .i64 0, .int .u32 0, .int .u32 0, .string (⟨#[]⟩ : ByteArray)], .iface 188 (.agg #[.int .i64 62])]) (by kernel_rfl) (fun w' hw => ⟨rfl, (hw.pick [] rfl).less (fun _ h => List.mem_append_right _ h)⟩)
      · replace hM := cond_f hM c11
        refine WP.skip ?_
        refine WP.leave ?_
        refine WP.seq ?_
        refine WP.region ?_
        refine WL.run 1 [] [0, 2, 3, 34] (fun _ => [(0, .string a0), (2, .pointer (some ⟨b1, 0, none⟩)), (3, .nilIface), (34, .string a0)]) (fun _ => [(b1, .cells #[.int .i64 0, .int .i64 0, .bool false, .bool false, .int .i64 0, .int .i64 0, .int .i64 0, .int .u32 0, .int .u32 0, .string (⟨#[]⟩ : ByteArray)] 91 (0, 0))]) (fun _ => []) (fun _ => by kernel_rfl) (fun _ => ?_)
        obtain ⟨r12, h13, hM⟩ := bind_some hM
        refine WL.callP [] [] (inet_get_calls a0 2 _ h13) (fun _ h => List.mem_append_right _ h) (by kernel_rfl) (by kernel_rfl) rfl ?_
        refine WL.run 1 [] [0, 2, 3, 35, 36] (fun _ => [(0, .string a0), (2, .pointer (some ⟨b1, 0, none⟩)), (3, .nilIface), (35, .int .i64 r12), (36, .string a0)]) (fun _ => [(b1, .cells #[.int .i64 0, .int .i64 0, .bool false, .bool false, .int .i64 0, .int .i64 0, .int .i64 0, .int .u32 0, .int .u32 0, .string (⟨#[]⟩ : ByteArray)] 91 (0, 0))]) (fun _ => []) (fun _ => by kernel_rfl) (fun _ => ?_)
        obtain ⟨r14, h15, hM⟩ := bind_some hM
        refine WL.callP [] [] (inet_get_calls a0 6 _ h15) (fun _ h => List.mem_append_right _ h) (by kernel_rfl) (by kernel_rfl) rfl ?_
        refine WL.run 2 [] [0, 2, 3, 4, 5] (fun _ => [(0, .string a0), (2, .pointer (some ⟨b1, 0, none⟩)), (3, .nilIface), (4, .int .i64 r12), (5, .int .i64 r14)]) (fun _ => [(b1, .cells #[.int .i64 0, .int .i64 0, .bool false, .bool false, .int .i64 0, .int .i64 0, .int .i64 0, .int .u32 0, .int .u32 0, .string (⟨#[]⟩ : ByteArray)] 91 (0, 0))]) (fun _ => []) (fun _ => by kernel_rfl) (fun _ => ?_)
        refine WP.done ?_
        refine WP.seq ?_
        refine WP.block ?_
        refine WP.seq ?_
        refine WP.region ?_
        refine WL.run 3 [] [0, 2, 3, 4, 5, 41] (fun _ => [(0, .string a0), (2, .pointer (some ⟨b1, 0, none⟩)), (3, .nilIface), (4, .int .i64 r12), (5, .int .i64 r14), (41, .bool (decide (r12 < 20)))]) (fun _ => [(b1, .cells #[.int .i64 0, .int .i64 0, .bool false, .bool false, .int .i64 0, .int .i64 0, .int .i64 0, .int .u32 0, .int .u32 0, .string (⟨#[]⟩ : ByteArray)] 91 (0, 0))]) (fun _ => []) (fun _ => by kernel_rfl) (fun _ => ?_)
        refine WL.sub [0, 2, 3, 4, 5, 41] (L' := [(0, .string a0), (2, .pointer (some ⟨b1, 0, none⟩)), (3, .nilIface), (4, .int .i64 r12), (5, .int .i64 r14), (41, .bool (decide (r12 < 20)))]) (by kernel_rfl) ?_
        refine WL.both (fun b' => [(0, .string a0), (2, .pointer (some ⟨b1, 0, none⟩)), (3, .nilIface), (4, .int .i64 r12), (5, .int .i64 r14), (41, .bool b')]) (decide (r12 < 20)) 4 [] [] [0, 2, 3, 4, 5, 45] (fun b' => [(0, .string a0), (2, .pointer (some ⟨b1, 0, none⟩)), (3, .nilIface), (4, .int .i64 r12), (5, .int .i64 r14), (45, .bool (b' || ((bAnd .i64 r14 32768) != 0)))]) [] [] (fun _ => by kernel_rfl) (fun _ => by kernel_rfl) ?_
        refine WL.run 1 [] [0, 2, 3, 4, 5, 38] (fun _ => [(0, .string a0), (2, .pointer (some ⟨b1, 0, none⟩)), (3, .nilIface), (4, .int .i64 r12), (5, .int .i64 r14), (38, .bool ((decide (r12 < 20)) || ((bAnd .i64 r14 32768) != 0)))]) (fun _ => [(b1, .cells #[.int .i64 0, .int .i64 0, .bool false, .bool false, .int .i64 0, .int .i64 0, .int .i64 0, .int .u32 0, .int .u32 0, .string (⟨#[]⟩ : ByteArray)] 91 (0, 0))]) (fun _ => []) (fun _ => by kernel_rfl) (fun _ => ?_)
        refine WP.done ?_
        refine WP.cond ((decide (r12 < 20)) || ((bAnd .i64 r14 32768) != 0)) rfl rfl (fun c16 => ?_) (fun c16 => ?_)
        · replace hM := cond_t hM c16
          refine WP.seq ?_
          refine WP.run [0, 0, 0, 0, 0, 0, 0, 0, 0, 0] [0, 2, 3, 4, 5] (fun _ => [(0, .string a0), (2, .pointer (some ⟨b1, 0, none⟩)), (3, .iface 188 (.agg #[.int .i64 61])), (4, .int .i64 r12), (5, .int .i64 r14)]) (fun _ => [(b1, .cells #[.int .i64 0, .int .i64 0, .bool false, .bool false, .int .i64 0, .int .i64 0, .int .i64 0, .int .u32 0, .int .u32 0, .string (⟨#[]⟩ : ByteArray)] 91 (0, 0))]) (fun _ => [b1, b1, b1, b1, b1, b1, b1, b1, b1, b1]) (fun _ => by kernel_rfl) (fun _ => ?_)
          obtain rfl := Option.some.inj hM
          exact WP.ret [0, 0, 0, 0, 0, 0, 0, 0, 0, 0] [b1, b1, b1, b1, b1, b1, b1, b1, b1, b1] (.tuple #[.agg #[.int .i64 0, .int .i64 0, .bool false, .bool false, .int .i64 0, .int .i64 0, .int .i64 0, .int .u32 0, .int .u32 0, .string (⟨#[]⟩ : ByteArray)], .iface 188 (.agg #[.int .i64 61])]) (by kernel_rfl) (fun w' hw => ⟨rfl, (hw.pick [] rfl).less (fun _ h => List.mem_append_right _ h)⟩)
        · replace hM := cond_f hM c16
          refine WP.seq ?_
          refine WP.run [] [0, 2, 3, 4, 5, 49] (fun _ => [(0, .string a0), (2, .pointer (some ⟨b1, 0, none⟩)), (3, .nilIface), (4, .int .i64 r12), (5, .int .i64 r14), (49, .bool (decide (r12 > (a0.size : Int))))]) (fun _ => [(b1, .cells #[.int .i64 0, .int .i64 0, .bool false, .bool false, .int .i64 0, .int .i64 0, .int .i64 0, .int .u32 0, .int .u32 0, .string (⟨#[]⟩ : ByteArray)] 91 (0, 0))]) (fun _ => []) (fun _ => by kernel_rfl) (fun _ => ?_)
          refine WP.cond (decide (r12 > (a0.size : Int))) rfl rfl (fun c17 => ?_) (fun c17 => ?_)
          · replace hM := cond_t hM c17
            refine WP.seq ?_
            refine WP.run [0, 0, 0, 0, 0, 0, 0, 0, 0, 0] [0, 2, 3, 4, 5] (fun _ => [(0, .string a0), (2, .pointer (some ⟨b1, 0, none⟩)), (3, .iface 188 (.agg #[.int .i64 60])), (4, .int .i64 r12), (5, .int .i64 r14)]) (fun _ => [(b1, .cells #[.int .i64 0, .int .i64 0, .bool false, .bool false, .int .i64 0, .int .i64 0, .int .i64 0, .int .u32 0, .int .u32 0, .string (⟨#[]⟩ : ByteArray)] 91 (0, 0))]) (fun _ => [b1, b1, b1, b1, b1, b1, b1, b1, b1, b1]) (fun _ => by kernel_rfl) (fun _ => ?_)
            obtain rfl := Option.some.inj hM
            exact WP.ret [0, 0, 0, 0, 0, 0, 0, 0, 0, 0] [b1, b1, b1, b1, b1, b1, b1, b1, b1, b1] (.tuple #[.agg #[.int .i64 0, .int .i64 0, .bool false, .bool false, .int .i64 0, .int .i64 0, .int .i64 0, .int .u32 0, .int .u32 0, .string (⟨#[]⟩ : ByteArray)], .iface 188 (.agg #[.int .i64 60])]) (by kernel_rfl) (fun w' hw => ⟨rfl, (hw.pick [] rfl).less (fun _ h => List.mem_append_right _ h)⟩)
          · replace hM := cond_f hM c17
            refine WP.skip ?_
            refine WP.leave ?_
            refine WP.seq ?_
            refine WP.region ?_
            refine WL.run 1 [] [0, 2, 3, 4, 5, 58] (fun _ => [(0, .string a0), (2, .pointer (some ⟨b1, 0, none⟩)), (3, .nilIface), (4, .int .i64 r12), (5, .int .i64 r14), (58, .string a0)]) (fun _ => [(b1, .cells #[.int .i64 0, .int .i64 0, .bool false, .bool false, .int .i64 0, .int .i64 0, .int .i64 0, .int .u32 0, .int .u32 0, .string (⟨#[]⟩ : ByteArray)] 91 (0, 0))]) (fun _ => []) (fun _ => by kernel_rfl) (fun _ => ?_)
            obtain ⟨⟨r18, r19⟩, h20, hM⟩ := bind_some hM
            dsimp only at hM
            refine WL.callP [] [] (octets_Get_calls k a0 12 4 _ h20) (fun _ h => List.mem_append_right _ h) (by kernel_rfl) (by kernel_rfl) rfl ?_
            refine WL.run 5 [] [0, 2, 3, 4, 5, 6] (fun _ => [(0, .string a0), (2, .pointer (some ⟨b1, 0, none⟩)), (3, .nilIface), (4, .int .i64 r12), (5, .int .i64 r14), (6, .int .u64 r18)]) (fun _ => [(b1, .cells #[.int .i64 0, .int .i64 0, .bool false, .bool false, .int .i64 0, .int .i64 0, .int .i64 0, .int .u32 0, .int .u32 0, .string (⟨#[]⟩ : ByteArray)] 91 (0, 0))]) (fun _ => []) (fun _ => by kernel_rfl) (fun _ => ?_)
            refine WP.done ?_
            refine WP.seq ?_
            refine WP.region ?_
            refine WL.run 1 [] [0, 2, 3, 4, 5, 6, 63] (fun _ => [(0, .string a0), (2, .pointer (some ⟨b1, 0, none⟩)), (3, .nilIface), (4, .int .i64 r12), (5, .int .i64 r14), (6, .int .u64 r18), (63, .string a0)]) (fun _ => [(b1, .cells #[.int .i64 0, .int .i64 0, .bool false, .bool false, .int .i64 0, .int .i64 0, .int .i64 0, .int .u32 0, .int .u32 0, .string (⟨#[]⟩ : ByteArray)] 91 (0, 0))]) (fun _ => []) (fun _ => by kernel_rfl) (fun _ => ?_)
            obtain ⟨⟨r21, r22⟩, h23, hM⟩ := bind_some hM
            dsimp only at hM
            refine WL.callP [] [] (octets_Get_calls k a0 16 4 _ h23) (fun _ h => List.mem_append_right _ h) (by kernel_rfl) (by kernel_rfl) rfl ?_
            refine WL.run 5 [] [0, 2, 3, 4, 5, 6, 8] (fun _ => [(0, .string a0), (2, .pointer (some ⟨b1, 0, none⟩)), (3, .nilIface), (4, .int .i64 r12), (5, .int .i64 r14), (6, .int .u64 r18), (8, .int .u64 r21)]) (fun _ => [(b1, .cells #[.int .i64 0, .int .i64 0, .bool false, .bool false, .int .i64 0, .int .i64 0, .int .i64 0, .int .u32 0, .int .u32 0, .string (⟨#[]⟩ : ByteArray)] 91 (0, 0))]) (fun _ => []) (fun _ => by kernel_rfl) (fun _ => ?_)
            refine WP.done ?_
            refine WP.seq ?_
            obtain ⟨t25, h26, hM⟩ := bind_some hM
            obtain ⟨r27, h28, hM⟩ := bind_some hM
            obtain ⟨t29, h30, hM⟩ := bind_some hM
            obtain ⟨t31, h32, hM⟩ := bind_some hM
            refine WP.sub [0, 2, 3, 4, 5, 6, 8] (L' := [(0, .string a0), (2, .pointer (some ⟨b1, 0, none⟩)), (3, .nilIface), (4, .int .i64 r12), (5, .int .i64 r14), (6, .int .u64 r18), (8, .int .u64 r21)]) (by kernel_rfl) ?_
            refine WP.mixed (X := Unit) 21 [.val (.string a0), .val (.int .u8 t25), .val (.int .i64 (i64 t25)), .val (.string a0), .val (.int .i64 r27), .val (.int .i64 r14), .val (.int .i64 (bAnd .i64 r14 16384)), .val (.bool ((bAnd .i64 r14 16384) != 0)), .val (.int .i64 r14), .val (.int .i64 (bAnd .i64 r14 8192)), .val (.bool ((bAnd .i64 r14 8192) != 0)), .val (.int .i64 r14), .val (.int .i64 (Int.tmod r14 8192)), .val (.string a0), .val (.int .u8 t29), .val (.int .i64 (i64 t29)), .val (.string a0), .val (.int .u8 t31), .val (.int .i64 (i64 t31)), .val (.agg #[.int .i64 (i64 t25), .int .i64 r27, .bool ((bAnd .i64 r14 16384) != 0), .bool ((bAnd .i64 r14 8192) != 0), .int .i64 (Int.tmod r14 8192), .int .i64 (i64 t29), .int .i64 (i64 t31), .int .u32 0, .int .u32 0, .string (⟨#[]⟩ : ByteArray)]), .alloc (.cells #[.int .i64 0, .int .i64 0, .bool false, .bool false, .int .i64 0, .int .i64 0, .int .i64 0, .int .u32 0, .int .u32 0, .string (⟨#[]⟩ : ByteArray)] 91 (0, 0)) (fun b => .pointer (some ⟨b, 0, none⟩))] [(b1, .cells #[.int .i64 0, .int .i64 0, .bool false, .bool false, .int .i64 0, .int .i64 0, .int .i64 0, .int .u32 0, .int .u32 0, .string (⟨#[]⟩ : ByteArray)] 91 (0, 0))] [] (by kernel_rfl) (by kernel_rfl) (by kernel_rfl) (by kernel_rfl) (Heads.val (fun tt Ψ => OpV.run [] [] (by kernel_rfl) (fun _ => by kernel_rfl)) (Heads.val (fun tt Ψ => OpV.val (fun _ => run_idxS (s := a0) (k := .i64) (i := 1) (by kernel_rfl) (by kernel_rfl) (by kernel_rfl) h26) (by kernel_rfl)) (Heads.val (fun tt Ψ => OpV.run [] [] (by kernel_rfl) (fun _ => by kernel_rfl)) (Heads.val (fun tt Ψ => OpV.run [] [] (by kernel_rfl) (fun _ => by kernel_rfl)) (Heads.val (fun tt Ψ => OpV.callF [] [] (fun _ h => (List.mem_append_right _ (List.mem_append_right _ h))) (inet_get_calls a0 4 _ h28)  (fun _ => by kernel_rfl)) (Heads.val (fun tt Ψ => OpV.run [] [] (by kernel_rfl) (fun _ => by kernel_rfl)) (Heads.val (fun tt Ψ => OpV.run [] [] (by kernel_rfl) (fun _ => by kernel_rfl)) (Heads.val (fun tt Ψ => OpV.run [] [] (by kernel_rfl) (fun _ => by kernel_rfl)) (Heads.val (fun tt Ψ => OpV.run [] [] (by kernel_rfl) (fun _ => by kernel_rfl)) (Heads.val (fun tt Ψ => OpV.run [] [] (by kernel_rfl) (fun _ => by kernel_rfl)) (Heads.val (fun tt Ψ => OpV.run [] [] (by kernel_rfl) (fun _ => by kernel_rfl)) (Heads.val (fun tt Ψ => OpV.run [] [] (by kernel_rfl) (fun _ => by kernel_rfl)) (Heads.val (fun tt Ψ => OpV.run [] [] (by kernel_rfl) (fun _ => by kernel_rfl)) (Heads.val (fun tt Ψ => OpV.run [] [] (by kernel_rfl) (fun _ => by kernel_rfl)) (Heads.val (fun tt Ψ => OpV.val (fun _ => run_idxS (s := a0) (k := .i64) (i := 8) (by kernel_rfl) (by kernel_rfl) (by kernel_rfl) h30) (by kernel_rfl)) (Heads.val (fun tt Ψ => OpV.run [] [] (by kernel_rfl) (fun _ => by kernel_rfl)) (Heads.val (fun tt Ψ => OpV.run [] [] (by kernel_rfl) (fun _ => by kernel_rfl)) (Heads.val (fun tt Ψ => OpV.val (fun _ => run_idxS (s := a0) (k := .i64) (i := 9) (by kernel_rfl) (by kernel_rfl) (by kernel_rfl) h32) (by kernel_rfl)) (Heads.val (fun tt Ψ => OpV.run [] [] (by kernel_rfl) (fun _ => by kernel_rfl)) (Heads.val (fun tt Ψ => OpV.run [] [] (by kernel_rfl) (fun _ => by kernel_rfl)) (Heads.alloc (fun _ => by kernel_rfl) (fun _ _ => by kernel_rfl) Heads.nil))))))))))))))))))))) (fun s24 tt => [(67, .string a0), (68, .int .u8 t25), (69, .int .i64 (i64 t25)), (70, .string a0), (71, .int .i64 r27), (72, .int .i64 r14), (73, .int .i64 (bAnd .i64 r14 16384)), (74, .bool ((bAnd .i64 r14 16384) != 0)), (75, .int .i64 r14), (76, .int .i64 (bAnd .i64 r14 8192)), (77, .bool ((bAnd .i64 r14 8192) != 0)), (78, .int .i64 r14), (79, .int .i64 (Int.tmod r14 8192)), (80, .string a0), (81, .int .u8 t29), (82, .int .i64 (i64 t29)), (83, .string a0), (84, .int .u8 t31), (85, .int .i64 (i64 t31)), (86, .agg #[.int .i64 (i64 t25), .int .i64 r27, .bool ((bAnd .i64 r14 16384) != 0), .bool ((bAnd .i64 r14 8192) != 0), .int .i64 (Int.tmod r14 8192), .int .i64 (i64 t29), .int .i64 (i64 t31), .int .u32 0, .int .u32 0, .string (⟨#[]⟩ : ByteArray)]), (10, .pointer (some ⟨(s24 20), 0, none⟩)), (0, .string a0), (2, .pointer (some ⟨b1, 0, none⟩)), (3, .nilIface), (4, .int .i64 r12), (5, .int .i64 r14), (6, .int .u64 r18), (8, .int .u64 r21)]) (fun s24 tt => [(b1, .cells #[.int .i64 0, .int .i64 0, .bool false, .bool false, .int .i64 0, .int .i64 0, .int .i64 0, .int .u32 0, .int .u32 0, .string (⟨#[]⟩ : ByteArray)] 91 (0, 0)), ((s24 20), .cells #[.int .i64 0, .int .i64 0, .bool false, .bool false, .int .i64 0, .int .i64 0, .int .i64 0, .int .u32 0, .int .u32 0, .string (⟨#[]⟩ : ByteArray)] 91 (0, 0))]) (fun tt => ([] ++ [Row 1 (pl encS) noK (SkL.at b8 1 (fun _ => ())) ([t6] : List ByteArray)]) ++ Glob) (fun _ _ => by kernel_rfl) (fun _ _ => by kernel_rfl) (fun _ => by kernel_rfl) (fun s24 tt => ?_)
            generalize s24 20 = b33
            refine WL.run 1 [1, 1, 1, 1, 1, 1, 1, 1, 1, 1] [0, 2, 3, 4, 6, 8, 10] (fun _ => [(0, .string a0), (2, .pointer (some ⟨b1, 0, none⟩)), (3, .nilIface), (4, .int .i64 r12), (6, .int .u64 r18), (8, .int .u64 r21), (10, .pointer (some ⟨b33, 0, none⟩))]) (fun _ => [(b1, .cells #[.int .i64 0, .int .i64 0, .bool false, .bool false, .int .i64 0, .int .i64 0, .int .i64 0, .int .u32 0, .int .u32 0, .string (⟨#[]⟩ : ByteArray)] 91 (0, 0)), (b33, .cells #[.int .i64 (i64 t25), .int .i64 r27, .bool ((bAnd .i64 r14 16384) != 0), .bool ((bAnd .i64 r14 8192) != 0), .int .i64 (Int.tmod r14 8192), .int .i64 (i64 t29), .int .i64 (i64 t31), .int .u32 0, .int .u32 0, .string (⟨#[]⟩ : ByteArray)] 91 (0, 0))]) (fun _ => [b33, b33, b33, b33, b33, b33, b33, b33, b33, b33]) (fun _ => by kernel_rfl) (fun _ => ?_)
            refine WP.done ?_
            refine WP.seq ?_
            obtain ⟨t35, h36, hM⟩ := bind_some hM
            refine WP.sub [0, 2, 3, 4, 6, 8, 10] (L' := [(0, .string a0), (2, .pointer (some ⟨b1, 0, none⟩)), (3, .nilIface), (4, .int .i64 r12), (6, .int .u64 r18), (8, .int .u64 r21), (10, .pointer (some ⟨b33, 0, none⟩))]) (by kernel_rfl) ?_
            refine WP.pick [0, 1] (by kernel_rfl) (by kernel_rfl : _ = [(b1, .cells #[.int .i64 0, .int .i64 0, .bool false, .bool false, .int .i64 0, .int .i64 0, .int .i64 0, .int .u32 0, .int .u32 0, .string (⟨#[]⟩ : ByteArray)] 91 (0, 0)), (b33, .cells #[.int .i64 (i64 t25), .int .i64 r27, .bool ((bAnd .i64 r14 16384) != 0), .bool ((bAnd .i64 r14 8192) != 0), .int .i64 (Int.tmod r14 8192), .int .i64 (i64 t29), .int .i64 (i64 t31), .int .u32 0, .int .u32 0, .string (⟨#[]⟩ : ByteArray)] 91 (0, 0))]) ?_
            refine WP.mixed (X := Unit) 11 [.val (.int .u64 r18), .val (.int .u32 (u32 r18)), .val (.int .u64 r21), .val (.int .u32 (u32 r21)), .val (.string a0), .val (.int .i64 r12), .val (.string t35), .val (.pointer (some ⟨b33, 7, none⟩)), .put 11 [] (fun tt => .cells #[.int .i64 (i64 t25), .int .i64 r27, .bool ((bAnd .i64 r14 16384) != 0), .bool ((bAnd .i64 r14 8192) != 0), .int .i64 (Int.tmod r14 8192), .int .i64 (i64 t29), .int .i64 (i64 t31), .int .u32 (u32 r18), .int .u32 0, .string (⟨#[]⟩ : ByteArray)] 91 (0, 0)), .val (.pointer (some ⟨b33, 8, none⟩)), .put 11 [] (fun tt => .cells #[.int .i64 (i64 t25), .int .i64 r27, .bool ((bAnd .i64 r14 16384) != 0), .bool ((bAnd .i64 r14 8192) != 0), .int .i64 (Int.tmod r14 8192), .int .i64 (i64 t29), .int .i64 (i64 t31), .int .u32 (u32 r18), .int .u32 (u32 r21), .string (⟨#[]⟩ : ByteArray)] 91 (0, 0))] [(b1, .cells #[.int .i64 0, .int .i64 0, .bool false, .bool false, .int .i64 0, .int .i64 0, .int .i64 0, .int .u32 0, .int .u32 0, .string (⟨#[]⟩ : ByteArray)] 91 (0, 0))] [(b33, .cells #[.int .i64 (i64 t25), .int .i64 r27, .bool ((bAnd .i64 r14 16384) != 0), .bool ((bAnd .i64 r14 8192) != 0), .int .i64 (Int.tmod r14 8192), .int .i64 (i64 t29), .int .i64 (i64 t31), .int .u32 0, .int .u32 0, .string (⟨#[]⟩ : ByteArray)] 91 (0, 0))] (by kernel_rfl) (by kernel_rfl) (by kernel_rfl) (by kernel_rfl) (Heads.val (fun tt Ψ => OpV.run [] [] (by kernel_rfl) (fun _ => by kernel_rfl)) (Heads.val (fun tt Ψ => OpV.run [] [] (by kernel_rfl) (fun _ => by kernel_rfl)) (Heads.val (fun tt Ψ => OpV.run [] [] (by kernel_rfl) (fun _ => by kernel_rfl)) (Heads.val (fun tt Ψ => OpV.run [] [] (by kernel_rfl) (fun _ => by kernel_rfl)) (Heads.val (fun tt Ψ => OpV.run [] [] (by kernel_rfl) (fun _ => by kernel_rfl)) (Heads.val (fun tt Ψ => OpV.run [] [] (by kernel_rfl) (fun _ => by kernel_rfl)) (Heads.val (fun tt Ψ => OpV.val (fun _ => run_sliceS (s := a0) (kl := .i64) (kh := .i64) (l := 20) (h := r12) (by kernel_rfl) (by kernel_rfl) (by kernel_rfl) (by kernel_rfl) h36) (by kernel_rfl)) (Heads.val (fun tt Ψ => OpV.run [] [] (by kernel_rfl) (fun _ => by kernel_rfl)) (Heads.put (fun x x' h => rfl) 0 b33 (.cells #[.int .i64 (i64 t25), .int .i64 r27, .bool ((bAnd .i64 r14 16384) != 0), .bool ((bAnd .i64 r14 8192) != 0), .int .i64 (Int.tmod r14 8192), .int .i64 (i64 t29), .int .i64 (i64 t31), .int .u32 0, .int .u32 0, .string (⟨#[]⟩ : ByteArray)] 91 (0, 0)) (fun tt => .cells #[.int .i64 (i64 t25), .int .i64 r27, .bool ((bAnd .i64 r14 16384) != 0), .bool ((bAnd .i64 r14 8192) != 0), .int .i64 (Int.tmod r14 8192), .int .i64 (i64 t29), .int .i64 (i64 t31), .int .u32 0, .int .u32 0, .string (⟨#[]⟩ : ByteArray)] 91 (0, 0)) (by kernel_rfl) rfl (fun _ => by kernel_rfl) (fun tt Ψ => OpP.run [1] [b33] (by kernel_rfl) (fun _ _ => by kernel_rfl) (fun _ _ => by kernel_rfl)) (Heads.val (fun tt Ψ => OpV.run [] [] (by kernel_rfl) (fun _ => by kernel_rfl)) (Heads.put (fun x x' h => rfl) 0 b33 (.cells #[.int .i64 (i64 t25), .int .i64 r27, .bool ((bAnd .i64 r14 16384) != 0), .bool ((bAnd .i64 r14 8192) != 0), .int .i64 (Int.tmod r14 8192), .int .i64 (i64 t29), .int .i64 (i64 t31), .int .u32 0, .int .u32 0, .string (⟨#[]⟩ : ByteArray)] 91 (0, 0)) (fun tt => .cells #[.int .i64 (i64 t25), .int .i64 r27, .bool ((bAnd .i64 r14 16384) != 0), .bool ((bAnd .i64 r14 8192) != 0), .int .i64 (Int.tmod r14 8192), .int .i64 (i64 t29), .int .i64 (i64 t31), .int .u32 (u32 r18), .int .u32 0, .string (⟨#[]⟩ : ByteArray)] 91 (0, 0)) (by kernel_rfl) rfl (fun _ => by kernel_rfl) (fun tt Ψ => OpP.run [1] [b33] (by kernel_rfl) (fun _ _ => by kernel_rfl) (fun _ _ => by kernel_rfl)) Heads.nil))))))))))) (fun s34 tt => [(87, .int .u64 r18), (88, .int .u32 (u32 r18)), (89, .int .u64 r21), (90, .int .u32 (u32 r21)), (91, .string a0), (92, .int .i64 r12), (93, .string t35), (94, .pointer (some ⟨b33, 7, none⟩)), (95, .pointer (some ⟨b33, 8, none⟩)), (0, .string a0), (2, .pointer (some ⟨b1, 0, none⟩)), (3, .nilIface), (4, .int .i64 r12), (6, .int .u64 r18), (8, .int .u64 r21), (10, .pointer (some ⟨b33, 0, none⟩))]) (fun s34 tt => [(b1, .cells #[.int .i64 0, .int .i64 0, .bool false, .bool false, .int .i64 0, .int .i64 0, .int .i64 0, .int .u32 0, .int .u32 0, .string (⟨#[]⟩ : ByteArray)] 91 (0, 0)), (b33, .cells #[.int .i64 (i64 t25), .int .i64 r27, .bool ((bAnd .i64 r14 16384) != 0), .bool ((bAnd .i64 r14 8192) != 0), .int .i64 (Int.tmod r14 8192), .int .i64 (i64 t29), .int .i64 (i64 t31), .int .u32 (u32 r18), .int .u32 (u32 r21), .string (⟨#[]⟩ : ByteArray)] 91 (0, 0))]) (fun tt => ([] ++ [Row 1 (pl encS) noK (SkL.at b8 1 (fun _ => ())) ([t6] : List ByteArray)]) ++ Glob) (fun _ _ => by kernel_rfl) (fun _ _ => by kernel_rfl) (fun _ => by kernel_rfl) (fun s34 tt => ?_)
            refine WL.run 2 [1] [2, 3, 10] (fun _ => [(2, .pointer (some ⟨b1, 0, none⟩)), (3, .nilIface), (10, .pointer (some ⟨b33, 0, none⟩))]) (fun _ => [(b1, .cells #[.int .i64 0, .int .i64 0, .bool false, .bool false, .int .i64 0, .int .i64 0, .int .i64 0, .int .u32 0, .int .u32 0, .string (⟨#[]⟩ : ByteArray)] 91 (0, 0)), (b33, .cells #[.int .i64 (i64 t25), .int .i64 r27, .bool ((bAnd .i64 r14 16384) != 0), .bool ((bAnd .i64 r14 8192) != 0), .int .i64 (Int.tmod r14 8192), .int .i64 (i64 t29), .int .i64 (i64 t31), .int .u32 (u32 r18), .int .u32 (u32 r21), .string t35] 91 (0, 0))]) (fun _ => [b33]) (fun _ => by kernel_rfl) (fun _ => ?_)
            refine WP.done ?_
            refine WP.seq ?_
            refine WP.run [1, 1, 1, 1, 1, 1, 1, 1, 1, 1, 0, 0, 0, 0, 0, 0, 0, 0, 0, 0] [2, 3] (fun _ => [(2, .pointer (some ⟨b1, 0, none⟩)), (3, .nilIface)]) (fun _ => [(b1, .cells #[.int .i64 (i64 t25), .int .i64 r27, .bool ((bAnd .i64 r14 16384) != 0), .bool ((bAnd .i64 r14 8192) != 0), .int .i64 (Int.tmod r14 8192), .int .i64 (i64 t29), .int .i64 (i64 t31), .int .u32 (u32 r18), .int .u32 (u32 r21), .string t35] 91 (0, 0)), (b33, .cells #[.int .i64 (i64 t25), .int .i64 r27, .bool ((bAnd .i64 r14 16384) != 0), .bool ((bAnd .i64 r14 8192) != 0), .int .i64 (Int.tmod r14 8192), .int .i64 (i64 t29), .int .i64 (i64 t31), .int .u32 (u32 r18), .int .u32 (u32 r21), .string t35] 91 (0, 0))]) (fun _ => [b1, b1, b1, b1, b1, b1, b1, b1, b1, b1, b33, b33, b33, b33, b33, b33, b33, b33, b33, b33]) (fun _ => by kernel_rfl) (fun _ => ?_)
            refine WP.keep [true, false] (by kernel_rfl : _ = [(b1, .cells #[.int .i64 (i64 t25), .int .i64 r27, .bool ((bAnd .i64 r14 16384) != 0), .bool ((bAnd .i64 r14 8192) != 0), .int .i64 (Int.tmod r14 8192), .int .i64 (i64 t29), .int .i64 (i64 t31), .int .u32 (u32 r18), .int .u32 (u32 r21), .string t35] 91 (0, 0))]) ?_
            obtain rfl := Option.some.inj hM
            exact WP.ret [0, 0, 0, 0, 0, 0, 0, 0, 0, 0] [b1, b1, b1, b1, b1, b1, b1, b1, b1, b1] (.tuple #[.agg #[.int .i64 (i64 t25), .int .i64 r27, .bool ((bAnd .i64 r14 16384) != 0), .bool ((bAnd .i64 r14 8192) != 0), .int .i64 (Int.tmod r14 8192), .int .i64 (i64 t29), .int .i64 (i64 t31), .int .u32 (u32 r18), .int .u32 (u32 r21), .string t35], .nilIface]) (by kernel_rfl) (fun w' hw => ⟨rfl, (hw.pick [] rfl).less (fun _ h => List.mem_append_right _ h)⟩)

end Go.Proofs.YtbodofjnfmjbpaaGreatDoor

namespace Go.Proofs.YtbodofjnfmjbpaaGreatDoor
open Go Eng
set_option linter.unusedVariables false
set_option linter.unusedSimpArgs false

/-! ### (gangway/inet.odd).Unwrap: function 165 -/
def inet_odd_Unwrap.f (a0 : inet_odd) : Option (Int) :=
  some a0.err

set_option maxRecDepth 100000 in
theorem inet_odd_Unwrap_calls (a0 : inet_odd) (r : Int) (h : inet_odd_Unwrap.f a0 = some r) : Pure Tryz.prog Glob 165 #[.agg #[.int .i64 a0.err]] (.iface 30 (.int .i64 r)) := by
  intro w Z hS
  refine calls_of (args := [.agg #[.int .i64 a0.err]]) (L := [(0, .agg #[.int .i64 a0.err])]) (N := 6) (S := Sat w Z [] [] Glob) Tryz.func165 rfl rfl (Nat.le_of_ble_eq_true rfl) rfl hS ?_
  have hM := h
  clear h hS
  unfold inet_odd_Unwrap.f at hM
  refine WP.seq ?_
  refine WP.run [] [1, 2] (fun b1 => [(1, .pointer (some ⟨b1, 0, none⟩)), (2, .nilIface)]) (fun b1 => [(b1, .cells #[.int .i64 a0.err] 188 (0, 0))]) (fun b1 => []) (fun b1 => by kernel_rfl) (fun b1 => ?_)
  refine WP.seq ?_
  refine WP.run [0] [2] (fun _ => [(2, .iface 30 (.int .i64 a0.err))]) (fun _ => [(b1, .cells #[.int .i64 a0.err] 188 (0, 0))]) (fun _ => [b1]) (fun _ => by kernel_rfl) (fun _ => ?_)
  refine WP.keep [false] (by kernel_rfl : _ = []) ?_
  obtain rfl := Option.some.inj hM
  exact WP.ret [] [] (.iface 30 (.int .i64 a0.err)) (by kernel_rfl) (fun w' hw => ⟨rfl, hw.pick [] rfl⟩)

end Go.Proofs.YtbodofjnfmjbpaaGreatDoor

namespace Go.Proofs.YtbodofjnfmjbpaaGreatDoor
open Go Eng
set_option linter.unusedVariables false
set_option linter.unusedSimpArgs false

/-! ### errors.as: function 62 -/
def errors_as_2.f (a0 : inet_odd) (a1 : Int) : Option (Bool × Int) :=
  (inet_odd_Unwrap.f a0).bind fun r3 =>
  some (true, r3)

set_option maxRecDepth 100000 in
theorem errors_as_2_calls (b_0 : Nat) (b_1 : Nat) (a0 : inet_odd) (a1 : Int) (r : Bool × Int) (h : errors_as_2.f a0 a1 = some r) : Does Tryz.prog 62 #[.iface 188 (.agg #[.int .i64 a0.err]), .iface 175 (.pointer (some ⟨b_0, 0, none⟩)), .agg #[.pointer (some ⟨2, 175, none⟩), .pointer (some ⟨b_1, 0, none⟩), .int .u64 150], .iface 148 (.agg #[.pointer (some ⟨2, 30, none⟩)])] [(b_0, .cells #[.int .i64 a1] 30 (0, 0)), (b_1, .cells #[.pointer (some ⟨b_0, 0, none⟩)] 175 (0, 0))] Glob (fun _ : Unit => .bool r.1) (fun _ => [(b_0, .cells #[.int .i64 r.2] 30 (0, 0)), (b_1, .cells #[.pointer (some ⟨b_0, 0, none⟩)] 175 (0, 0))]) (fun _ => []) (fun _ => Glob) := by
  intro w Z hS
  refine calls_of (args := [.iface 188 (.agg #[.int .i64 a0.err]), .iface 175 (.pointer (some ⟨b_0, 0, none⟩)), .agg #[.pointer (some ⟨2, 175, none⟩), .pointer (some ⟨b_1, 0, none⟩), .int .u64 150], .iface 148 (.agg #[.pointer (some ⟨2, 30, none⟩)])]) (L := [(0, .iface 188 (.agg #[.int .i64 a0.err])), (1, .iface 175 (.pointer (some ⟨b_0, 0, none⟩))), (2, .agg #[.pointer (some ⟨2, 175, none⟩), .pointer (some ⟨b_1, 0, none⟩), .int .u64 150]), (3, .iface 148 (.agg #[.pointer (some ⟨2, 30, none⟩)]))]) (N := 62) (S := Sat w Z [(b_0, .cells #[.int .i64 a1] 30 (0, 0)), (b_1, .cells #[.pointer (some ⟨b_0, 0, none⟩)] 175 (0, 0))] [] Glob) Tryz.func62 rfl rfl (Nat.le_of_ble_eq_true rfl) rfl hS ?_
  have hM := h
  clear h hS
  unfold errors_as_2.f at hM
  refine WP.seq ?_
  refine WP.run [] [0, 1, 3, 6, 8] (fun b1 => [(0, .iface 188 (.agg #[.int .i64 a0.err])), (1, .iface 175 (.pointer (some ⟨b_0, 0, none⟩))), (3, .iface 148 (.agg #[.pointer (some ⟨2, 30, none⟩)])), (6, .pointer (some ⟨b1, 0, none⟩)), (8, .bool false)]) (fun b1 => [(b_0, .cells #[.int .i64 a1] 30 (0, 0)), (b_1, .cells #[.pointer (some ⟨b_0, 0, none⟩)] 175 (0, 0)), (b1, .cells #[.pointer (some ⟨2, 175, none⟩), .pointer (some ⟨b_1, 0, none⟩), .int .u64 150] 106 (0, 0))]) (fun b1 => []) (fun b1 => by kernel_rfl) (fun b1 => ?_)
  refine WP.block ?_
  refine WP.unroll 40 ?_
  refine WP.block ?_
  refine WP.seq ?_
  refine WP.seq ?_
  refine WP.run [] [0, 1, 3, 6, 8, 16, 17, 18, 19] (fun _ => [(0, .iface 188 (.agg #[.int .i64 a0.err])), (1, .iface 175 (.pointer (some ⟨b_0, 0, none⟩))), (3, .iface 148 (.agg #[.pointer (some ⟨2, 30, none⟩)])), (6, .pointer (some ⟨b1, 0, none⟩)), (8, .bool false), (16, .iface 188 (.agg #[.int .i64 a0.err])), (17, .iface 148 (.agg #[.pointer (some ⟨2, 188, none⟩)])), (18, .iface 148 (.agg #[.pointer (some ⟨2, 30, none⟩)])), (19, .bool false)]) (fun _ => [(b_0, .cells #[.int .i64 a1] 30 (0, 0)), (b_1, .cells #[.pointer (some ⟨b_0, 0, none⟩)] 175 (0, 0)), (b1, .cells #[.pointer (some ⟨2, 175, none⟩), .pointer (some ⟨b_1, 0, none⟩), .int .u64 150] 106 (0, 0))]) (fun _ => []) (fun _ => by kernel_rfl) (fun _ => ?_)
  refine WP.no rfl rfl ?_
  refine WP.skip ?_
  refine WP.seq ?_
  refine WP.seq ?_
  refine WP.region ?_
  refine WL.run 1 [] [0, 1, 3, 6, 8, 16, 17, 18, 19, 26] (fun _ => [(0, .iface 188 (.agg #[.int .i64 a0.err])), (1, .iface 175 (.pointer (some ⟨b_0, 0, none⟩))), (3, .iface 148 (.agg #[.pointer (some ⟨2, 30, none⟩)])), (6, .pointer (some ⟨b1, 0, none⟩)), (8, .bool false), (16, .iface 188 (.agg #[.int .i64 a0.err])), (17, .iface 148 (.agg #[.pointer (some ⟨2, 188, none⟩)])), (18, .iface 148 (.agg #[.pointer (some ⟨2, 30, none⟩)])), (19, .bool false), (26, .iface 188 (.agg #[.int .i64 a0.err]))]) (fun _ => [(b_0, .cells #[.int .i64 a1] 30 (0, 0)), (b_1, .cells #[.pointer (some ⟨b_0, 0, none⟩)] 175 (0, 0)), (b1, .cells #[.pointer (some ⟨2, 175, none⟩), .pointer (some ⟨b_1, 0, none⟩), .int .u64 150] 106 (0, 0))]) (fun _ => []) (fun _ => by kernel_rfl) (fun _ => ?_)
  refine WL.val (fun _ => run_assertLacks (t := 188) (v := .agg #[.int .i64 a0.err]) (z := .nilIface) (by kernel_rfl) (by kernel_rfl) (by kernel_rfl)) (by kernel_rfl) (by kernel_rfl) rfl ?_
  refine WL.run 5 [] [0, 1, 3, 6, 8, 9, 10, 16, 17, 18, 19, 25, 26, 27, 28, 29] (fun _ => [(0, .iface 188 (.agg #[.int .i64 a0.err])), (1, .iface 175 (.pointer (some ⟨b_0, 0, none⟩))), (3, .iface 148 (.agg #[.pointer (some ⟨2, 30, none⟩)])), (6, .pointer (some ⟨b1, 0, none⟩)), (8, .bool false), (9, .nilIface), (10, .bool false), (16, .iface 188 (.agg #[.int .i64 a0.err])), (17, .iface 148 (.agg #[.pointer (some ⟨2, 188, none⟩)])), (18, .iface 148 (.agg #[.pointer (some ⟨2, 30, none⟩)])), (19, .bool false), (25, .tuple #[.nilIface, .bool false]), (26, .iface 188 (.agg #[.int .i64 a0.err])), (27, .tuple #[.nilIface, .bool false]), (28, .nilIface), (29, .bool false)]) (fun _ => [(b_0, .cells #[.int .i64 a1] 30 (0, 0)), (b_1, .cells #[.pointer (some ⟨b_0, 0, none⟩)] 175 (0, 0)), (b1, .cells #[.pointer (some ⟨2, 175, none⟩), .pointer (some ⟨b_1, 0, none⟩), .int .u64 150] 106 (0, 0))]) (fun _ => []) (fun _ => by kernel_rfl) (fun _ => ?_)
  refine WP.done ?_
  refine WP.seq ?_
  refine WP.run [] [0, 1, 3, 6, 8, 9, 10, 16, 17, 18, 19, 25, 26, 27, 28, 29, 30, 31, 32, 33, 34, 35] (fun _ => [(0, .iface 188 (.agg #[.int .i64 a0.err])), (1, .iface 175 (.pointer (some ⟨b_0, 0, none⟩))), (3, .iface 148 (.agg #[.pointer (some ⟨2, 30, none⟩)])), (6, .pointer (some ⟨b1, 0, none⟩)), (8, .bool false), (9, .nilIface), (10, .bool false), (16, .iface 188 (.agg #[.int .i64 a0.err])), (17, .iface 148 (.agg #[.pointer (some ⟨2, 188, none⟩)])), (18, .iface 148 (.agg #[.pointer (some ⟨2, 30, none⟩)])), (19, .bool false), (25, .tuple #[.nilIface, .bool false]), (26, .iface 188 (.agg #[.int .i64 a0.err])), (27, .tuple #[.nilIface, .bool false]), (28, .nilIface), (29, .bool false), (30, .bool false), (31, .bool false), (32, .tuple #[]), (33, .tuple #[]), (34, .tuple #[]), (35, .bool false)]) (fun _ => [(b_0, .cells #[.int .i64 a1] 30 (0, 0)), (b_1, .cells #[.pointer (some ⟨b_0, 0, none⟩)] 175 (0, 0)), (b1, .cells #[.pointer (some ⟨2, 175, none⟩), .pointer (some ⟨b_1, 0, none⟩), .int .u64 150] 106 (0, 0))]) (fun _ => []) (fun _ => by kernel_rfl) (fun _ => ?_)
  refine WP.no rfl rfl ?_
  refine WP.skip ?_
  refine WP.seq ?_
  refine WP.run [] [0, 1, 3, 6, 8, 9, 10, 16, 17, 18, 19, 25, 26, 27, 28, 29, 30, 31, 32, 33, 34, 35, 36] (fun _ => [(0, .iface 188 (.agg #[.int .i64 a0.err])), (1, .iface 175 (.pointer (some ⟨b_0, 0, none⟩))), (3, .iface 148 (.agg #[.pointer (some ⟨2, 30, none⟩)])), (6, .pointer (some ⟨b1, 0, none⟩)), (8, .bool false), (9, .nilIface), (10, .bool false), (16, .iface 188 (.agg #[.int .i64 a0.err])), (17, .iface 148 (.agg #[.pointer (some ⟨2, 188, none⟩)])), (18, .iface 148 (.agg #[.pointer (some ⟨2, 30, none⟩)])), (19, .bool false), (25, .tuple #[.nilIface, .bool false]), (26, .iface 188 (.agg #[.int .i64 a0.err])), (27, .tuple #[.nilIface, .bool false]), (28, .nilIface), (29, .bool false), (30, .bool false), (31, .bool false), (32, .tuple #[]), (33, .tuple #[]), (34, .tuple #[]), (35, .bool false), (36, .iface 188 (.agg #[.int .i64 a0.err]))]) (fun _ => [(b_0, .cells #[.int .i64 a1] 30 (0, 0)), (b_1, .cells #[.pointer (some ⟨b_0, 0, none⟩)] 175 (0, 0)), (b1, .cells #[.pointer (some ⟨2, 175, none⟩), .pointer (some ⟨b_1, 0, none⟩), .int .u64 150] 106 (0, 0))]) (fun _ => []) (fun _ => by kernel_rfl) (fun _ => ?_)
  refine WP.block ?_
  refine WP.seq ?_
  refine WP.region ?_
  refine WL.val (fun _ => run_assertHas (t := 188) (v := .agg #[.int .i64 a0.err]) (by kernel_rfl) (by kernel_rfl)) (by kernel_rfl) (by kernel_rfl) rfl ?_
  refine WL.run 2 [] [0, 1, 3, 6, 8, 9, 10, 16, 17, 18, 19, 25, 26, 27, 28, 29, 30, 31, 32, 33, 34, 35, 36, 37, 38, 39] (fun _ => [(0, .iface 188 (.agg #[.int .i64 a0.err])), (1, .iface 175 (.pointer (some ⟨b_0, 0, none⟩))), (3, .iface 148 (.agg #[.pointer (some ⟨2, 30, none⟩)])), (6, .pointer (some ⟨b1, 0, none⟩)), (8, .bool false), (9, .nilIface), (10, .bool false), (16, .iface 188 (.agg #[.int .i64 a0.err])), (17, .iface 148 (.agg #[.pointer (some ⟨2, 188, none⟩)])), (18, .iface 148 (.agg #[.pointer (some ⟨2, 30, none⟩)])), (19, .bool false), (25, .tuple #[.nilIface, .bool false]), (26, .iface 188 (.agg #[.int .i64 a0.err])), (27, .tuple #[.nilIface, .bool false]), (28, .nilIface), (29, .bool false), (30, .bool false), (31, .bool false), (32, .tuple #[]), (33, .tuple #[]), (34, .tuple #[]), (35, .bool false), (36, .iface 188 (.agg #[.int .i64 a0.err])), (37, .tuple #[.iface 188 (.agg #[.int .i64 a0.err]), .bool true]), (38, .bool true), (39, .iface 188 (.agg #[.int .i64 a0.err]))]) (fun _ => [(b_0, .cells #[.int .i64 a1] 30 (0, 0)), (b_1, .cells #[.pointer (some ⟨b_0, 0, none⟩)] 175 (0, 0)), (b1, .cells #[.pointer (some ⟨2, 175, none⟩), .pointer (some ⟨b_1, 0, none⟩), .int .u64 150] 106 (0, 0))]) (fun _ => []) (fun _ => by kernel_rfl) (fun _ => ?_)
  refine WP.done ?_
  refine WP.yes rfl rfl ?_
  refine WP.seq ?_
  refine WP.run [] [0, 1, 3, 6, 8, 9, 10, 11, 16, 17, 18, 19, 25, 26, 27, 28, 29, 30, 31, 32, 33, 34, 35, 36, 37, 38, 39] (fun _ => [(0, .iface 188 (.agg #[.int .i64 a0.err])), (1, .iface 175 (.pointer (some ⟨b_0, 0, none⟩))), (3, .iface 148 (.agg #[.pointer (some ⟨2, 30, none⟩)])), (6, .pointer (some ⟨b1, 0, none⟩)), (8, .bool false), (9, .nilIface), (10, .bool false), (11, .iface 188 (.agg #[.int .i64 a0.err])), (16, .iface 188 (.agg #[.int .i64 a0.err])), (17, .iface 148 (.agg #[.pointer (some ⟨2, 188, none⟩)])), (18, .iface 148 (.agg #[.pointer (some ⟨2, 30, none⟩)])), (19, .bool false), (25, .tuple #[.nilIface, .bool false]), (26, .iface 188 (.agg #[.int .i64 a0.err])), (27, .tuple #[.nilIface, .bool false]), (28, .nilIface), (29, .bool false), (30, .bool false), (31, .bool false), (32, .tuple #[]), (33, .tuple #[]), (34, .tuple #[]), (35, .bool false), (36, .iface 188 (.agg #[.int .i64 a0.err])), (37, .tuple #[.iface 188 (.agg #[.int .i64 a0.err]), .bool true]), (38, .bool true), (39, .iface 188 (.agg #[.int .i64 a0.err]))]) (fun _ => [(b_0, .cells #[.int .i64 a1] 30 (0, 0)), (b_1, .cells #[.pointer (some ⟨b_0, 0, none⟩)] 175 (0, 0)), (b1, .cells #[.pointer (some ⟨2, 175, none⟩), .pointer (some ⟨b_1, 0, none⟩), .int .u64 150] 106 (0, 0))]) (fun _ => []) (fun _ => by kernel_rfl) (fun _ => ?_)
  refine WP.seq ?_
  refine WP.region ?_
  refine WL.run 1 [] [0, 1, 3, 6, 8, 9, 10, 11, 16, 17, 18, 19, 25, 26, 27, 28, 29, 30, 31, 32, 33, 34, 35, 36, 37, 38, 39, 40] (fun _ => [(0, .iface 188 (.agg #[.int .i64 a0.err])), (1, .iface 175 (.pointer (some ⟨b_0, 0, none⟩))), (3, .iface 148 (.agg #[.pointer (some ⟨2, 30, none⟩)])), (6, .pointer (some ⟨b1, 0, none⟩)), (8, .bool false), (9, .nilIface), (10, .bool false), (11, .iface 188 (.agg #[.int .i64 a0.err])), (16, .iface 188 (.agg #[.int .i64 a0.err])), (17, .iface 148 (.agg #[.pointer (some ⟨2, 188, none⟩)])), (18, .iface 148 (.agg #[.pointer (some ⟨2, 30, none⟩)])), (19, .bool false), (25, .tuple #[.nilIface, .bool false]), (26, .iface 188 (.agg #[.int .i64 a0.err])), (27, .tuple #[.nilIface, .bool false]), (28, .nilIface), (29, .bool false), (30, .bool false), (31, .bool false), (32, .tuple #[]), (33, .tuple #[]), (34, .tuple #[]), (35, .bool false), (36, .iface 188 (.agg #[.int .i64 a0.err])), (37, .tuple #[.iface 188 (.agg #[.int .i64 a0.err]), .bool true]), (38, .bool true), (39, .iface 188 (.agg #[.int .i64 a0.err])), (40, .iface 188 (.agg #[.int .i64 a0.err]))]) (fun _ => [(b_0, .cells #[.int .i64 a1] 30 (0, 0)), (b_1, .cells #[.pointer (some ⟨b_0, 0, none⟩)] 175 (0, 0)), (b1, .cells #[.pointer (some ⟨2, 175, none⟩), .pointer (some ⟨b_1, 0, none⟩), .int .u64 150] 106 (0, 0))]) (fun _ => []) (fun _ => by kernel_rfl) (fun _ => ?_)
  obtain ⟨r3, h4, hM⟩ := bind_some hM
  refine WL.callP [] [] (inet_odd_Unwrap_calls a0 _ h4) (fun _ h => h) (by kernel_rfl) (by kernel_rfl) rfl ?_
  refine WL.run 1 [] [0, 1, 3, 6, 8, 9, 10, 11, 16, 17, 18, 19, 25, 26, 27, 28, 29, 30, 31, 32, 33, 34, 35, 36, 37, 38, 39, 40, 41] (fun _ => [(0, .iface 30 (.int .i64 r3)), (1, .iface 175 (.pointer (some ⟨b_0, 0, none⟩))), (3, .iface 148 (.agg #[.pointer (some ⟨2, 30, none⟩)])), (6, .pointer (some ⟨b1, 0, none⟩)), (8, .bool false), (9, .nilIface), (10, .bool false), (11, .iface 188 (.agg #[.int .i64 a0.err])), (16, .iface 188 (.agg #[.int .i64 a0.err])), (17, .iface 148 (.agg #[.pointer (some ⟨2, 188, none⟩)])), (18, .iface 148 (.agg #[.pointer (some ⟨2, 30, none⟩)])), (19, .bool false), (25, .tuple #[.nilIface, .bool false]), (26, .iface 188 (.agg #[.int .i64 a0.err])), (27, .tuple #[.nilIface, .bool false]), (28, .nilIface), (29, .bool false), (30, .bool false), (31, .bool false), (32, .tuple #[]), (33, .tuple #[]), (34, .tuple #[]), (35, .bool false), (36, .iface 188 (.agg #[.int .i64 a0.err])), (37, .tuple #[.iface 188 (.agg #[.int .i64 a0.err]), .bool true]), (38, .bool true), (39, .iface 188 (.agg #[.int .i64 a0.err])), (40, .iface 188 (.agg #[.int .i64 a0.err])), (41, .iface 30 (.int .i64 r3))]) (fun _ => [(b_0, .cells #[.int .i64 a1] 30 (0, 0)), (b_1, .cells #[.pointer (some ⟨b_0, 0, none⟩)] 175 (0, 0)), (b1, .cells #[.pointer (some ⟨2, 175, none⟩), .pointer (some ⟨b_1, 0, none⟩), .int .u64 150] 106 (0, 0))]) (fun _ => []) (fun _ => by kernel_rfl) (fun _ => ?_)
  refine WP.done ?_
  refine WP.seq ?_
  refine WP.run [] [0, 1, 3, 6, 8, 9, 10, 11, 16, 17, 18, 19, 25, 26, 27, 28, 29, 30, 31, 32, 33, 34, 35, 36, 37, 38, 39, 40, 41, 42, 43] (fun _ => [(0, .iface 30 (.int .i64 r3)), (1, .iface 175 (.pointer (some ⟨b_0, 0, none⟩))), (3, .iface 148 (.agg #[.pointer (some ⟨2, 30, none⟩)])), (6, .pointer (some ⟨b1, 0, none⟩)), (8, .bool false), (9, .nilIface), (10, .bool false), (11, .iface 188 (.agg #[.int .i64 a0.err])), (16, .iface 188 (.agg #[.int .i64 a0.err])), (17, .iface 148 (.agg #[.pointer (some ⟨2, 188, none⟩)])), (18, .iface 148 (.agg #[.pointer (some ⟨2, 30, none⟩)])), (19, .bool false), (25, .tuple #[.nilIface, .bool false]), (26, .iface 188 (.agg #[.int .i64 a0.err])), (27, .tuple #[.nilIface, .bool false]), (28, .nilIface), (29, .bool false), (30, .bool false), (31, .bool false), (32, .tuple #[]), (33, .tuple #[]), (34, .tuple #[]), (35, .bool false), (36, .iface 188 (.agg #[.int .i64 a0.err])), (37, .tuple #[.iface 188 (.agg #[.int .i64 a0.err]), .bool true]), (38, .bool true), (39, .iface 188 (.agg #[.int .i64 a0.err])), (40, .iface 188 (.agg #[.int .i64 a0.err])), (41, .iface 30 (.int .i64 r3)), (42, .iface 30 (.int .i64 r3)), (43, .bool false)]) (fun _ => [(b_0, .cells #[.int .i64 a1] 30 (0, 0)), (b_1, .cells #[.pointer (some ⟨b_0, 0, none⟩)] 175 (0, 0)), (b1, .cells #[.pointer (some ⟨2, 175, none⟩), .pointer (some ⟨b_1, 0, none⟩), .int .u64 150] 106 (0, 0))]) (fun _ => []) (fun _ => by kernel_rfl) (fun _ => ?_)
  refine WP.no rfl rfl ?_
  refine WP.skip ?_
  refine WP.leave ?_
  refine WP.leave ?_
  refine WP.round ?_
  refine WP.block ?_
  refine WP.seq ?_
  refine WP.seq ?_
  refine WP.run [] [0, 1, 3, 6, 8, 9, 10, 11, 16, 17, 18, 19, 25, 26, 27, 28, 29, 30, 31, 32, 33, 34, 35, 36, 37, 38, 39, 40, 41, 42, 43] (fun _ => [(0, .iface 30 (.int .i64 r3)), (1, .iface 175 (.pointer (some ⟨b_0, 0, none⟩))), (3, .iface 148 (.agg #[.pointer (some ⟨2, 30, none⟩)])), (6, .pointer (some ⟨b1, 0, none⟩)), (8, .bool false), (9, .nilIface), (10, .bool false), (11, .iface 188 (.agg #[.int .i64 a0.err])), (16, .iface 30 (.int .i64 r3)), (17, .iface 148 (.agg #[.pointer (some ⟨2, 30, none⟩)])), (18, .iface 148 (.agg #[.pointer (some ⟨2, 30, none⟩)])), (19, .bool true), (25, .tuple #[.nilIface, .bool false]), (26, .iface 188 (.agg #[.int .i64 a0.err])), (27, .tuple #[.nilIface, .bool false]), (28, .nilIface), (29, .bool false), (30, .bool false), (31, .bool false), (32, .tuple #[]), (33, .tuple #[]), (34, .tuple #[]), (35, .bool false), (36, .iface 188 (.agg #[.int .i64 a0.err])), (37, .tuple #[.iface 188 (.agg #[.int .i64 a0.err]), .bool true]), (38, .bool true), (39, .iface 188 (.agg #[.int .i64 a0.err])), (40, .iface 188 (.agg #[.int .i64 a0.err])), (41, .iface 30 (.int .i64 r3)), (42, .iface 30 (.int .i64 r3)), (43, .bool false)]) (fun _ => [(b_0, .cells #[.int .i64 a1] 30 (0, 0)), (b_1, .cells #[.pointer (some ⟨b_0, 0, none⟩)] 175 (0, 0)), (b1, .cells #[.pointer (some ⟨2, 175, none⟩), .pointer (some ⟨b_1, 0, none⟩), .int .u64 150] 106 (0, 0))]) (fun _ => []) (fun _ => by kernel_rfl) (fun _ => ?_)
  refine WP.yes rfl rfl ?_
  refine WP.seq ?_
  refine WP.run [2, 2, 2, 1, 3, 0] [0, 1, 3, 6, 8, 9, 10, 11, 16, 17, 18, 19, 20, 21, 22, 23, 25, 26, 27, 28, 29, 30, 31, 32, 33, 34, 35, 36, 37, 38, 39, 40, 41, 42, 43] (fun b5 => [(0, .iface 30 (.int .i64 r3)), (1, .iface 175 (.pointer (some ⟨b_0, 0, none⟩))), (3, .iface 148 (.agg #[.pointer (some ⟨2, 30, none⟩)])), (6, .pointer (some ⟨b1, 0, none⟩)), (8, .bool false), (9, .nilIface), (10, .bool false), (11, .iface 188 (.agg #[.int .i64 a0.err])), (16, .iface 30 (.int .i64 r3)), (17, .iface 148 (.agg #[.pointer (some ⟨2, 30, none⟩)])), (18, .iface 148 (.agg #[.pointer (some ⟨2, 30, none⟩)])), (19, .bool true), (20, .agg #[.pointer (some ⟨2, 175, none⟩), .pointer (some ⟨b_1, 0, none⟩), .int .u64 150]), (21, .agg #[.pointer (some ⟨2, 30, none⟩), .pointer (some ⟨b_0, 0, none⟩), .int .u64 386]), (22, .iface 30 (.int .i64 r3)), (23, .agg #[.pointer (some ⟨2, 30, none⟩), .pointer (some ⟨b5, 0, none⟩), .int .u64 130]), (25, .tuple #[.nilIface, .bool false]), (26, .iface 188 (.agg #[.int .i64 a0.err])), (27, .tuple #[.nilIface, .bool false]), (28, .nilIface), (29, .bool false), (30, .bool false), (31, .bool false), (32, .tuple #[]), (33, .tuple #[]), (34, .tuple #[]), (35, .bool false), (36, .iface 188 (.agg #[.int .i64 a0.err])), (37, .tuple #[.iface 188 (.agg #[.int .i64 a0.err]), .bool true]), (38, .bool true), (39, .iface 188 (.agg #[.int .i64 a0.err])), (40, .iface 188 (.agg #[.int .i64 a0.err])), (41, .iface 30 (.int .i64 r3)), (42, .iface 30 (.int .i64 r3)), (43, .bool false)]) (fun b5 => [(b_0, .cells #[.int .i64 r3] 30 (0, 0)), (b_1, .cells #[.pointer (some ⟨b_0, 0, none⟩)] 175 (0, 0)), (b1, .cells #[.pointer (some ⟨2, 175, none⟩), .pointer (some ⟨b_1, 0, none⟩), .int .u64 150] 106 (0, 0)), (b5, .cells #[.int .i64 r3] 30 (0, 0))]) (fun b5 => [b_0, b5, b_1, b1, b1, b1]) (fun b5 => by kernel_rfl) (fun b5 => ?_)
  refine WP.seq ?_
  refine WP.run [] [0, 1, 3, 6, 8, 9, 10, 11, 16, 17, 18, 19, 20, 21, 22, 23, 25, 26, 27, 28, 29, 30, 31, 32, 33, 34, 35, 36, 37, 38, 39, 40, 41, 42, 43] (fun _ => [(0, .iface 30 (.int .i64 r3)), (1, .iface 175 (.pointer (some ⟨b_0, 0, none⟩))), (3, .iface 148 (.agg #[.pointer (some ⟨2, 30, none⟩)])), (6, .pointer (some ⟨b1, 0, none⟩)), (8, .bool true), (9, .nilIface), (10, .bool false), (11, .iface 188 (.agg #[.int .i64 a0.err])), (16, .iface 30 (.int .i64 r3)), (17, .iface 148 (.agg #[.pointer (some ⟨2, 30, none⟩)])), (18, .iface 148 (.agg #[.pointer (some ⟨2, 30, none⟩)])), (19, .bool true), (20, .agg #[.pointer (some ⟨2, 175, none⟩), .pointer (some ⟨b_1, 0, none⟩), .int .u64 150]), (21, .agg #[.pointer (some ⟨2, 30, none⟩), .pointer (some ⟨b_0, 0, none⟩), .int .u64 386]), (22, .iface 30 (.int .i64 r3)), (23, .agg #[.pointer (some ⟨2, 30, none⟩), .pointer (some ⟨b5, 0, none⟩), .int .u64 130]), (25, .tuple #[.nilIface, .bool false]), (26, .iface 188 (.agg #[.int .i64 a0.err])), (27, .tuple #[.nilIface, .bool false]), (28, .nilIface), (29, .bool false), (30, .bool false), (31, .bool false), (32, .tuple #[]), (33, .tuple #[]), (34, .tuple #[]), (35, .bool false), (36, .iface 188 (.agg #[.int .i64 a0.err])), (37, .tuple #[.iface 188 (.agg #[.int .i64 a0.err]), .bool true]), (38, .bool true), (39, .iface 188 (.agg #[.int .i64 a0.err])), (40, .iface 188 (.agg #[.int .i64 a0.err])), (41, .iface 30 (.int .i64 r3)), (42, .iface 30 (.int .i64 r3)), (43, .bool false)]) (fun _ => [(b_0, .cells #[.int .i64 r3] 30 (0, 0)), (b_1, .cells #[.pointer (some ⟨b_0, 0, none⟩)] 175 (0, 0)), (b1, .cells #[.pointer (some ⟨2, 175, none⟩), .pointer (some ⟨b_1, 0, none⟩), .int .u64 150] 106 (0, 0)), (b5, .cells #[.int .i64 r3] 30 (0, 0))]) (fun _ => []) (fun _ => by kernel_rfl) (fun _ => ?_)
  obtain rfl := Option.some.inj hM
  exact WP.ret [] [] (.bool true) (by kernel_rfl) (fun w' hw => ⟨(), rfl, hw.pick [0, 1] (by kernel_rfl)⟩)

end Go.Proofs.YtbodofjnfmjbpaaGreatDoor

namespace Go.Proofs.YtbodofjnfmjbpaaGreatDoor
open Go Eng
set_option linter.unusedVariables false
set_option linter.unusedSimpArgs false

/-! ### errors.As: function 34 -/
def errors_As_2.f (a0 : inet_odd) (a1 : Int) : Option (Bool × Int) :=
  (errors_as_2.f a0 a1).bind fun (r2, r3) =>
  some (r2, r3)

set_option maxRecDepth 100000 in
theorem errors_As_2_calls (b_0 : Nat) (a0 : inet_odd) (a1 : Int) (r : Bool × Int) (h : errors_As_2.f a0 a1 = some r) : Does Tryz.prog 34 #[.iface 188 (.agg #[.int .i64 a0.err]), .iface 175 (.pointer (some ⟨b_0, 0, none⟩))] [(b_0, .cells #[.int .i64 a1] 30 (0, 0))] Glob (fun _ : Unit => .bool r.1) (fun _ => [(b_0, .cells #[.int .i64 r.2] 30 (0, 0))]) (fun _ => []) (fun _ => Glob) := by
  intro w Z hS
  refine calls_of (args := [.iface 188 (.agg #[.int .i64 a0.err]), .iface 175 (.pointer (some ⟨b_0, 0, none⟩))]) (L := [(0, .iface 188 (.agg #[.int .i64 a0.err])), (1, .iface 175 (.pointer (some ⟨b_0, 0, none⟩)))]) (N := 42) (S := Sat w Z [(b_0, .cells #[.int .i64 a1] 30 (0, 0))] [] Glob) Tryz.func34 rfl rfl (Nat.le_of_ble_eq_true rfl) rfl hS ?_
  have hM := h
  clear h hS
  unfold errors_As_2.f at hM
  refine WP.seq ?_
  refine WP.run [] [0, 1, 4] (fun _ => [(0, .iface 188 (.agg #[.int .i64 a0.err])), (1, .iface 175 (.pointer (some ⟨b_0, 0, none⟩))), (4, .bool false)]) (fun _ => [(b_0, .cells #[.int .i64 a1] 30 (0, 0))]) (fun _ => []) (fun _ => by kernel_rfl) (fun _ => ?_)
  refine WP.seq ?_
  refine WP.seq ?_
  refine WP.run [] [0, 1, 4, 9] (fun _ => [(0, .iface 188 (.agg #[.int .i64 a0.err])), (1, .iface 175 (.pointer (some ⟨b_0, 0, none⟩))), (4, .bool false), (9, .bool false)]) (fun _ => [(b_0, .cells #[.int .i64 a1] 30 (0, 0))]) (fun _ => []) (fun _ => by kernel_rfl) (fun _ => ?_)
  refine WP.no rfl rfl ?_
  refine WP.skip ?_
  refine WP.seq ?_
  refine WP.seq ?_
  refine WP.run [] [0, 1, 4, 11] (fun _ => [(0, .iface 188 (.agg #[.int .i64 a0.err])), (1, .iface 175 (.pointer (some ⟨b_0, 0, none⟩))), (4, .bool false), (11, .bool false)]) (fun _ => [(b_0, .cells #[.int .i64 a1] 30 (0, 0))]) (fun _ => []) (fun _ => by kernel_rfl) (fun _ => ?_)
  refine WP.no rfl rfl ?_
  refine WP.skip ?_
  refine WP.seq ?_
  refine WP.run [2, 2, 2] [0, 1, 4, 5] (fun b1 => [(0, .iface 188 (.agg #[.int .i64 a0.err])), (1, .iface 175 (.pointer (some ⟨b_0, 0, none⟩))), (4, .bool false), (5, .pointer (some ⟨(b1 + 1), 0, none⟩))]) (fun b1 => [(b_0, .cells #[.int .i64 a1] 30 (0, 0)), (b1, .cells #[.pointer (some ⟨b_0, 0, none⟩)] 175 (0, 0)), ((b1 + 1), .cells #[.pointer (some ⟨2, 175, none⟩), .pointer (some ⟨b1, 0, none⟩), .int .u64 150] 106 (0, 0))]) (fun b1 => [(b1 + 1), (b1 + 1), (b1 + 1)]) (fun b1 => by kernel_rfl) (fun b1 => ?_)
  refine WP.seq ?_
  refine WP.run [2, 2, 2] [0, 1, 4, 5, 6] (fun _ => [(0, .iface 188 (.agg #[.int .i64 a0.err])), (1, .iface 175 (.pointer (some ⟨b_0, 0, none⟩))), (4, .bool false), (5, .pointer (some ⟨(b1 + 1), 0, none⟩)), (6, .iface 148 (.agg #[.pointer (some ⟨2, 175, none⟩)]))]) (fun _ => [(b_0, .cells #[.int .i64 a1] 30 (0, 0)), (b1, .cells #[.pointer (some ⟨b_0, 0, none⟩)] 175 (0, 0)), ((b1 + 1), .cells #[.pointer (some ⟨2, 175, none⟩), .pointer (some ⟨b1, 0, none⟩), .int .u64 150] 106 (0, 0))]) (fun _ => [(b1 + 1), (b1 + 1), (b1 + 1)]) (fun _ => by kernel_rfl) (fun _ => ?_)
  refine WP.seq ?_
  refine WP.seq ?_
  refine WP.run [2, 2, 2, 1] [0, 1, 4, 5, 6, 23] (fun _ => [(0, .iface 188 (.agg #[.int .i64 a0.err])), (1, .iface 175 (.pointer (some ⟨b_0, 0, none⟩))), (4, .bool false), (5, .pointer (some ⟨(b1 + 1), 0, none⟩)), (6, .iface 148 (.agg #[.pointer (some ⟨2, 175, none⟩)])), (23, .bool false)]) (fun _ => [(b_0, .cells #[.int .i64 a1] 30 (0, 0)), (b1, .cells #[.pointer (some ⟨b_0, 0, none⟩)] 175 (0, 0)), ((b1 + 1), .cells #[.pointer (some ⟨2, 175, none⟩), .pointer (some ⟨b1, 0, none⟩), .int .u64 150] 106 (0, 0))]) (fun _ => [b1, (b1 + 1), (b1 + 1), (b1 + 1)]) (fun _ => by kernel_rfl) (fun _ => ?_)
  refine WP.no rfl rfl ?_
  refine WP.skip ?_
  refine WP.seq ?_
  refine WP.run [] [0, 1, 4, 5, 7] (fun _ => [(0, .iface 188 (.agg #[.int .i64 a0.err])), (1, .iface 175 (.pointer (some ⟨b_0, 0, none⟩))), (4, .bool false), (5, .pointer (some ⟨(b1 + 1), 0, none⟩)), (7, .iface 148 (.agg #[.pointer (some ⟨2, 30, none⟩)]))]) (fun _ => [(b_0, .cells #[.int .i64 a1] 30 (0, 0)), (b1, .cells #[.pointer (some ⟨b_0, 0, none⟩)] 175 (0, 0)), ((b1 + 1), .cells #[.pointer (some ⟨2, 175, none⟩), .pointer (some ⟨b1, 0, none⟩), .int .u64 150] 106 (0, 0))]) (fun _ => []) (fun _ => by kernel_rfl) (fun _ => ?_)
  refine WP.seq ?_
  refine WP.seq ?_
  refine WP.region ?_
  refine WL.run 5 [] [0, 1, 4, 5, 7, 30, 31] (fun _ => [(0, .iface 188 (.agg #[.int .i64 a0.err])), (1, .iface 175 (.pointer (some ⟨b_0, 0, none⟩))), (4, .bool false), (5, .pointer (some ⟨(b1 + 1), 0, none⟩)), (7, .iface 148 (.agg #[.pointer (some ⟨2, 30, none⟩)])), (30, .bool true), (31, .iface 148 (.agg #[.pointer (some ⟨2, 30, none⟩)]))]) (fun _ => [(b_0, .cells #[.int .i64 a1] 30 (0, 0)), (b1, .cells #[.pointer (some ⟨b_0, 0, none⟩)] 175 (0, 0)), ((b1 + 1), .cells #[.pointer (some ⟨2, 175, none⟩), .pointer (some ⟨b1, 0, none⟩), .int .u64 150] 106 (0, 0))]) (fun _ => []) (fun _ => by kernel_rfl) (fun _ => ?_)
  refine WL.loadGlob (v := .iface 148 (.agg #[.pointer (some ⟨2, 73, none⟩)])) (by simp [Glob]) (fun _ => by kernel_rfl) (by kernel_rfl) rfl ?_
  refine WL.run 3 [] [0, 1, 4, 5, 7, 35] (fun _ => [(0, .iface 188 (.agg #[.int .i64 a0.err])), (1, .iface 175 (.pointer (some ⟨b_0, 0, none⟩))), (4, .bool false), (5, .pointer (some ⟨(b1 + 1), 0, none⟩)), (7, .iface 148 (.agg #[.pointer (some ⟨2, 30, none⟩)])), (35, .bool false)]) (fun _ => [(b_0, .cells #[.int .i64 a1] 30 (0, 0)), (b1, .cells #[.pointer (some ⟨b_0, 0, none⟩)] 175 (0, 0)), ((b1 + 1), .cells #[.pointer (some ⟨2, 175, none⟩), .pointer (some ⟨b1, 0, none⟩), .int .u64 150] 106 (0, 0))]) (fun _ => []) (fun _ => by kernel_rfl) (fun _ => ?_)
  refine WP.done ?_
  refine WP.no rfl rfl ?_
  refine WP.skip ?_
  refine WP.seq ?_
  refine WP.region ?_
  refine WL.run 4 [2, 2, 2] [4, 37, 38, 39, 40] (fun _ => [(4, .bool false), (37, .iface 188 (.agg #[.int .i64 a0.err])), (38, .iface 175 (.pointer (some ⟨b_0, 0, none⟩))), (39, .agg #[.pointer (some ⟨2, 175, none⟩), .pointer (some ⟨b1, 0, none⟩), .int .u64 150]), (40, .iface 148 (.agg #[.pointer (some ⟨2, 30, none⟩)]))]) (fun _ => [(b_0, .cells #[.int .i64 a1] 30 (0, 0)), (b1, .cells #[.pointer (some ⟨b_0, 0, none⟩)] 175 (0, 0)), ((b1 + 1), .cells #[.pointer (some ⟨2, 175, none⟩), .pointer (some ⟨b1, 0, none⟩), .int .u64 150] 106 (0, 0))]) (fun _ => [(b1 + 1), (b1 + 1), (b1 + 1)]) (fun _ => by kernel_rfl) (fun _ => ?_)
  obtain ⟨⟨r2, r3⟩, h4, hM⟩ := bind_some hM
  dsimp only at hM
  refine WL.callE (X := Unit) [] [] [true, true, false] (fun _ => _) (errors_as_2_calls b_0 b1 a0 a1 _ h4) rfl rfl (fun _ h => h) (by kernel_rfl) (by kernel_rfl) (fun _ => rfl) (fun _ => ?_)
  refine WL.run 1 [] [4] (fun _ => [(4, .bool r2)]) (fun _ => [(b_0, .cells #[.int .i64 r3] 30 (0, 0)), (b1, .cells #[.pointer (some ⟨b_0, 0, none⟩)] 175 (0, 0)), ((b1 + 1), .cells #[.pointer (some ⟨2, 175, none⟩), .pointer (some ⟨b1, 0, none⟩), .int .u64 150] 106 (0, 0))]) (fun _ => []) (fun _ => by kernel_rfl) (fun _ => ?_)
  refine WP.done ?_
  refine WP.keep [true, false, false] (by kernel_rfl : _ = [(b_0, .cells #[.int .i64 r3] 30 (0, 0))]) ?_
  obtain rfl := Option.some.inj hM
  exact WP.ret [] [] (.bool r2) (by kernel_rfl) (fun w' hw => ⟨(), rfl, hw.pick [0] (by kernel_rfl)⟩)

end Go.Proofs.YtbodofjnfmjbpaaGreatDoor

namespace Go.Proofs.YtbodofjnfmjbpaaGreatDoor
open Go Eng
set_option linter.unusedVariables false
set_option linter.unusedSimpArgs false

/-! ### gangway/inet.number: function 112 -/
def inet_number.f (a0 : inet_odd) : Option (Int) :=
  (errors_As_2.f a0 0).bind fun (r2, r3) =>
  bif r2 then
    some r3
  else
    some 0

set_option maxRecDepth 100000 in
theorem inet_number_calls (a0 : inet_odd) (r : Int) (h : inet_number.f a0 = some r) : Pure Tryz.prog Glob 112 #[.iface 188 (.agg #[.int .i64 a0.err])] (.int .i64 r) := by
  intro w Z hS
  refine calls_of (args := [.iface 188 (.agg #[.int .i64 a0.err])]) (L := [(0, .iface 188 (.agg #[.int .i64 a0.err]))]) (N := 8) (S := Sat w Z [] [] Glob) Tryz.func112 rfl rfl (Nat.le_of_ble_eq_true rfl) rfl hS ?_
  have hM := h
  clear h hS
  unfold inet_number.f at hM
  refine WP.seq ?_
  refine WP.run [] [0, 2] (fun _ => [(0, .iface 188 (.agg #[.int .i64 a0.err])), (2, .int .i64 0)]) (fun _ => []) (fun _ => []) (fun _ => by kernel_rfl) (fun _ => ?_)
  refine WP.seq ?_
  refine WP.run [] [0, 2, 3] (fun b1 => [(0, .iface 188 (.agg #[.int .i64 a0.err])), (2, .int .i64 0), (3, .pointer (some ⟨b1, 0, none⟩))]) (fun b1 => [(b1, .cells #[.int .i64 0] 30 (0, 0))]) (fun b1 => []) (fun b1 => by kernel_rfl) (fun b1 => ?_)
  refine WP.seq ?_
  refine WP.seq ?_
  refine WP.region ?_
  refine WL.run 2 [] [2, 3, 4, 5] (fun _ => [(2, .int .i64 0), (3, .pointer (some ⟨b1, 0, none⟩)), (4, .iface 188 (.agg #[.int .i64 a0.err])), (5, .iface 175 (.pointer (some ⟨b1, 0, none⟩)))]) (fun _ => [(b1, .cells #[.int .i64 0] 30 (0, 0))]) (fun _ => []) (fun _ => by kernel_rfl) (fun _ => ?_)
  obtain ⟨⟨r2, r3⟩, h4, hM⟩ := bind_some hM
  dsimp only at hM
  refine WL.callE (X := Unit) [] [] [true] (fun _ => _) (errors_As_2_calls b1 a0 0 _ h4) rfl rfl (fun _ h => h) (by kernel_rfl) (by kernel_rfl) (fun _ => rfl) (fun _ => ?_)
  refine WP.done ?_
  refine WP.cond r2 rfl rfl (fun c5 => ?_) (fun c5 => ?_)
  · replace hM := cond_t hM c5
    refine WP.seq ?_
    refine WP.run [0] [2] (fun _ => [(2, .int .i64 r3)]) (fun _ => [(b1, .cells #[.int .i64 r3] 30 (0, 0))]) (fun _ => [b1]) (fun _ => by kernel_rfl) (fun _ => ?_)
    refine WP.keep [false] (by kernel_rfl : _ = []) ?_
    obtain rfl := Option.some.inj hM
    exact WP.ret [] [] (.int .i64 r3) (by kernel_rfl) (fun w' hw => ⟨rfl, hw.pick [] rfl⟩)
  · replace hM := cond_f hM c5
    refine WP.skip ?_
    refine WP.seq ?_
    refine WP.run [] [2] (fun _ => [(2, .int .i64 0)]) (fun _ => [(b1, .cells #[.int .i64 r3] 30 (0, 0))]) (fun _ => []) (fun _ => by kernel_rfl) (fun _ => ?_)
    refine WP.keep [false] (by kernel_rfl : _ = []) ?_
    obtain rfl := Option.some.inj hM
    exact WP.ret [] [] (.int .i64 0) (by kernel_rfl) (fun w' hw => ⟨rfl, hw.pick [] rfl⟩)

end Go.Proofs.YtbodofjnfmjbpaaGreatDoor

namespace Go.Proofs.YtbodofjnfmjbpaaGreatDoor
open Go Eng
set_option linter.unusedVariables false
set_option linter.unusedSimpArgs false

/-! ### gangway/inet.Parse: function 89 -/
def inet_Parse.f (k : Nat) (a0 : ByteArray) : Option (api_Ip × Int) :=
  (inet_read.f k a0).bind fun (r2, r3) =>
  match r3 with
  | none =>
    some (r2, 0)
  | some q6 =>
    (inet_number.f q6).bind fun r7 =>
    some ((api_Ip.mk 0 0 false false 0 0 0 0 0 (⟨#[]⟩ : ByteArray)), r7)

set_option maxRecDepth 100000 in
theorem inet_Parse_calls (k : Nat) (a0 : ByteArray) (r : api_Ip × Int) (h : inet_Parse.f k a0 = some r) : Pure Tryz.prog Glob 89 #[.string a0] (.tuple #[.agg #[.int .i64 r.1.Tos, .int .i64 r.1.Id, .bool r.1.Whole, .bool r.1.More, .int .i64 r.1.Off, .int .i64 r.1.Ttl, .int .i64 r.1.Proto, .int .u32 r.1.Src, .int .u32 r.1.Dst, .string r.1.Body], .int .i64 r.2]) := by
  intro w Z hS
  refine calls_of (args := [.string a0]) (L := [(0, .string a0)]) (N := 17) (S := Sat w Z [] [] Glob) Tryz.func89 rfl rfl (Nat.le_of_ble_eq_true rfl) rfl hS ?_
  have hM := h
  clear h hS
  unfold inet_Parse.f at hM
  refine WP.seq ?_
  refine WP.run [] [0, 2, 3] (fun b1 => [(0, .string a0), (2, .pointer (some ⟨b1, 0, none⟩)), (3, .int .i64 0)]) (fun b1 => [(b1, .cells #[.int .i64 0, .int .i64 0, .bool false, .bool false, .int .i64 0, .int .i64 0, .int .i64 0, .int .u32 0, .int .u32 0, .string (⟨#[]⟩ : ByteArray)] 91 (0, 0))]) (fun b1 => []) (fun b1 => by kernel_rfl) (fun b1 => ?_)
  refine WP.seq ?_
  refine WP.region ?_
  refine WL.run 1 [] [2, 3, 7] (fun _ => [(2, .pointer (some ⟨b1, 0, none⟩)), (3, .int .i64 0), (7, .string a0)]) (fun _ => [(b1, .cells #[.int .i64 0, .int .i64 0, .bool false, .bool false, .int .i64 0, .int .i64 0, .int .i64 0, .int .u32 0, .int .u32 0, .string (⟨#[]⟩ : ByteArray)] 91 (0, 0))]) (fun _ => []) (fun _ => by kernel_rfl) (fun _ => ?_)
  obtain ⟨⟨r2, r3⟩, h4, hM⟩ := bind_some hM
  dsimp only at hM
  refine WL.callP [] [] (inet_read_calls k a0 _ h4) (fun _ h => h) (by kernel_rfl) (by kernel_rfl) rfl ?_
  refine WL.run 6 [1, 1, 1, 1, 1, 1, 1, 1, 1, 1] [2, 3, 4, 5] (fun b5 => [(2, .pointer (some ⟨b1, 0, none⟩)), (3, .int .i64 0), (4, .pointer (some ⟨b5, 0, none⟩)), (5, Un3.v r3)]) (fun b5 => [(b1, .cells #[.int .i64 0, .int .i64 0, .bool false, .bool false, .int .i64 0, .int .i64 0, .int .i64 0, .int .u32 0, .int .u32 0, .string (⟨#[]⟩ : ByteArray)] 91 (0, 0)), (b5, .cells #[.int .i64 r2.Tos, .int .i64 r2.Id, .bool r2.Whole, .bool r2.More, .int .i64 r2.Off, .int .i64 r2.Ttl, .int .i64 r2.Proto, .int .u32 r2.Src, .int .u32 r2.Dst, .string r2.Body] 91 (0, 0))]) (fun b5 => [b5, b5, b5, b5, b5, b5, b5, b5, b5, b5]) (fun b5 => by kernel_rfl) (fun b5 => ?_)
  refine WP.done ?_
  refine WP.seq ?_
  refine WP.seq ?_
  refine WP.region ?_
  refine WL.run 1 [] [2, 3, 4, 5, 11] (fun _ => [(2, .pointer (some ⟨b1, 0, none⟩)), (3, .int .i64 0), (4, .pointer (some ⟨b5, 0, none⟩)), (5, Un3.v r3), (11, Un3.v r3)]) (fun _ => [(b1, .cells #[.int .i64 0, .int .i64 0, .bool false, .bool false, .int .i64 0, .int .i64 0, .int .i64 0, .int .u32 0, .int .u32 0, .string (⟨#[]⟩ : ByteArray)] 91 (0, 0)), (b5, .cells #[.int .i64 r2.Tos, .int .i64 r2.Id, .bool r2.Whole, .bool r2.More, .int .i64 r2.Off, .int .i64 r2.Ttl, .int .i64 r2.Proto, .int .u32 r2.Src, .int .u32 r2.Dst, .string r2.Body] 91 (0, 0))]) (fun _ => []) (fun _ => by kernel_rfl) (fun _ => ?_)
  rcases r3 with _ | q6
  · dsimp only at hM
    refine WL.run 1 [] [2, 3, 4, 5, 12] (fun _ => [(2, .pointer (some ⟨b1, 0, none⟩)), (3, .int .i64 0), (4, .pointer (some ⟨b5, 0, none⟩)), (5, .nilIface), (12, .bool false)]) (fun _ => [(b1, .cells #[.int .i64 0, .int .i64 0, .bool false, .bool false, .int .i64 0, .int .i64 0, .int .i64 0, .int .u32 0, .int .u32 0, .string (⟨#[]⟩ : ByteArray)] 91 (0, 0)), (b5, .cells #[.int .i64 r2.Tos, .int .i64 r2.Id, .bool r2.Whole, .bool r2.More, .int .i64 r2.Off, .int .i64 r2.Ttl, .int .i64 r2.Proto, .int .u32 r2.Src, .int .u32 r2.Dst, .string r2.Body] 91 (0, 0))]) (fun _ => []) (fun _ => by kernel_rfl) (fun _ => ?_)
    refine WP.done ?_
    refine WP.no rfl rfl ?_
    refine WP.skip ?_
    refine WP.seq ?_
    refine WP.run [1, 1, 1, 1, 1, 1, 1, 1, 1, 1, 0, 0, 0, 0, 0, 0, 0, 0, 0, 0] [2, 3] (fun _ => [(2, .pointer (some ⟨b1, 0, none⟩)), (3, .int .i64 0)]) (fun _ => [(b1, .cells #[.int .i64 r2.Tos, .int .i64 r2.Id, .bool r2.Whole, .bool r2.More, .int .i64 r2.Off, .int .i64 r2.Ttl, .int .i64 r2.Proto, .int .u32 r2.Src, .int .u32 r2.Dst, .string r2.Body] 91 (0, 0)), (b5, .cells #[.int .i64 r2.Tos, .int .i64 r2.Id, .bool r2.Whole, .bool r2.More, .int .i64 r2.Off, .int .i64 r2.Ttl, .int .i64 r2.Proto, .int .u32 r2.Src, .int .u32 r2.Dst, .string r2.Body] 91 (0, 0))]) (fun _ => [b1, b1, b1, b1, b1, b1, b1, b1, b1, b1, b5, b5, b5, b5, b5, b5, b5, b5, b5, b5]) (fun _ => by kernel_rfl) (fun _ => ?_)
    refine WP.keep [true, false] (by kernel_rfl : _ = [(b1, .cells #[.int .i64 r2.Tos, .int .i64 r2.Id, .bool r2.Whole, .bool r2.More, .int .i64 r2.Off, .int .i64 r2.Ttl, .int .i64 r2.Proto, .int .u32 r2.Src, .int .u32 r2.Dst, .string r2.Body] 91 (0, 0))]) ?_
    obtain rfl := Option.some.inj hM
    exact WP.ret [0, 0, 0, 0, 0, 0, 0, 0, 0, 0] [b1, b1, b1, b1, b1, b1, b1, b1, b1, b1] (.tuple #[.agg #[.int .i64 r2.Tos, .int .i64 r2.Id, .bool r2.Whole, .bool r2.More, .int .i64 r2.Off, .int .i64 r2.Ttl, .int .i64 r2.Proto, .int .u32 r2.Src, .int .u32 r2.Dst, .string r2.Body], .int .i64 0]) (by kernel_rfl) (fun w' hw => ⟨rfl, hw.pick [] rfl⟩)
  · dsimp only at hM
    refine WL.run 1 [] [2, 3, 4, 5, 12] (fun _ => [(2, .pointer (some ⟨b1, 0, none⟩)), (3, .int .i64 0), (4, .pointer (some ⟨b5, 0, none⟩)), (5, .iface 188 (.agg #[.int .i64 q6.err])), (12, .bool true)]) (fun _ => [(b1, .cells #[.int .i64 0, .int .i64 0, .bool false, .bool false, .int .i64 0, .int .i64 0, .int .i64 0, .int .u32 0, .int .u32 0, .string (⟨#[]⟩ : ByteArray)] 91 (0, 0)), (b5, .cells #[.int .i64 r2.Tos, .int .i64 r2.Id, .bool r2.Whole, .bool r2.More, .int .i64 r2.Off, .int .i64 r2.Ttl, .int .i64 r2.Proto, .int .u32 r2.Src, .int .u32 r2.Dst, .string r2.Body] 91 (0, 0))]) (fun _ => []) (fun _ => by kernel_rfl) (fun _ => ?_)
    refine WP.done ?_
    refine WP.yes rfl rfl ?_
    refine WP.seq ?_
    refine WP.region ?_
    refine WL.run 2 [] [2, 3, 4, 13, 14] (fun _ => [(2, .pointer (some ⟨b1, 0, none⟩)), (3, .int .i64 0), (4, .pointer (some ⟨b5, 0, none⟩)), (13, .agg #[.int .i64 0, .int .i64 0, .bool false, .bool false, .int .i64 0, .int .i64 0, .int .i64 0, .int .u32 0, .int .u32 0, .string (⟨#[]⟩ : ByteArray)]), (14, .iface 188 (.agg #[.int .i64 q6.err]))]) (fun _ => [(b1, .cells #[.int .i64 0, .int .i64 0, .bool false, .bool false, .int .i64 0, .int .i64 0, .int .i64 0, .int .u32 0, .int .u32 0, .string (⟨#[]⟩ : ByteArray)] 91 (0, 0)), (b5, .cells #[.int .i64 r2.Tos, .int .i64 r2.Id, .bool r2.Whole, .bool r2.More, .int .i64 r2.Off, .int .i64 r2.Ttl, .int .i64 r2.Proto, .int .u32 r2.Src, .int .u32 r2.Dst, .string r2.Body] 91 (0, 0))]) (fun _ => []) (fun _ => by kernel_rfl) (fun _ => ?_)
    obtain ⟨r7, h8, hM⟩ := bind_some hM
    refine WL.callP [] [] (inet_number_calls q6 _ h8) (fun _ h => h) (by kernel_rfl) (by kernel_rfl) rfl ?_
    refine WL.run 2 [0, 0, 0, 0, 0, 0, 0, 0, 0, 0] [2, 3, 4] (fun _ => [(2, .pointer (some ⟨b1, 0, none⟩)), (3, .int .i64 r7), (4, .pointer (some ⟨b5, 0, none⟩))]) (fun _ => [(b1, .cells #[.int .i64 0, .int .i64 0, .bool false, .bool false, .int .i64 0, .int .i64 0, .int .i64 0, .int .u32 0, .int .u32 0, .string (⟨#[]⟩ : ByteArray)] 91 (0, 0)), (b5, .cells #[.int .i64 r2.Tos, .int .i64 r2.Id, .bool r2.Whole, .bool r2.More, .int .i64 r2.Off, .int .i64 r2.Ttl, .int .i64 r2.Proto, .int .u32 r2.Src, .int .u32 r2.Dst, .string r2.Body] 91 (0, 0))]) (fun _ => [b1, b1, b1, b1, b1, b1, b1, b1, b1, b1]) (fun _ => by kernel_rfl) (fun _ => ?_)
    refine WP.done ?_
    obtain rfl := Option.some.inj hM
    exact WP.ret [0, 0, 0, 0, 0, 0, 0, 0, 0, 0] [b1, b1, b1, b1, b1, b1, b1, b1, b1, b1] (.tuple #[.agg #[.int .i64 0, .int .i64 0, .bool false, .bool false, .int .i64 0, .int .i64 0, .int .i64 0, .int .u32 0, .int .u32 0, .string (⟨#[]⟩ : ByteArray)], .int .i64 r7]) (by kernel_rfl) (fun w' hw => ⟨rfl, hw.pick [] rfl⟩)

end Go.Proofs.YtbodofjnfmjbpaaGreatDoor

namespace Go.Proofs.YtbodofjnfmjbpaaGreatDoor
open Go Eng
set_option linter.unusedVariables false
set_option linter.unusedSimpArgs false

/-! ### gangway/inet.Part: function 90 -/
def inet_Part.f (a0 : api_Ip) : Option (Bool) :=
  some (a0.More || (decide (a0.Off > 0)))

set_option maxRecDepth 100000 in
theorem inet_Part_calls (a0 : api_Ip) (r : Bool) (h : inet_Part.f a0 = some r) : Pure Tryz.prog Glob 90 #[.agg #[.int .i64 a0.Tos, .int .i64 a0.Id, .bool a0.Whole, .bool a0.More, .int .i64 a0.Off, .int .i64 a0.Ttl, .int .i64 a0.Proto, .int .u32 a0.Src, .int .u32 a0.Dst, .string a0.Body]] (.bool r) := by
  intro w Z hS
  refine calls_of (args := [.agg #[.int .i64 a0.Tos, .int .i64 a0.Id, .bool a0.Whole, .bool a0.More, .int .i64 a0.Off, .int .i64 a0.Ttl, .int .i64 a0.Proto, .int .u32 a0.Src, .int .u32 a0.Dst, .string a0.Body]]) (L := [(0, .agg #[.int .i64 a0.Tos, .int .i64 a0.Id, .bool a0.Whole, .bool a0.More, .int .i64 a0.Off, .int .i64 a0.Ttl, .int .i64 a0.Proto, .int .u32 a0.Src, .int .u32 a0.Dst, .string a0.Body])]) (N := 10) (S := Sat w Z [] [] Glob) Tryz.func90 rfl rfl (Nat.le_of_ble_eq_true rfl) rfl hS ?_
  have hM := h
  clear h hS
  unfold inet_Part.f at hM
  refine WP.seq ?_
  refine WP.run [] [1, 2] (fun b1 => [(1, .pointer (some ⟨b1, 0, none⟩)), (2, .bool false)]) (fun b1 => [(b1, .cells #[.int .i64 a0.Tos, .int .i64 a0.Id, .bool a0.Whole, .bool a0.More, .int .i64 a0.Off, .int .i64 a0.Ttl, .int .i64 a0.Proto, .int .u32 a0.Src, .int .u32 a0.Dst, .string a0.Body] 91 (0, 0))]) (fun b1 => []) (fun b1 => by kernel_rfl) (fun b1 => ?_)
  refine WP.seq ?_
  refine WP.region ?_
  refine WL.run 3 [0] [1, 2, 5] (fun _ => [(1, .pointer (some ⟨b1, 0, none⟩)), (2, .bool false), (5, .bool a0.More)]) (fun _ => [(b1, .cells #[.int .i64 a0.Tos, .int .i64 a0.Id, .bool a0.Whole, .bool a0.More, .int .i64 a0.Off, .int .i64 a0.Ttl, .int .i64 a0.Proto, .int .u32 a0.Src, .int .u32 a0.Dst, .string a0.Body] 91 (0, 0))]) (fun _ => [b1]) (fun _ => by kernel_rfl) (fun _ => ?_)
  refine WL.sub [1, 2, 5] (L' := [(1, .pointer (some ⟨b1, 0, none⟩)), (2, .bool false), (5, .bool a0.More)]) (by kernel_rfl) ?_
  refine WL.both (fun b' => [(1, .pointer (some ⟨b1, 0, none⟩)), (2, .bool false), (5, .bool b')]) a0.More 4 [] [0] [2, 9] (fun b' => [(2, .bool false), (9, .bool (b' || (decide (a0.Off > 0))))]) [] [b1] (fun _ => by kernel_rfl) (fun _ => by kernel_rfl) ?_
  refine WL.run 1 [] [2] (fun _ => [(2, .bool (a0.More || (decide (a0.Off > 0))))]) (fun _ => [(b1, .cells #[.int .i64 a0.Tos, .int .i64 a0.Id, .bool a0.Whole, .bool a0.More, .int .i64 a0.Off, .int .i64 a0.Ttl, .int .i64 a0.Proto, .int .u32 a0.Src, .int .u32 a0.Dst, .string a0.Body] 91 (0, 0))]) (fun _ => []) (fun _ => by kernel_rfl) (fun _ => ?_)
  refine WP.done ?_
  refine WP.keep [false] (by kernel_rfl : _ = []) ?_
  obtain rfl := Option.some.inj hM
  exact WP.ret [] [] (.bool (a0.More || (decide (a0.Off > 0)))) (by kernel_rfl) (fun w' hw => ⟨rfl, hw.pick [] rfl⟩)

end Go.Proofs.YtbodofjnfmjbpaaGreatDoor

namespace Go.Proofs.YtbodofjnfmjbpaaGreatDoor
open Go Eng
set_option linter.unusedVariables false
set_option linter.unusedSimpArgs false

/-! ### gangway/station.packet: function 57 -/
def station_packet.f (k : Nat) (a0 : Int) (a1 : ByteArray) : Option (api_Ip × Un2) :=
  (inet_Parse.f k a1).bind fun (r2, r3) =>
  bif ((r3 != 0) || (r2.Ttl == 0)) then
    (station_not.f (⟨#[112, 97, 99, 107, 101, 116]⟩ : ByteArray) 4).bind fun r8 =>
    some (r2, some (r8.1, r8.2))
  else
    bif (r2.Dst != a0) then
      (station_not.f (⟨#[112, 97, 99, 107, 101, 116]⟩ : ByteArray) 2).bind fun r12 =>
      some (r2, some (r12.1, r12.2))
    else
      (inet_Part.f r2).bind fun r14 =>
      bif r14 then
        (station_not.f (⟨#[112, 97, 99, 107, 101, 116]⟩ : ByteArray) 5).bind fun r18 =>
        some (r2, some (r18.1, r18.2))
      else
        some (r2, none)

set_option maxRecDepth 100000 in
theorem station_packet_calls (k : Nat) (a0 : Int) (a1 : ByteArray) (r : api_Ip × Un2) (h : station_packet.f k a0 a1 = some r) : Pure Tryz.prog Glob 57 #[.int .u32 a0, .string a1] (.tuple #[.agg #[.int .i64 r.1.Tos, .int .i64 r.1.Id, .bool r.1.Whole, .bool r.1.More, .int .i64 r.1.Off, .int .i64 r.1.Ttl, .int .i64 r.1.Proto, .int .u32 r.1.Src, .int .u32 r.1.Dst, .string r.1.Body], Un2.v r.2]) := by
  intro w Z hS
  refine calls_of (args := [.int .u32 a0, .string a1]) (L := [(0, .int .u32 a0), (1, .string a1)]) (N := 36) (S := Sat w Z [] [] Glob) Tryz.func57 rfl rfl (Nat.le_of_ble_eq_true rfl) rfl hS ?_
  have hM := h
  clear h hS
  unfold station_packet.f at hM
  refine WP.seq ?_
  refine WP.run [] [0, 1, 4, 5] (fun b1 => [(0, .int .u32 a0), (1, .string a1), (4, .pointer (some ⟨b1, 0, none⟩)), (5, .nilIface)]) (fun b1 => [(b1, .cells #[.int .i64 0, .int .i64 0, .bool false, .bool false, .int .i64 0, .int .i64 0, .int .i64 0, .int .u32 0, .int .u32 0, .string (⟨#[]⟩ : ByteArray)] 91 (0, 0))]) (fun b1 => []) (fun b1 => by kernel_rfl) (fun b1 => ?_)
  refine WP.seq ?_
  refine WP.region ?_
  refine WL.run 1 [] [0, 4, 5, 9] (fun _ => [(0, .int .u32 a0), (4, .pointer (some ⟨b1, 0, none⟩)), (5, .nilIface), (9, .string a1)]) (fun _ => [(b1, .cells #[.int .i64 0, .int .i64 0, .bool false, .bool false, .int .i64 0, .int .i64 0, .int .i64 0, .int .u32 0, .int .u32 0, .string (⟨#[]⟩ : ByteArray)] 91 (0, 0))]) (fun _ => []) (fun _ => by kernel_rfl) (fun _ => ?_)
  obtain ⟨⟨r2, r3⟩, h4, hM⟩ := bind_some hM
  dsimp only at hM
  refine WL.callP [] [] (inet_Parse_calls k a1 _ h4) (fun _ h => h) (by kernel_rfl) (by kernel_rfl) rfl ?_
  refine WL.run 6 [1, 1, 1, 1, 1, 1, 1, 1, 1, 1] [0, 4, 5, 6, 7] (fun b5 => [(0, .int .u32 a0), (4, .pointer (some ⟨b1, 0, none⟩)), (5, .nilIface), (6, .pointer (some ⟨b5, 0, none⟩)), (7, .int .i64 r3)]) (fun b5 => [(b1, .cells #[.int .i64 0, .int .i64 0, .bool false, .bool false, .int .i64 0, .int .i64 0, .int .i64 0, .int .u32 0, .int .u32 0, .string (⟨#[]⟩ : ByteArray)] 91 (0, 0)), (b5, .cells #[.int .i64 r2.Tos, .int .i64 r2.Id, .bool r2.Whole, .bool r2.More, .int .i64 r2.Off, .int .i64 r2.Ttl, .int .i64 r2.Proto, .int .u32 r2.Src, .int .u32 r2.Dst, .string r2.Body] 91 (0, 0))]) (fun b5 => [b5, b5, b5, b5, b5, b5, b5, b5, b5, b5]) (fun b5 => by kernel_rfl) (fun b5 => ?_)
  refine WP.done ?_
  refine WP.seq ?_
  refine WP.block ?_
  refine WP.seq ?_
  refine WP.region ?_
  refine WL.run 3 [] [0, 4, 5, 6, 16] (fun _ => [(0, .int .u32 a0), (4, .pointer (some ⟨b1, 0, none⟩)), (5, .nilIface), (6, .pointer (some ⟨b5, 0, none⟩)), (16, .bool (r3 != 0))]) (fun _ => [(b1, .cells #[.int .i64 0, .int .i64 0, .bool false, .bool false, .int .i64 0, .int .i64 0, .int .i64 0, .int .u32 0, .int .u32 0, .string (⟨#[]⟩ : ByteArray)] 91 (0, 0)), (b5, .cells #[.int .i64 r2.Tos, .int .i64 r2.Id, .bool r2.Whole, .bool r2.More, .int .i64 r2.Off, .int .i64 r2.Ttl, .int .i64 r2.Proto, .int .u32 r2.Src, .int .u32 r2.Dst, .string r2.Body] 91 (0, 0))]) (fun _ => []) (fun _ => by kernel_rfl) (fun _ => ?_)
  refine WL.sub [0, 4, 5, 6, 16] (L' := [(0, .int .u32 a0), (4, .pointer (some ⟨b1, 0, none⟩)), (5, .nilIface), (6, .pointer (some ⟨b5, 0, none⟩)), (16, .bool (r3 != 0))]) (by kernel_rfl) ?_
  refine WL.both (fun b' => [(0, .int .u32 a0), (4, .pointer (some ⟨b1, 0, none⟩)), (5, .nilIface), (6, .pointer (some ⟨b5, 0, none⟩)), (16, .bool b')]) (r3 != 0) 4 [] [1] [0, 4, 5, 6, 20] (fun b' => [(0, .int .u32 a0), (4, .pointer (some ⟨b1, 0, none⟩)), (5, .nilIface), (6, .pointer (some ⟨b5, 0, none⟩)), (20, .bool (b' || (r2.Ttl == 0)))]) [] [b5] (fun _ => by kernel_rfl) (fun _ => by kernel_rfl) ?_
  refine WL.run 1 [] [0, 4, 5, 6, 13] (fun _ => [(0, .int .u32 a0), (4, .pointer (some ⟨b1, 0, none⟩)), (5, .nilIface), (6, .pointer (some ⟨b5, 0, none⟩)), (13, .bool ((r3 != 0) || (r2.Ttl == 0)))]) (fun _ => [(b1, .cells #[.int .i64 0, .int .i64 0, .bool false, .bool false, .int .i64 0, .int .i64 0, .int .i64 0, .int .u32 0, .int .u32 0, .string (⟨#[]⟩ : ByteArray)] 91 (0, 0)), (b5, .cells #[.int .i64 r2.Tos, .int .i64 r2.Id, .bool r2.Whole, .bool r2.More, .int .i64 r2.Off, .int .i64 r2.Ttl, .int .i64 r2.Proto, .int .u32 r2.Src, .int .u32 r2.Dst, .string r2.Body] 91 (0, 0))]) (fun _ => []) (fun _ => by kernel_rfl) (fun _ => ?_)
  refine WP.done ?_
  refine WP.cond ((r3 != 0) || (r2.Ttl == 0)) rfl rfl (fun c6 => ?_) (fun c6 => ?_)
  · replace hM := cond_t hM c6
    refine WP.seq ?_
    obtain ⟨r8, h9, hM⟩ := bind_some hM
    refine WP.sub [4, 5, 6] (L' := [(4, .pointer (some ⟨b1, 0, none⟩)), (5, .nilIface), (6, .pointer (some ⟨b5, 0, none⟩))]) (by kernel_rfl) ?_
    refine WP.mixed (X := Unit) 2 [.val (.agg #[.int .i64 r2.Tos, .int .i64 r2.Id, .bool r2.Whole, .bool r2.More, .int .i64 r2.Off, .int .i64 r2.Ttl, .int .i64 r2.Proto, .int .u32 r2.Src, .int .u32 r2.Dst, .string r2.Body]), .val (.iface 138 (.agg #[.string r8.1, .iface 80 (.agg #[.int .i64 r8.2.n])]))] [(b1, .cells #[.int .i64 0, .int .i64 0, .bool false, .bool false, .int .i64 0, .int .i64 0, .int .i64 0, .int .u32 0, .int .u32 0, .string (⟨#[]⟩ : ByteArray)] 91 (0, 0)), (b5, .cells #[.int .i64 r2.Tos, .int .i64 r2.Id, .bool r2.Whole, .bool r2.More, .int .i64 r2.Off, .int .i64 r2.Ttl, .int .i64 r2.Proto, .int .u32 r2.Src, .int .u32 r2.Dst, .string r2.Body] 91 (0, 0))] [] (by kernel_rfl) (by kernel_rfl) (by kernel_rfl) (by kernel_rfl) (Heads.val (fun tt Ψ => OpV.run [1, 1, 1, 1, 1, 1, 1, 1, 1, 1] [b5, b5, b5, b5, b5, b5, b5, b5, b5, b5] (by kernel_rfl) (fun _ => by kernel_rfl)) (Heads.val (fun tt Ψ => OpV.callF [] [] (fun _ h => (List.mem_append_right _ h)) (station_not_calls (⟨#[112, 97, 99, 107, 101, 116]⟩ : ByteArray) 4 _ h9)  (fun _ => by kernel_rfl)) Heads.nil)) (fun s7 tt => [(21, .agg #[.int .i64 r2.Tos, .int .i64 r2.Id, .bool r2.Whole, .bool r2.More, .int .i64 r2.Off, .int .i64 r2.Ttl, .int .i64 r2.Proto, .int .u32 r2.Src, .int .u32 r2.Dst, .string r2.Body]), (22, .iface 138 (.agg #[.string r8.1, .iface 80 (.agg #[.int .i64 r8.2.n])])), (4, .pointer (some ⟨b1, 0, none⟩)), (5, .nilIface), (6, .pointer (some ⟨b5, 0, none⟩))]) (fun s7 tt => [(b1, .cells #[.int .i64 0, .int .i64 0, .bool false, .bool false, .int .i64 0, .int .i64 0, .int .i64 0, .int .u32 0, .int .u32 0, .string (⟨#[]⟩ : ByteArray)] 91 (0, 0)), (b5, .cells #[.int .i64 r2.Tos, .int .i64 r2.Id, .bool r2.Whole, .bool r2.More, .int .i64 r2.Off, .int .i64 r2.Ttl, .int .i64 r2.Proto, .int .u32 r2.Src, .int .u32 r2.Dst, .string r2.Body] 91 (0, 0))]) (fun tt => Glob) (fun _ _ => by kernel_rfl) (fun _ _ => by kernel_rfl) (fun _ => by kernel_rfl) (fun s7 tt => ?_)
    refine WL.run 2 [0, 0, 0, 0, 0, 0, 0, 0, 0, 0] [4, 5, 6] (fun _ => [(4, .pointer (some ⟨b1, 0, none⟩)), (5, .iface 138 (.agg #[.string r8.1, .iface 80 (.agg #[.int .i64 r8.2.n])])), (6, .pointer (some ⟨b5, 0, none⟩))]) (fun _ => [(b1, .cells #[.int .i64 r2.Tos, .int .i64 r2.Id, .bool r2.Whole, .bool r2.More, .int .i64 r2.Off, .int .i64 r2.Ttl, .int .i64 r2.Proto, .int .u32 r2.Src, .int .u32 r2.Dst, .string r2.Body] 91 (0, 0)), (b5, .cells #[.int .i64 r2.Tos, .int .i64 r2.Id, .bool r2.Whole, .bool r2.More, .int .i64 r2.Off, .int .i64 r2.Ttl, .int .i64 r2.Proto, .int .u32 r2.Src, .int .u32 r2.Dst, .string r2.Body] 91 (0, 0))]) (fun _ => [b1, b1, b1, b1, b1, b1, b1, b1, b1, b1]) (fun _ => by kernel_rfl) (fun _ => ?_)
    refine WP.done ?_
    obtain rfl := Option.some.inj hM
    exact WP.ret [0, 0, 0, 0, 0, 0, 0, 0, 0, 0] [b1, b1, b1, b1, b1, b1, b1, b1, b1, b1] (.tuple #[.agg #[.int .i64 r2.Tos, .int .i64 r2.Id, .bool r2.Whole, .bool r2.More, .int .i64 r2.Off, .int .i64 r2.Ttl, .int .i64 r2.Proto, .int .u32 r2.Src, .int .u32 r2.Dst, .string r2.Body], .iface 138 (.agg #[.string r8.1, .iface 80 (.agg #[.int .i64 r8.2.n])])]) (by kernel_rfl) (fun w' hw => ⟨rfl, hw.pick [] rfl⟩)
  · replace hM := cond_f hM c6
    refine WP.seq ?_
    refine WP.run [1] [4, 5, 6, 23] (fun _ => [(4, .pointer (some ⟨b1, 0, none⟩)), (5, .nilIface), (6, .pointer (some ⟨b5, 0, none⟩)), (23, .bool (r2.Dst != a0))]) (fun _ => [(b1, .cells #[.int .i64 0, .int .i64 0, .bool false, .bool false, .int .i64 0, .int .i64 0, .int .i64 0, .int .u32 0, .int .u32 0, .string (⟨#[]⟩ : ByteArray)] 91 (0, 0)), (b5, .cells #[.int .i64 r2.Tos, .int .i64 r2.Id, .bool r2.Whole, .bool r2.More, .int .i64 r2.Off, .int .i64 r2.Ttl, .int .i64 r2.Proto, .int .u32 r2.Src, .int .u32 r2.Dst, .string r2.Body] 91 (0, 0))]) (fun _ => [b5]) (fun _ => by kernel_rfl) (fun _ => ?_)
    refine WP.cond (r2.Dst != a0) rfl rfl (fun c10 => ?_) (fun c10 => ?_)
    · replace hM := cond_t hM c10
      refine WP.seq ?_
      obtain ⟨r12, h13, hM⟩ := bind_some hM
      refine WP.sub [4, 5, 6] (L' := [(4, .pointer (some ⟨b1, 0, none⟩)), (5, .nilIface), (6, .pointer (some ⟨b5, 0, none⟩))]) (by kernel_rfl) ?_
      refine WP.mixed (X := Unit) 2 [.val (.agg #[.int .i64 r2.Tos, .int .i64 r2.Id, .bool r2.Whole, .bool r2.More, .int .i64 r2.Off, .int .i64 r2.Ttl, .int .i64 r2.Proto, .int .u32 r2.Src, .int .u32 r2.Dst, .string r2.Body]), .val (.iface 138 (.agg #[.string r12.1, .iface 80 (.agg #[.int .i64 r12.2.n])]))] [(b1, .cells #[.int .i64 0, .int .i64 0, .bool false, .bool false, .int .i64 0, .int .i64 0, .int .i64 0, .int .u32 0, .int .u32 0, .string (⟨#[]⟩ : ByteArray)] 91 (0, 0)), (b5, .cells #[.int .i64 r2.Tos, .int .i64 r2.Id, .bool r2.Whole, .bool r2.More, .int .i64 r2.Off, .int .i64 r2.Ttl, .int .i64 r2.Proto, .int .u32 r2.Src, .int .u32 r2.Dst, .string r2.Body] 91 (0, 0))] [] (by kernel_rfl) (by kernel_rfl) (by kernel_rfl) (by kernel_rfl) (Heads.val (fun tt Ψ => OpV.run [1, 1, 1, 1, 1, 1, 1, 1, 1, 1] [b5, b5, b5, b5, b5, b5, b5, b5, b5, b5] (by kernel_rfl) (fun _ => by kernel_rfl)) (Heads.val (fun tt Ψ => OpV.callF [] [] (fun _ h => (List.mem_append_right _ h)) (station_not_calls (⟨#[112, 97, 99, 107, 101, 116]⟩ : ByteArray) 2 _ h13)  (fun _ => by kernel_rfl)) Heads.nil)) (fun s11 tt => [(28, .agg #[.int .i64 r2.Tos, .int .i64 r2.Id, .bool r2.Whole, .bool r2.More, .int .i64 r2.Off, .int .i64 r2.Ttl, .int .i64 r2.Proto, .int .u32 r2.Src, .int .u32 r2.Dst, .string r2.Body]), (29, .iface 138 (.agg #[.string r12.1, .iface 80 (.agg #[.int .i64 r12.2.n])])), (4, .pointer (some ⟨b1, 0, none⟩)), (5, .nilIface), (6, .pointer (some ⟨b5, 0, none⟩))]) (fun s11 tt => [(b1, .cells #[.int .i64 0, .int .i64 0, .bool false, .bool false, .int .i64 0, .int .i64 0, .int .i64 0, .int .u32 0, .int .u32 0, .string (⟨#[]⟩ : ByteArray)] 91 (0, 0)), (b5, .cells #[.int .i64 r2.Tos, .int .i64 r2.Id, .bool r2.Whole, .bool r2.More, .int .i64 r2.Off, .int .i64 r2.Ttl, .int .i64 r2.Proto, .int .u32 r2.Src, .int .u32 r2.Dst, .string r2.Body] 91 (0, 0))]) (fun tt => Glob) (fun _ _ => by kernel_rfl) (fun _ _ => by kernel_rfl) (fun _ => by kernel_rfl) (fun s11 tt => ?_)
      refine WL.run 2 [0, 0, 0, 0, 0, 0, 0, 0, 0, 0] [4, 5, 6] (fun _ => [(4, .pointer (some ⟨b1, 0, none⟩)), (5, .iface 138 (.agg #[.string r12.1, .iface 80 (.agg #[.int .i64 r12.2.n])])), (6, .pointer (some ⟨b5, 0, none⟩))]) (fun _ => [(b1, .cells #[.int .i64 r2.Tos, .int .i64 r2.Id, .bool r2.Whole, .bool r2.More, .int .i64 r2.Off, .int .i64 r2.Ttl, .int .i64 r2.Proto, .int .u32 r2.Src, .int .u32 r2.Dst, .string r2.Body] 91 (0, 0)), (b5, .cells #[.int .i64 r2.Tos, .int .i64 r2.Id, .bool r2.Whole, .bool r2.More, .int .i64 r2.Off, .int .i64 r2.Ttl, .int .i64 r2.Proto, .int .u32 r2.Src, .int .u32 r2.Dst, .string r2.Body] 91 (0, 0))]) (fun _ => [b1, b1, b1, b1, b1, b1, b1, b1, b1, b1]) (fun _ => by kernel_rfl) (fun _ => ?_)
      refine WP.done ?_
      obtain rfl := Option.some.inj hM
      exact WP.ret [0, 0, 0, 0, 0, 0, 0, 0, 0, 0] [b1, b1, b1, b1, b1, b1, b1, b1, b1, b1] (.tuple #[.agg #[.int .i64 r2.Tos, .int .i64 r2.Id, .bool r2.Whole, .bool r2.More, .int .i64 r2.Off, .int .i64 r2.Ttl, .int .i64 r2.Proto, .int .u32 r2.Src, .int .u32 r2.Dst, .string r2.Body], .iface 138 (.agg #[.string r12.1, .iface 80 (.agg #[.int .i64 r12.2.n])])]) (by kernel_rfl) (fun w' hw => ⟨rfl, hw.pick [] rfl⟩)
    · replace hM := cond_f hM c10
      refine WP.seq ?_
      refine WP.region ?_
      refine WL.run 1 [1, 1, 1, 1, 1, 1, 1, 1, 1, 1] [4, 5, 6, 31] (fun _ => [(4, .pointer (some ⟨b1, 0, none⟩)), (5, .nilIface), (6, .pointer (some ⟨b5, 0, none⟩)), (31, .agg #[.int .i64 r2.Tos, .int .i64 r2.Id, .bool r2.Whole, .bool r2.More, .int .i64 r2.Off, .int .i64 r2.Ttl, .int .i64 r2.Proto, .int .u32 r2.Src, .int .u32 r2.Dst, .string r2.Body])]) (fun _ => [(b1, .cells #[.int .i64 0, .int .i64 0, .bool false, .bool false, .int .i64 0, .int .i64 0, .int .i64 0, .int .u32 0, .int .u32 0, .string (⟨#[]⟩ : ByteArray)] 91 (0, 0)), (b5, .cells #[.int .i64 r2.Tos, .int .i64 r2.Id, .bool r2.Whole, .bool r2.More, .int .i64 r2.Off, .int .i64 r2.Ttl, .int .i64 r2.Proto, .int .u32 r2.Src, .int .u32 r2.Dst, .string r2.Body] 91 (0, 0))]) (fun _ => [b5, b5, b5, b5, b5, b5, b5, b5, b5, b5]) (fun _ => by kernel_rfl) (fun _ => ?_)
      obtain ⟨r14, h15, hM⟩ := bind_some hM
      refine WL.callP [] [] (inet_Part_calls r2 _ h15) (fun _ h => h) (by kernel_rfl) (by kernel_rfl) rfl ?_
      refine WL.run 1 [] [4, 5, 6, 30] (fun _ => [(4, .pointer (some ⟨b1, 0, none⟩)), (5, .nilIface), (6, .pointer (some ⟨b5, 0, none⟩)), (30, .bool r14)]) (fun _ => [(b1, .cells #[.int .i64 0, .int .i64 0, .bool false, .bool false, .int .i64 0, .int .i64 0, .int .i64 0, .int .u32 0, .int .u32 0, .string (⟨#[]⟩ : ByteArray)] 91 (0, 0)), (b5, .cells #[.int .i64 r2.Tos, .int .i64 r2.Id, .bool r2.Whole, .bool r2.More, .int .i64 r2.Off, .int .i64 r2.Ttl, .int .i64 r2.Proto, .int .u32 r2.Src, .int .u32 r2.Dst, .string r2.Body] 91 (0, 0))]) (fun _ => []) (fun _ => by kernel_rfl) (fun _ => ?_)
      refine WP.done ?_
      refine WP.cond r14 rfl rfl (fun c16 => ?_) (fun c16 => ?_)
      · replace hM := cond_t hM c16
        refine WP.seq ?_
        obtain ⟨r18, h19, hM⟩ := bind_some hM
        refine WP.sub [4, 5, 6] (L' := [(4, .pointer (some ⟨b1, 0, none⟩)), (5, .nilIface), (6, .pointer (some ⟨b5, 0, none⟩))]) (by kernel_rfl) ?_
        refine WP.mixed (X := Unit) 2 [.val (.agg #[.int .i64 r2.Tos, .int .i64 r2.Id, .bool r2.Whole, .bool r2.More, .int .i64 r2.Off, .int .i64 r2.Ttl, .int .i64 r2.Proto, .int .u32 r2.Src, .int .u32 r2.Dst, .string r2.Body]), .val (.iface 138 (.agg #[.string r18.1, .iface 80 (.agg #[.int .i64 r18.2.n])]))] [(b1, .cells #[.int .i64 0, .int .i64 0, .bool false, .bool false, .int .i64 0, .int .i64 0, .int .i64 0, .int .u32 0, .int .u32 0, .string (⟨#[]⟩ : ByteArray)] 91 (0, 0)), (b5, .cells #[.int .i64 r2.Tos, .int .i64 r2.Id, .bool r2.Whole, .bool r2.More, .int .i64 r2.Off, .int .i64 r2.Ttl, .int .i64 r2.Proto, .int .u32 r2.Src, .int .u32 r2.Dst, .string r2.Body] 91 (0, 0))] [] (by kernel_rfl) (by kernel_rfl) (by kernel_rfl) (by kernel_rfl) (Heads.val (fun tt Ψ => OpV.run [1, 1, 1, 1, 1, 1, 1, 1, 1, 1] [b5, b5, b5, b5, b5, b5, b5, b5, b5, b5] (by kernel_rfl) (fun _ => by kernel_rfl)) (Heads.val (fun tt Ψ => OpV.callF [] [] (fun _ h => (List.mem_append_right _ h)) (station_not_calls (⟨#[112, 97, 99, 107, 101, 116]⟩ : ByteArray) 5 _ h19)  (fun _ => by kernel_rfl)) Heads.nil)) (fun s17 tt => [(33, .agg #[.int .i64 r2.Tos, .int .i64 r2.Id, .bool r2.Whole, .bool r2.More, .int .i64 r2.Off, .int .i64 r2.Ttl, .int .i64 r2.Proto, .int .u32 r2.Src, .int .u32 r2.Dst, .string r2.Body]), (34, .iface 138 (.agg #[.string r18.1, .iface 80 (.agg #[.int .i64 r18.2.n])])), (4, .pointer (some ⟨b1, 0, none⟩)), (5, .nilIface), (6, .pointer (some ⟨b5, 0, none⟩))]) (fun s17 tt => [(b1, .cells #[.int .i64 0, .int .i64 0, .bool false, .bool false, .int .i64 0, .int .i64 0, .int .i64 0, .int .u32 0, .int .u32 0, .string (⟨#[]⟩ : ByteArray)] 91 (0, 0)), (b5, .cells #[.int .i64 r2.Tos, .int .i64 r2.Id, .bool r2.Whole, .bool r2.More, .int .i64 r2.Off, .int .i64 r2.Ttl, .int .i64 r2.Proto, .int .u32 r2.Src, .int .u32 r2.Dst, .string r2.Body] 91 (0, 0))]) (fun tt => Glob) (fun _ _ => by kernel_rfl) (fun _ _ => by kernel_rfl) (fun _ => by kernel_rfl) (fun s17 tt => ?_)
        refine WL.run 2 [0, 0, 0, 0, 0, 0, 0, 0, 0, 0] [4, 5, 6] (fun _ => [(4, .pointer (some ⟨b1, 0, none⟩)), (5, .iface 138 (.agg #[.string r18.1, .iface 80 (.agg #[.int .i64 r18.2.n])])), (6, .pointer (some ⟨b5, 0, none⟩))]) (fun _ => [(b1, .cells #[.int .i64 r2.Tos, .int .i64 r2.Id, .bool r2.Whole, .bool r2.More, .int .i64 r2.Off, .int .i64 r2.Ttl, .int .i64 r2.Proto, .int .u32 r2.Src, .int .u32 r2.Dst, .string r2.Body] 91 (0, 0)), (b5, .cells #[.int .i64 r2.Tos, .int .i64 r2.Id, .bool r2.Whole, .bool r2.More, .int .i64 r2.Off, .int .i64 r2.Ttl, .int .i64 r2.Proto, .int .u32 r2.Src, .int .u32 r2.Dst, .string r2.Body] 91 (0, 0))]) (fun _ => [b1, b1, b1, b1, b1, b1, b1, b1, b1, b1]) (fun _ => by kernel_rfl) (fun _ => ?_)
        refine WP.done ?_
        obtain rfl := Option.some.inj hM
        exact WP.ret [0, 0, 0, 0, 0, 0, 0, 0, 0, 0] [b1, b1, b1, b1, b1, b1, b1, b1, b1, b1] (.tuple #[.agg #[.int .i64 r2.Tos, .int .i64 r2.Id, .bool r2.Whole, .bool r2.More, .int .i64 r2.Off, .int .i64 r2.Ttl, .int .i64 r2.Proto, .int .u32 r2.Src, .int .u32 r2.Dst, .string r2.Body], .iface 138 (.agg #[.string r18.1, .iface 80 (.agg #[.int .i64 r18.2.n])])]) (by kernel_rfl) (fun w' hw => ⟨rfl, hw.pick [] rfl⟩)
      · replace hM := cond_f hM c16
        refine WP.skip ?_
        refine WP.leave ?_
        refine WP.seq ?_
        refine WP.run [1, 1, 1, 1, 1, 1, 1, 1, 1, 1, 0, 0, 0, 0, 0, 0, 0, 0, 0, 0] [4, 5] (fun _ => [(4, .pointer (some ⟨b1, 0, none⟩)), (5, .nilIface)]) (fun _ => [(b1, .cells #[.int .i64 r2.Tos, .int .i64 r2.Id, .bool r2.Whole, .bool r2.More, .int .i64 r2.Off, .int .i64 r2.Ttl, .int .i64 r2.Proto, .int .u32 r2.Src, .int .u32 r2.Dst, .string r2.Body] 91 (0, 0)), (b5, .cells #[.int .i64 r2.Tos, .int .i64 r2.Id, .bool r2.Whole, .bool r2.More, .int .i64 r2.Off, .int .i64 r2.Ttl, .int .i64 r2.Proto, .int .u32 r2.Src, .int .u32 r2.Dst, .string r2.Body] 91 (0, 0))]) (fun _ => [b1, b1, b1, b1, b1, b1, b1, b1, b1, b1, b5, b5, b5, b5, b5, b5, b5, b5, b5, b5]) (fun _ => by kernel_rfl) (fun _ => ?_)
        refine WP.keep [true, false] (by kernel_rfl : _ = [(b1, .cells #[.int .i64 r2.Tos, .int .i64 r2.Id, .bool r2.Whole, .bool r2.More, .int .i64 r2.Off, .int .i64 r2.Ttl, .int .i64 r2.Proto, .int .u32 r2.Src, .int .u32 r2.Dst, .string r2.Body] 91 (0, 0))]) ?_
        obtain rfl := Option.some.inj hM
        exact WP.ret [0, 0, 0, 0, 0, 0, 0, 0, 0, 0] [b1, b1, b1, b1, b1, b1, b1, b1, b1, b1] (.tuple #[.agg #[.int .i64 r2.Tos, .int .i64 r2.Id, .bool r2.Whole, .bool r2.More, .int .i64 r2.Off, .int .i64 r2.Ttl, .int .i64 r2.Proto, .int .u32 r2.Src, .int .u32 r2.Dst, .string r2.Body], .nilIface]) (by kernel_rfl) (fun w' hw => ⟨rfl, hw.pick [] rfl⟩)

end Go.Proofs.YtbodofjnfmjbpaaGreatDoor

namespace Go.Proofs.YtbodofjnfmjbpaaGreatDoor
open Go Eng
set_option linter.unusedVariables false
set_option linter.unusedSimpArgs false

/-! ### gangway/udp.wrong: function 113 -/
def udp_wrong.k1 (r2 : Int) (x21 : Bool) : Option (Int × Int) :=
  bif x21 then
    some (3, 0)
  else
    some (4, i64 r2)

def udp_wrong.f (k : Nat) (a0 : Int) (a1 : Int) (a2 : ByteArray) : Option (Int × Int) :=
  bif decide ((a2.size : Int) < 8) then
    some (0, 0)
  else
    (octets_Get.f k a2 4 2).bind fun (r2, r3) =>
    (octets_Get.f k a2 6 2).bind fun (r5, r6) =>
    bif decide ((i64 r2) < 8) then
      some (1, 0)
    else
      bif decide ((i64 r2) > (a2.size : Int)) then
        some (2, 0)
      else
        bif (r5 != 0) then
          (csum_Head.f k a0 a1 17 (i64 r2)).bind fun r13 =>
          (sliceS a2 0 (i64 r2)).bind fun t15 =>
          (csum_Right.f k ([r13, t15] : List ByteArray)).bind fun r18 =>
          udp_wrong.k1 r2 (!r18)
        else
          udp_wrong.k1 r2 false

set_option maxRecDepth 100000 in
theorem udp_wrong_calls (k : Nat) (a0 : Int) (a1 : Int) (a2 : ByteArray) (r : Int × Int) (h : udp_wrong.f k a0 a1 a2 = some r) : Pure Tryz.prog Glob 113 #[.int .u32 a0, .int .u32 a1, .string a2] (.tuple #[.int .i64 r.1, .int .i64 r.2]) := by
  intro w Z hS
  refine calls_of (args := [.int .u32 a0, .int .u32 a1, .string a2]) (L := [(0, .int .u32 a0), (1, .int .u32 a1), (2, .string a2)]) (N := 52) (S := Sat w Z [] [] Glob) Tryz.func113 rfl rfl (Nat.le_of_ble_eq_true rfl) rfl hS ?_
  have hM := h
  clear h hS
  unfold udp_wrong.f at hM
  refine WP.less (Φ' := [] ++ Glob) (fun _ h => h) ?_
  refine WP.seq ?_
  refine WP.run [] [0, 1, 2, 6, 7] (fun _ => [(0, .int .u32 a0), (1, .int .u32 a1), (2, .string a2), (6, .int .i64 0), (7, .int .i64 0)]) (fun _ => []) (fun _ => []) (fun _ => by kernel_rfl) (fun _ => ?_)
  refine WP.seq ?_
  refine WP.seq ?_
  refine WP.run [] [0, 1, 2, 6, 7, 15] (fun _ => [(0, .int .u32 a0), (1, .int .u32 a1), (2, .string a2), (6, .int .i64 0), (7, .int .i64 0), (15, .bool (decide ((a2.size : Int) < 8)))]) (fun _ => []) (fun _ => []) (fun _ => by kernel_rfl) (fun _ => ?_)
  refine WP.cond (decide ((a2.size : Int) < 8)) rfl rfl (fun c1 => ?_) (fun c1 => ?_)
  · replace hM := cond_t hM c1
    refine WP.seq ?_
    refine WP.run [] [0, 1, 2, 6, 7] (fun _ => [(0, .int .u32 a0), (1, .int .u32 a1), (2, .string a2), (6, .int .i64 0), (7, .int .i64 0)]) (fun _ => []) (fun _ => []) (fun _ => by kernel_rfl) (fun _ => ?_)
    obtain rfl := Option.some.inj hM
    exact WP.ret [] [] (.tuple #[.int .i64 0, .int .i64 0]) (by kernel_rfl) (fun w' hw => ⟨rfl, (hw.pick [] rfl).less (fun _ h => List.mem_append_right _ h)⟩)
  · replace hM := cond_f hM c1
    refine WP.skip ?_
    refine WP.seq ?_
    refine WP.region ?_
    refine WL.run 1 [] [0, 1, 2, 6, 7, 17] (fun _ => [(0, .int .u32 a0), (1, .int .u32 a1), (2, .string a2), (6, .int .i64 0), (7, .int .i64 0), (17, .string a2)]) (fun _ => []) (fun _ => []) (fun _ => by kernel_rfl) (fun _ => ?_)
    obtain ⟨⟨r2, r3⟩, h4, hM⟩ := bind_some hM
    dsimp only at hM
    refine WL.callP [] [] (octets_Get_calls k a2 4 2 _ h4) (fun _ h => List.mem_append_right _ h) (by kernel_rfl) (by kernel_rfl) rfl ?_
    refine WL.run 5 [] [0, 1, 2, 6, 7, 8] (fun _ => [(0, .int .u32 a0), (1, .int .u32 a1), (2, .string a2), (6, .int .i64 0), (7, .int .i64 0), (8, .int .u64 r2)]) (fun _ => []) (fun _ => []) (fun _ => by kernel_rfl) (fun _ => ?_)
    refine WP.done ?_
    refine WP.seq ?_
    refine WP.region ?_
    refine WL.run 1 [] [0, 1, 2, 6, 7, 8, 22] (fun _ => [(0, .int .u32 a0), (1, .int .u32 a1), (2, .string a2), (6, .int .i64 0), (7, .int .i64 0), (8, .int .u64 r2), (22, .string a2)]) (fun _ => []) (fun _ => []) (fun _ => by kernel_rfl) (fun _ => ?_)
    obtain ⟨⟨r5, r6⟩, h7, hM⟩ := bind_some hM
    dsimp only at hM
    refine WL.callP [] [] (octets_Get_calls k a2 6 2 _ h7) (fun _ h => List.mem_append_right _ h) (by kernel_rfl) (by kernel_rfl) rfl ?_
    refine WL.run 5 [] [0, 1, 2, 6, 7, 8, 10] (fun _ => [(0, .int .u32 a0), (1, .int .u32 a1), (2, .string a2), (6, .int .i64 0), (7, .int .i64 0), (8, .int .u64 r2), (10, .int .u64 r5)]) (fun _ => []) (fun _ => []) (fun _ => by kernel_rfl) (fun _ => ?_)
    refine WP.done ?_
    refine WP.seq ?_
    refine WP.run [] [0, 1, 2, 6, 7, 10, 12] (fun _ => [(0, .int .u32 a0), (1, .int .u32 a1), (2, .string a2), (6, .int .i64 0), (7, .int .i64 0), (10, .int .u64 r5), (12, .int .i64 (i64 r2))]) (fun _ => []) (fun _ => []) (fun _ => by kernel_rfl) (fun _ => ?_)
    refine WP.seq ?_
    refine WP.block ?_
    refine WP.seq ?_
    refine WP.run [] [0, 1, 2, 6, 7, 10, 12, 28] (fun _ => [(0, .int .u32 a0), (1, .int .u32 a1), (2, .string a2), (6, .int .i64 0), (7, .int .i64 0), (10, .int .u64 r5), (12, .int .i64 (i64 r2)), (28, .bool (decide ((i64 r2) < 8)))]) (fun _ => []) (fun _ => []) (fun _ => by kernel_rfl) (fun _ => ?_)
    refine WP.cond (decide ((i64 r2) < 8)) rfl rfl (fun c8 => ?_) (fun c8 => ?_)
    · replace hM := cond_t hM c8
      refine WP.seq ?_
      refine WP.run [] [6, 7, 12] (fun _ => [(6, .int .i64 1), (7, .int .i64 0), (12, .int .i64 (i64 r2))]) (fun _ => []) (fun _ => []) (fun _ => by kernel_rfl) (fun _ => ?_)
      obtain rfl := Option.some.inj hM
      exact WP.ret [] [] (.tuple #[.int .i64 1, .int .i64 0]) (by kernel_rfl) (fun w' hw => ⟨rfl, (hw.pick [] rfl).less (fun _ h => List.mem_append_right _ h)⟩)
    · replace hM := cond_f hM c8
      refine WP.seq ?_
      refine WP.run [] [0, 1, 2, 6, 7, 10, 12, 31] (fun _ => [(0, .int .u32 a0), (1, .int .u32 a1), (2, .string a2), (6, .int .i64 0), (7, .int .i64 0), (10, .int .u64 r5), (12, .int .i64 (i64 r2)), (31, .bool (decide ((i64 r2) > (a2.size : Int))))]) (fun _ => []) (fun _ => []) (fun _ => by kernel_rfl) (fun _ => ?_)
      refine WP.cond (decide ((i64 r2) > (a2.size : Int))) rfl rfl (fun c9 => ?_) (fun c9 => ?_)
      · replace hM := cond_t hM c9
        refine WP.seq ?_
        refine WP.run [] [6, 7, 12] (fun _ => [(6, .int .i64 2), (7, .int .i64 0), (12, .int .i64 (i64 r2))]) (fun _ => []) (fun _ => []) (fun _ => by kernel_rfl) (fun _ => ?_)
        obtain rfl := Option.some.inj hM
        exact WP.ret [] [] (.tuple #[.int .i64 2, .int .i64 0]) (by kernel_rfl) (fun w' hw => ⟨rfl, (hw.pick [] rfl).less (fun _ h => List.mem_append_right _ h)⟩)
      · replace hM := cond_f hM c9
        refine WP.seq ?_
        refine WP.join (σ := Bool) (fun st => udp_wrong.k1 r2 st = some r) (fun st => [(6, .int .i64 0), (7, .int .i64 0), (12, .int .i64 (i64 r2)), (36, .bool st)]) (fun st => Sat w Z [] [] ([] ++ Glob)) (fun st hM => ?_) (fun K1 => ?_)
        ·
          obtain ⟨x21, rfl⟩ : ∃ y, y = st := ⟨st, rfl⟩
          replace hM : udp_wrong.k1 r2 x21 = some r := hM
          unfold udp_wrong.k1 at hM
          show WP _ _ _ _ _ [(6, .int .i64 0), (7, .int .i64 0), (12, .int .i64 (i64 r2)), (36, .bool x21)] (Sat w Z [] [] ([] ++ Glob))
          refine WP.cond x21 rfl rfl (fun c22 => ?_) (fun c22 => ?_)
          · replace hM := cond_t hM c22
            refine WP.seq ?_
            refine WP.run [] [6, 7, 12] (fun _ => [(6, .int .i64 3), (7, .int .i64 0), (12, .int .i64 (i64 r2))]) (fun _ => []) (fun _ => []) (fun _ => by kernel_rfl) (fun _ => ?_)
            obtain rfl := Option.some.inj hM
            exact WP.ret [] [] (.tuple #[.int .i64 3, .int .i64 0]) (by kernel_rfl) (fun w' hw => ⟨rfl, (hw.pick [] rfl).less (fun _ h => List.mem_append_right _ h)⟩)
          · replace hM := cond_f hM c22
            refine WP.skip ?_
            refine WP.leave ?_
            refine WP.seq ?_
            refine WP.run [] [6, 7] (fun _ => [(6, .int .i64 4), (7, .int .i64 (i64 r2))]) (fun _ => []) (fun _ => []) (fun _ => by kernel_rfl) (fun _ => ?_)
            obtain rfl := Option.some.inj hM
            exact WP.ret [] [] (.tuple #[.int .i64 4, .int .i64 (i64 r2)]) (by kernel_rfl) (fun w' hw => ⟨rfl, (hw.pick [] rfl).less (fun _ h => List.mem_append_right _ h)⟩)
        ·
          refine WP.byBool (r5 != 0) (fun c11 => ?_) (fun c11 => ?_)
          · replace hM := cond_t hM c11
            obtain ⟨r13, h14, hM⟩ := bind_some hM
            obtain ⟨t15, h16, hM⟩ := bind_some hM
            refine WP.sub [0, 1, 2, 6, 7, 10, 12] (L' := [(0, .int .u32 a0), (1, .int .u32 a1), (2, .string a2), (6, .int .i64 0), (7, .int .i64 0), (10, .int .u64 r5), (12, .int .i64 (i64 r2))]) (by kernel_rfl) ?_
            refine WP.mixed (X := Unit) 10 [.val (.int .u64 r5), .val (.bool true), .val (.bool true), .val (.int .u32 a0), .val (.int .u32 a1), .val (.int .i64 (i64 r2)), .val (.string r13), .val (.string a2), .val (.int .i64 (i64 r2)), .val (.string t15)] [] [] (by kernel_rfl) (by kernel_rfl) (by kernel_rfl) (by kernel_rfl) (Heads.val (fun tt Ψ => OpV.run [] [] (by kernel_rfl) (fun _ => by kernel_rfl)) (Heads.val (fun tt Ψ => OpV.cast (congrArg Value.bool c11) (OpV.run [] [] (by kernel_rfl) (fun _ => by kernel_rfl))) (Heads.val (fun tt Ψ => OpV.run [] [] (by kernel_rfl) (fun _ => by kernel_rfl)) (Heads.val (fun tt Ψ => OpV.run [] [] (by kernel_rfl) (fun _ => by kernel_rfl)) (Heads.val (fun tt Ψ => OpV.run [] [] (by kernel_rfl) (fun _ => by kernel_rfl)) (Heads.val (fun tt Ψ => OpV.run [] [] (by kernel_rfl) (fun _ => by kernel_rfl)) (Heads.val (fun tt Ψ => OpV.callF [] [] (fun _ h => (List.mem_append_right _ (List.mem_append_right _ h))) (csum_Head_calls k a0 a1 17 (i64 r2) _ h14)  (fun _ => by kernel_rfl)) (Heads.val (fun tt Ψ => OpV.run [] [] (by kernel_rfl) (fun _ => by kernel_rfl)) (Heads.val (fun tt Ψ => OpV.run [] [] (by kernel_rfl) (fun _ => by kernel_rfl)) (Heads.val (fun tt Ψ => OpV.val (fun _ => run_sliceS_hi (s := a2) (kh := .i64) (h := i64 r2) (by kernel_rfl) (by kernel_rfl) (by kernel_rfl) h16) (by kernel_rfl)) Heads.nil)))))))))) (fun s12 tt => [(37, .int .u64 r5), (38, .bool true), (39, .bool true), (40, .int .u32 a0), (41, .int .u32 a1), (42, .int .i64 (i64 r2)), (43, .string r13), (44, .string a2), (45, .int .i64 (i64 r2)), (46, .string t15), (0, .int .u32 a0), (1, .int .u32 a1), (2, .string a2), (6, .int .i64 0), (7, .int .i64 0), (10, .int .u64 r5), (12, .int .i64 (i64 r2))]) (fun s12 tt => []) (fun tt => ([] ++ []) ++ Glob) (fun _ _ => by kernel_rfl) (fun _ _ => by kernel_rfl) (fun _ => by kernel_rfl) (fun s12 tt => ?_)
            refine WL.run 1 [] [6, 7, 12, 39, 47] (fun b17 => [(6, .int .i64 0), (7, .int .i64 0), (12, .int .i64 (i64 r2)), (39, .bool true), (47, .slice (some ⟨b17, 0, none⟩) 2 2)]) (fun b17 => [(b17, .cells #[.string r13, .string t15] 9 (0, 0))]) (fun b17 => []) (fun b17 => by kernel_rfl) (fun b17 => ?_)
            refine WL.ice (H' := []) (Row 1 (pl encS) noK (SkL.at b17 2 (fun _ => ())) ([r13, t15] : List ByteArray)) 0 (b := b17) (ob := .cells #[.string r13, .string t15] 9 (0, 0)) (by kernel_rfl) [] [] (by kernel_rfl) (fun w hb hψ => row_of_block hb (fun _ _ => rfl) ⟨[], by kernel_rfl⟩ (Nat.le_of_ble_eq_true rfl) (InK.no _ _)) (by kernel_rfl) ?_
            obtain ⟨r18, h19, hM⟩ := bind_some hM
            refine WL.callP [] [] (csum_Right_calls k (SkL.at b17 2 (fun _ => ())) ([r13, t15] : List ByteArray) _ h19) (sub_pick [0] (by kernel_rfl)) (by kernel_rfl) (by kernel_rfl) rfl ?_
            refine WL.run 3 [] [6, 7, 12, 36] (fun _ => [(6, .int .i64 0), (7, .int .i64 0), (12, .int .i64 (i64 r2)), (36, .bool (!r18))]) (fun _ => []) (fun _ => []) (fun _ => by kernel_rfl) (fun _ => ?_)
            refine WP.done ?_
            exact WP.sub [6, 7, 12, 36] (by kernel_rfl) (WP.pick [] (by kernel_rfl) (by kernel_rfl) (WP.lessF [] (by kernel_rfl) (K1 (!r18) hM)))
          · replace hM := cond_f hM c11
            refine WP.sub [0, 1, 2, 6, 7, 10, 12] (L' := [(0, .int .u32 a0), (1, .int .u32 a1), (2, .string a2), (6, .int .i64 0), (7, .int .i64 0), (10, .int .u64 r5), (12, .int .i64 (i64 r2))]) (by kernel_rfl) ?_
            refine WP.mixed (X := Unit) 10 [.val (.int .u64 r5), .val (.bool false), .val (.bool false), .skip, .skip, .skip, .skip, .skip, .skip, .skip] [] [] (by kernel_rfl) (by kernel_rfl) (by kernel_rfl) (by kernel_rfl) (Heads.val (fun tt Ψ => OpV.run [] [] (by kernel_rfl) (fun _ => by kernel_rfl)) (Heads.val (fun tt Ψ => OpV.cast (congrArg Value.bool c11) (OpV.run [] [] (by kernel_rfl) (fun _ => by kernel_rfl))) (Heads.val (fun tt Ψ => OpV.run [] [] (by kernel_rfl) (fun _ => by kernel_rfl)) (Heads.skip (fun _ => by kernel_rfl) (Heads.skip (fun _ => by kernel_rfl) (Heads.skip (fun _ => by kernel_rfl) (Heads.skip (fun _ => by kernel_rfl) (Heads.skip (fun _ => by kernel_rfl) (Heads.skip (fun _ => by kernel_rfl) (Heads.skip (fun _ => by kernel_rfl) Heads.nil)))))))))) (fun s20 tt => [(37, .int .u64 r5), (38, .bool false), (39, .bool false), (40, .tuple #[]), (41, .tuple #[]), (42, .tuple #[]), (43, .tuple #[]), (44, .tuple #[]), (45, .tuple #[]), (46, .tuple #[]), (0, .int .u32 a0), (1, .int .u32 a1), (2, .string a2), (6, .int .i64 0), (7, .int .i64 0), (10, .int .u64 r5), (12, .int .i64 (i64 r2))]) (fun s20 tt => []) (fun tt => ([] ++ []) ++ Glob) (fun _ _ => by kernel_rfl) (fun _ _ => by kernel_rfl) (fun _ => by kernel_rfl) (fun s20 tt => ?_)
            refine WL.run 5 [] [6, 7, 12, 36] (fun _ => [(6, .int .i64 0), (7, .int .i64 0), (12, .int .i64 (i64 r2)), (36, .bool false)]) (fun _ => []) (fun _ => []) (fun _ => by kernel_rfl) (fun _ => ?_)
            refine WP.done ?_
            exact WP.sub [6, 7, 12, 36] (by kernel_rfl) (WP.pick [] (by kernel_rfl) (by kernel_rfl) (WP.lessF [] (by kernel_rfl) (K1 false hM)))

end Go.Proofs.YtbodofjnfmjbpaaGreatDoor

namespace Go.Proofs.YtbodofjnfmjbpaaGreatDoor
open Go Eng
set_option linter.unusedVariables false
set_option linter.unusedSimpArgs false

/-! ### gangway/udp.Parse: function 91 -/
def udp_Parse.k1 : Option (api_Udp × Int) :=
  some ((api_Udp.mk 0 0 false (⟨#[]⟩ : ByteArray)), 70)

def udp_Parse.f (k : Nat) (a0 : Int) (a1 : Int) (a2 : ByteArray) : Option (api_Udp × Int) :=
  (udp_wrong.f k a0 a1 a2).bind fun (r2, r3) =>
  bif (r2 == 0) then
    udp_Parse.k1
  else
    bif (r2 == 2) then
      udp_Parse.k1
    else
      bif (r2 == 1) then
        some ((api_Udp.mk 0 0 false (⟨#[]⟩ : ByteArray)), 71)
      else
        bif (r2 == 3) then
          some ((api_Udp.mk 0 0 false (⟨#[]⟩ : ByteArray)), 72)
        else
          (octets_Get.f k a2 0 2).bind fun (r9, r10) =>
          (octets_Get.f k a2 2 2).bind fun (r12, r13) =>
          (sliceS a2 6 8).bind fun t16 =>
          (sliceS a2 8 r3).bind fun t18 =>
          some ((api_Udp.mk (i64 r9) (i64 r12) (t16.toList == (⟨#[0, 0]⟩ : ByteArray).toList) t18), 0)

set_option maxRecDepth 100000 in
theorem udp_Parse_calls (k : Nat) (a0 : Int) (a1 : Int) (a2 : ByteArray) (r : api_Udp × Int) (h : udp_Parse.f k a0 a1 a2 = some r) : Pure Tryz.prog Glob 91 #[.int .u32 a0, .int .u32 a1, .string a2] (.tuple #[.agg #[.int .i64 r.1.Src, .int .i64 r.1.Dst, .bool r.1.NoSum, .string r.1.Body], .int .i64 r.2]) := by
  intro w Z hS
  refine calls_of (args := [.int .u32 a0, .int .u32 a1, .string a2]) (L := [(0, .int .u32 a0), (1, .int .u32 a1), (2, .string a2)]) (N := 54) (S := Sat w Z [] [] Glob) Tryz.func91 rfl rfl (Nat.le_of_ble_eq_true rfl) rfl hS ?_
  have hM := h
  clear h hS
  unfold udp_Parse.f at hM
  refine WP.seq ?_
  refine WP.run [] [0, 1, 2, 6, 7] (fun b1 => [(0, .int .u32 a0), (1, .int .u32 a1), (2, .string a2), (6, .pointer (some ⟨b1, 0, none⟩)), (7, .int .i64 0)]) (fun b1 => [(b1, .cells #[.int .i64 0, .int .i64 0, .bool false, .string (⟨#[]⟩ : ByteArray)] 40 (0, 0))]) (fun b1 => []) (fun b1 => by kernel_rfl) (fun b1 => ?_)
  refine WP.seq ?_
  refine WP.region ?_
  refine WL.run 3 [] [2, 6, 7, 15, 16, 17] (fun _ => [(2, .string a2), (6, .pointer (some ⟨b1, 0, none⟩)), (7, .int .i64 0), (15, .int .u32 a0), (16, .int .u32 a1), (17, .string a2)]) (fun _ => [(b1, .cells #[.int .i64 0, .int .i64 0, .bool false, .string (⟨#[]⟩ : ByteArray)] 40 (0, 0))]) (fun _ => []) (fun _ => by kernel_rfl) (fun _ => ?_)
  obtain ⟨⟨r2, r3⟩, h4, hM⟩ := bind_some hM
  dsimp only at hM
  refine WL.callP [] [] (udp_wrong_calls k a0 a1 a2 _ h4) (fun _ h => h) (by kernel_rfl) (by kernel_rfl) rfl ?_
  refine WL.run 5 [] [2, 6, 7, 8, 9] (fun _ => [(2, .string a2), (6, .pointer (some ⟨b1, 0, none⟩)), (7, .int .i64 0), (8, .int .i64 r2), (9, .int .i64 r3)]) (fun _ => [(b1, .cells #[.int .i64 0, .int .i64 0, .bool false, .string (⟨#[]⟩ : ByteArray)] 40 (0, 0))]) (fun _ => []) (fun _ => by kernel_rfl) (fun _ => ?_)
  refine WP.done ?_
  refine WP.seq ?_
  refine WP.seq ?_
  refine WP.run [] [2, 6, 7, 9, 21] (fun _ => [(2, .string a2), (6, .pointer (some ⟨b1, 0, none⟩)), (7, .int .i64 0), (9, .int .i64 r3), (21, .int .i64 r2)]) (fun _ => [(b1, .cells #[.int .i64 0, .int .i64 0, .bool false, .string (⟨#[]⟩ : ByteArray)] 40 (0, 0))]) (fun _ => []) (fun _ => by kernel_rfl) (fun _ => ?_)
  refine WP.block ?_
  refine WP.seq ?_
  refine WP.block ?_
  refine WP.seq ?_
  refine WP.block ?_
  refine WP.seq ?_
  refine WP.blockJoin (σ := Unit) (fun st => udp_Parse.k1 = some r) (fun st => [(2, .string a2), (6, .pointer (some ⟨b1, 0, none⟩)), (7, .int .i64 0), (9, .int .i64 r3)]) (fun st => Sat w Z [(b1, .cells #[.int .i64 0, .int .i64 0, .bool false, .string (⟨#[]⟩ : ByteArray)] 40 (0, 0))] [] Glob) (fun st hM => ?_) (fun K1 => ?_)
  ·
    replace hM : udp_Parse.k1 = some r := hM
    unfold udp_Parse.k1 at hM
    show WP _ _ _ _ _ [(2, .string a2), (6, .pointer (some ⟨b1, 0, none⟩)), (7, .int .i64 0), (9, .int .i64 r3)] (Sat w Z [(b1, .cells #[.int .i64 0, .int .i64 0, .bool false, .string (⟨#[]⟩ : ByteArray)] 40 (0, 0))] [] Glob)
    refine WP.seq ?_
    refine WP.seq ?_
    refine WP.run [0, 0, 0, 0] [2, 6, 7, 9] (fun _ => [(2, .string a2), (6, .pointer (some ⟨b1, 0, none⟩)), (7, .int .i64 70), (9, .int .i64 r3)]) (fun _ => [(b1, .cells #[.int .i64 0, .int .i64 0, .bool false, .string (⟨#[]⟩ : ByteArray)] 40 (0, 0))]) (fun _ => [b1, b1, b1, b1]) (fun _ => by kernel_rfl) (fun _ => ?_)
    obtain rfl := Option.some.inj hM
    exact WP.ret [0, 0, 0, 0] [b1, b1, b1, b1] (.tuple #[.agg #[.int .i64 0, .int .i64 0, .bool false, .string (⟨#[]⟩ : ByteArray)], .int .i64 70]) (by kernel_rfl) (fun w' hw => ⟨rfl, hw.pick [] rfl⟩)
  ·
    refine WP.block ?_
    refine WP.seq ?_
    refine WP.seq ?_
    refine WP.seq ?_
    refine WP.run [] [2, 6, 7, 9, 21, 22] (fun _ => [(2, .string a2), (6, .pointer (some ⟨b1, 0, none⟩)), (7, .int .i64 0), (9, .int .i64 r3), (21, .int .i64 r2), (22, .bool (r2 == 0))]) (fun _ => [(b1, .cells #[.int .i64 0, .int .i64 0, .bool false, .string (⟨#[]⟩ : ByteArray)] 40 (0, 0))]) (fun _ => []) (fun _ => by kernel_rfl) (fun _ => ?_)
    refine WP.cond (r2 == 0) rfl rfl (fun c5 => ?_) (fun c5 => ?_)
    · replace hM := cond_t hM c5
      refine WP.exit rfl ?_
      refine WP.leave ?_
      exact WP.sub [2, 6, 7, 9] (by kernel_rfl) (WP.pick [0] (by kernel_rfl) (by kernel_rfl) (K1 () hM))
    · replace hM := cond_f hM c5
      refine WP.skip ?_
      refine WP.seq ?_
      refine WP.seq ?_
      refine WP.run [] [2, 6, 7, 9, 21, 24] (fun _ => [(2, .string a2), (6, .pointer (some ⟨b1, 0, none⟩)), (7, .int .i64 0), (9, .int .i64 r3), (21, .int .i64 r2), (24, .bool (r2 == 2))]) (fun _ => [(b1, .cells #[.int .i64 0, .int .i64 0, .bool false, .string (⟨#[]⟩ : ByteArray)] 40 (0, 0))]) (fun _ => []) (fun _ => by kernel_rfl) (fun _ => ?_)
      refine WP.cond (r2 == 2) rfl rfl (fun c6 => ?_) (fun c6 => ?_)
      · replace hM := cond_t hM c6
        refine WP.exit rfl ?_
        exact WP.sub [2, 6, 7, 9] (by kernel_rfl) (WP.pick [0] (by kernel_rfl) (by kernel_rfl) (K1 () hM))
      · replace hM := cond_f hM c6
        refine WP.skip ?_
        refine WP.seq ?_
        refine WP.seq ?_
        refine WP.run [] [2, 6, 7, 9, 21, 26] (fun _ => [(2, .string a2), (6, .pointer (some ⟨b1, 0, none⟩)), (7, .int .i64 0), (9, .int .i64 r3), (21, .int .i64 r2), (26, .bool (r2 == 1))]) (fun _ => [(b1, .cells #[.int .i64 0, .int .i64 0, .bool false, .string (⟨#[]⟩ : ByteArray)] 40 (0, 0))]) (fun _ => []) (fun _ => by kernel_rfl) (fun _ => ?_)
        refine WP.cond (r2 == 1) rfl rfl (fun c7 => ?_) (fun c7 => ?_)
        · replace hM := cond_t hM c7
          refine WP.exit rfl ?_
          refine WP.seq ?_
          refine WP.seq ?_
          refine WP.run [0, 0, 0, 0] [2, 6, 7, 9] (fun _ => [(2, .string a2), (6, .pointer (some ⟨b1, 0, none⟩)), (7, .int .i64 71), (9, .int .i64 r3)]) (fun _ => [(b1, .cells #[.int .i64 0, .int .i64 0, .bool false, .string (⟨#[]⟩ : ByteArray)] 40 (0, 0))]) (fun _ => [b1, b1, b1, b1]) (fun _ => by kernel_rfl) (fun _ => ?_)
          obtain rfl := Option.some.inj hM
          exact WP.ret [0, 0, 0, 0] [b1, b1, b1, b1] (.tuple #[.agg #[.int .i64 0, .int .i64 0, .bool false, .string (⟨#[]⟩ : ByteArray)], .int .i64 71]) (by kernel_rfl) (fun w' hw => ⟨rfl, hw.pick [] rfl⟩)
        · replace hM := cond_f hM c7
          refine WP.skip ?_
          refine WP.seq ?_
          refine WP.run [] [2, 6, 7, 9, 28] (fun _ => [(2, .string a2), (6, .pointer (some ⟨b1, 0, none⟩)), (7, .int .i64 0), (9, .int .i64 r3), (28, .bool (r2 == 3))]) (fun _ => [(b1, .cells #[.int .i64 0, .int .i64 0, .bool false, .string (⟨#[]⟩ : ByteArray)] 40 (0, 0))]) (fun _ => []) (fun _ => by kernel_rfl) (fun _ => ?_)
          refine WP.cond (r2 == 3) rfl rfl (fun c8 => ?_) (fun c8 => ?_)
          · replace hM := cond_t hM c8
            refine WP.exit rfl ?_
            refine WP.seq ?_
            refine WP.seq ?_
            refine WP.run [0, 0, 0, 0] [2, 6, 7, 9] (fun _ => [(2, .string a2), (6, .pointer (some ⟨b1, 0, none⟩)), (7, .int .i64 72), (9, .int .i64 r3)]) (fun _ => [(b1, .cells #[.int .i64 0, .int .i64 0, .bool false, .string (⟨#[]⟩ : ByteArray)] 40 (0, 0))]) (fun _ => [b1, b1, b1, b1]) (fun _ => by kernel_rfl) (fun _ => ?_)
            obtain rfl := Option.some.inj hM
            exact WP.ret [0, 0, 0, 0] [b1, b1, b1, b1] (.tuple #[.agg #[.int .i64 0, .int .i64 0, .bool false, .string (⟨#[]⟩ : ByteArray)], .int .i64 72]) (by kernel_rfl) (fun w' hw => ⟨rfl, hw.pick [] rfl⟩)
          · replace hM := cond_f hM c8
            refine WP.skip ?_
            refine WP.exit rfl ?_
            refine WP.seq ?_
            refine WP.region ?_
            refine WL.run 1 [] [2, 6, 7, 9, 34] (fun _ => [(2, .string a2), (6, .pointer (some ⟨b1, 0, none⟩)), (7, .int .i64 0), (9, .int .i64 r3), (34, .string a2)]) (fun _ => [(b1, .cells #[.int .i64 0, .int .i64 0, .bool false, .string (⟨#[]⟩ : ByteArray)] 40 (0, 0))]) (fun _ => []) (fun _ => by kernel_rfl) (fun _ => ?_)
            obtain ⟨⟨r9, r10⟩, h11, hM⟩ := bind_some hM
            dsimp only at hM
            refine WL.callP [] [] (octets_Get_calls k a2 0 2 _ h11) (fun _ h => h) (by kernel_rfl) (by kernel_rfl) rfl ?_
            refine WL.run 5 [] [2, 6, 7, 9, 10] (fun _ => [(2, .string a2), (6, .pointer (some ⟨b1, 0, none⟩)), (7, .int .i64 0), (9, .int .i64 r3), (10, .int .u64 r9)]) (fun _ => [(b1, .cells #[.int .i64 0, .int .i64 0, .bool false, .string (⟨#[]⟩ : ByteArray)] 40 (0, 0))]) (fun _ => []) (fun _ => by kernel_rfl) (fun _ => ?_)
            refine WP.done ?_
            refine WP.seq ?_
            refine WP.region ?_
            refine WL.run 1 [] [2, 6, 7, 9, 10, 39] (fun _ => [(2, .string a2), (6, .pointer (some ⟨b1, 0, none⟩)), (7, .int .i64 0), (9, .int .i64 r3), (10, .int .u64 r9), (39, .string a2)]) (fun _ => [(b1, .cells #[.int .i64 0, .int .i64 0, .bool false, .string (⟨#[]⟩ : ByteArray)] 40 (0, 0))]) (fun _ => []) (fun _ => by kernel_rfl) (fun _ => ?_)
            obtain ⟨⟨r12, r13⟩, h14, hM⟩ := bind_some hM
            dsimp only at hM
            refine WL.callP [] [] (octets_Get_calls k a2 2 2 _ h14) (fun _ h => h) (by kernel_rfl) (by kernel_rfl) rfl ?_
            refine WL.run 5 [] [2, 6, 7, 9, 10, 12] (fun _ => [(2, .string a2), (6, .pointer (some ⟨b1, 0, none⟩)), (7, .int .i64 0), (9, .int .i64 r3), (10, .int .u64 r9), (12, .int .u64 r12)]) (fun _ => [(b1, .cells #[.int .i64 0, .int .i64 0, .bool false, .string (⟨#[]⟩ : ByteArray)] 40 (0, 0))]) (fun _ => []) (fun _ => by kernel_rfl) (fun _ => ?_)
            refine WP.done ?_
            refine WP.seq ?_
            obtain ⟨t16, h17, hM⟩ := bind_some hM
            obtain ⟨t18, h19, hM⟩ := bind_some hM
            refine WP.sub [2, 6, 7, 9, 10, 12] (L' := [(2, .string a2), (6, .pointer (some ⟨b1, 0, none⟩)), (7, .int .i64 0), (9, .int .i64 r3), (10, .int .u64 r9), (12, .int .u64 r12)]) (by kernel_rfl) ?_
            refine WP.mixed (X := Unit) 10 [.val (.int .u64 r9), .val (.int .i64 (i64 r9)), .val (.int .u64 r12), .val (.int .i64 (i64 r12)), .val (.string a2), .val (.string t16), .val (.bool (t16.toList == (⟨#[0, 0]⟩ : ByteArray).toList)), .val (.string a2), .val (.int .i64 r3), .val (.string t18)] [(b1, .cells #[.int .i64 0, .int .i64 0, .bool false, .string (⟨#[]⟩ : ByteArray)] 40 (0, 0))] [] (by kernel_rfl) (by kernel_rfl) (by kernel_rfl) (by kernel_rfl) (Heads.val (fun tt Ψ => OpV.run [] [] (by kernel_rfl) (fun _ => by kernel_rfl)) (Heads.val (fun tt Ψ => OpV.run [] [] (by kernel_rfl) (fun _ => by kernel_rfl)) (Heads.val (fun tt Ψ => OpV.run [] [] (by kernel_rfl) (fun _ => by kernel_rfl)) (Heads.val (fun tt Ψ => OpV.run [] [] (by kernel_rfl) (fun _ => by kernel_rfl)) (Heads.val (fun tt Ψ => OpV.run [] [] (by kernel_rfl) (fun _ => by kernel_rfl)) (Heads.val (fun tt Ψ => OpV.val (fun _ => run_sliceS (s := a2) (kl := .i64) (kh := .i64) (l := 6) (h := 8) (by kernel_rfl) (by kernel_rfl) (by kernel_rfl) (by kernel_rfl) h17) (by kernel_rfl)) (Heads.val (fun tt Ψ => OpV.run [] [] (by kernel_rfl) (fun _ => by kernel_rfl)) (Heads.val (fun tt Ψ => OpV.run [] [] (by kernel_rfl) (fun _ => by kernel_rfl)) (Heads.val (fun tt Ψ => OpV.run [] [] (by kernel_rfl) (fun _ => by kernel_rfl)) (Heads.val (fun tt Ψ => OpV.val (fun _ => run_sliceS (s := a2) (kl := .i64) (kh := .i64) (l := 8) (h := r3) (by kernel_rfl) (by kernel_rfl) (by kernel_rfl) (by kernel_rfl) h19) (by kernel_rfl)) Heads.nil)))))))))) (fun s15 tt => [(43, .int .u64 r9), (44, .int .i64 (i64 r9)), (45, .int .u64 r12), (46, .int .i64 (i64 r12)), (47, .string a2), (48, .string t16), (49, .bool (t16.toList == (⟨#[0, 0]⟩ : ByteArray).toList)), (50, .string a2), (51, .int .i64 r3), (52, .string t18), (2, .string a2), (6, .pointer (some ⟨b1, 0, none⟩)), (7, .int .i64 0), (9, .int .i64 r3), (10, .int .u64 r9), (12, .int .u64 r12)]) (fun s15 tt => [(b1, .cells #[.int .i64 0, .int .i64 0, .bool false, .string (⟨#[]⟩ : ByteArray)] 40 (0, 0))]) (fun tt => Glob) (fun _ _ => by kernel_rfl) (fun _ _ => by kernel_rfl) (fun _ => by kernel_rfl) (fun s15 tt => ?_)
            refine WL.run 3 [0, 0, 0, 0] [6, 7] (fun _ => [(6, .pointer (some ⟨b1, 0, none⟩)), (7, .int .i64 0)]) (fun _ => [(b1, .cells #[.int .i64 (i64 r9), .int .i64 (i64 r12), .bool (t16.toList == (⟨#[0, 0]⟩ : ByteArray).toList), .string t18] 40 (0, 0))]) (fun _ => [b1, b1, b1, b1]) (fun _ => by kernel_rfl) (fun _ => ?_)
            refine WP.done ?_
            obtain rfl := Option.some.inj hM
            exact WP.ret [0, 0, 0, 0] [b1, b1, b1, b1] (.tuple #[.agg #[.int .i64 (i64 r9), .int .i64 (i64 r12), .bool (t16.toList == (⟨#[0, 0]⟩ : ByteArray).toList), .string t18], .int .i64 0]) (by kernel_rfl) (fun w' hw => ⟨rfl, hw.pick [] rfl⟩)

end Go.Proofs.YtbodofjnfmjbpaaGreatDoor

namespace Go.Proofs.YtbodofjnfmjbpaaGreatDoor
open Go Eng
set_option linter.unusedVariables false
set_option linter.unusedSimpArgs false

/-! ### gangway/station.datagram: function 58 -/
def station_datagram.f (k : Nat) (a0 : api_Ip) : Option (api_Udp × Un2) :=
  (udp_Parse.f k a0.Src a0.Dst a0.Body).bind fun (r2, r3) =>
  bif ((a0.Proto != 17) || (r3 != 0)) then
    (station_not.f (⟨#[100, 97, 116, 97, 103, 114, 97, 109]⟩ : ByteArray) 6).bind fun r8 =>
    some (r2, some (r8.1, r8.2))
  else
    bif (r2.Dst != 4789) then
      (station_not.f (⟨#[100, 97, 116, 97, 103, 114, 97, 109]⟩ : ByteArray) 7).bind fun r12 =>
      some (r2, some (r12.1, r12.2))
    else
      some (r2, none)

set_option maxRecDepth 100000 in
theorem station_datagram_calls (k : Nat) (a0 : api_Ip) (r : api_Udp × Un2) (h : station_datagram.f k a0 = some r) : Pure Tryz.prog Glob 58 #[.agg #[.int .i64 a0.Tos, .int .i64 a0.Id, .bool a0.Whole, .bool a0.More, .int .i64 a0.Off, .int .i64 a0.Ttl, .int .i64 a0.Proto, .int .u32 a0.Src, .int .u32 a0.Dst, .string a0.Body]] (.tuple #[.agg #[.int .i64 r.1.Src, .int .i64 r.1.Dst, .bool r.1.NoSum, .string r.1.Body], Un2.v r.2]) := by
  intro w Z hS
  refine calls_of (args := [.agg #[.int .i64 a0.Tos, .int .i64 a0.Id, .bool a0.Whole, .bool a0.More, .int .i64 a0.Off, .int .i64 a0.Ttl, .int .i64 a0.Proto, .int .u32 a0.Src, .int .u32 a0.Dst, .string a0.Body]]) (L := [(0, .agg #[.int .i64 a0.Tos, .int .i64 a0.Id, .bool a0.Whole, .bool a0.More, .int .i64 a0.Off, .int .i64 a0.Ttl, .int .i64 a0.Proto, .int .u32 a0.Src, .int .u32 a0.Dst, .string a0.Body])]) (N := 33) (S := Sat w Z [] [] Glob) Tryz.func58 rfl rfl (Nat.le_of_ble_eq_true rfl) rfl hS ?_
  have hM := h
  clear h hS
  unfold station_datagram.f at hM
  refine WP.seq ?_
  refine WP.run [] [1, 2, 3] (fun b1 => [(1, .pointer (some ⟨b1, 0, none⟩)), (2, .pointer (some ⟨(b1 + 1), 0, none⟩)), (3, .nilIface)]) (fun b1 => [(b1, .cells #[.int .i64 a0.Tos, .int .i64 a0.Id, .bool a0.Whole, .bool a0.More, .int .i64 a0.Off, .int .i64 a0.Ttl, .int .i64 a0.Proto, .int .u32 a0.Src, .int .u32 a0.Dst, .string a0.Body] 91 (0, 0)), ((b1 + 1), .cells #[.int .i64 0, .int .i64 0, .bool false, .string (⟨#[]⟩ : ByteArray)] 40 (0, 0))]) (fun b1 => []) (fun b1 => by kernel_rfl) (fun b1 => ?_)
  refine WP.seq ?_
  refine WP.region ?_
  refine WL.run 6 [0, 0, 0] [1, 2, 3, 8, 10, 12] (fun _ => [(1, .pointer (some ⟨b1, 0, none⟩)), (2, .pointer (some ⟨(b1 + 1), 0, none⟩)), (3, .nilIface), (8, .int .u32 a0.Src), (10, .int .u32 a0.Dst), (12, .string a0.Body)]) (fun _ => [(b1, .cells #[.int .i64 a0.Tos, .int .i64 a0.Id, .bool a0.Whole, .bool a0.More, .int .i64 a0.Off, .int .i64 a0.Ttl, .int .i64 a0.Proto, .int .u32 a0.Src, .int .u32 a0.Dst, .string a0.Body] 91 (0, 0)), ((b1 + 1), .cells #[.int .i64 0, .int .i64 0, .bool false, .string (⟨#[]⟩ : ByteArray)] 40 (0, 0))]) (fun _ => [b1, b1, b1]) (fun _ => by kernel_rfl) (fun _ => ?_)
  obtain ⟨⟨r2, r3⟩, h4, hM⟩ := bind_some hM
  dsimp only at hM
  refine WL.callP [] [] (udp_Parse_calls k a0.Src a0.Dst a0.Body _ h4) (fun _ h => h) (by kernel_rfl) (by kernel_rfl) rfl ?_
  refine WL.run 6 [2, 2, 2, 2] [1, 2, 3, 4, 5] (fun b5 => [(1, .pointer (some ⟨b1, 0, none⟩)), (2, .pointer (some ⟨(b1 + 1), 0, none⟩)), (3, .nilIface), (4, .pointer (some ⟨b5, 0, none⟩)), (5, .int .i64 r3)]) (fun b5 => [(b1, .cells #[.int .i64 a0.Tos, .int .i64 a0.Id, .bool a0.Whole, .bool a0.More, .int .i64 a0.Off, .int .i64 a0.Ttl, .int .i64 a0.Proto, .int .u32 a0.Src, .int .u32 a0.Dst, .string a0.Body] 91 (0, 0)), ((b1 + 1), .cells #[.int .i64 0, .int .i64 0, .bool false, .string (⟨#[]⟩ : ByteArray)] 40 (0, 0)), (b5, .cells #[.int .i64 r2.Src, .int .i64 r2.Dst, .bool r2.NoSum, .string r2.Body] 40 (0, 0))]) (fun b5 => [b5, b5, b5, b5]) (fun b5 => by kernel_rfl) (fun b5 => ?_)
  refine WP.done ?_
  refine WP.seq ?_
  refine WP.block ?_
  refine WP.seq ?_
  refine WP.region ?_
  refine WL.run 4 [0] [2, 3, 4, 5, 20] (fun _ => [(2, .pointer (some ⟨(b1 + 1), 0, none⟩)), (3, .nilIface), (4, .pointer (some ⟨b5, 0, none⟩)), (5, .int .i64 r3), (20, .bool (a0.Proto != 17))]) (fun _ => [(b1, .cells #[.int .i64 a0.Tos, .int .i64 a0.Id, .bool a0.Whole, .bool a0.More, .int .i64 a0.Off, .int .i64 a0.Ttl, .int .i64 a0.Proto, .int .u32 a0.Src, .int .u32 a0.Dst, .string a0.Body] 91 (0, 0)), ((b1 + 1), .cells #[.int .i64 0, .int .i64 0, .bool false, .string (⟨#[]⟩ : ByteArray)] 40 (0, 0)), (b5, .cells #[.int .i64 r2.Src, .int .i64 r2.Dst, .bool r2.NoSum, .string r2.Body] 40 (0, 0))]) (fun _ => [b1]) (fun _ => by kernel_rfl) (fun _ => ?_)
  refine WL.sub [2, 3, 4, 5, 20] (L' := [(2, .pointer (some ⟨(b1 + 1), 0, none⟩)), (3, .nilIface), (4, .pointer (some ⟨b5, 0, none⟩)), (5, .int .i64 r3), (20, .bool (a0.Proto != 17))]) (by kernel_rfl) ?_
  refine WL.both (fun b' => [(2, .pointer (some ⟨(b1 + 1), 0, none⟩)), (3, .nilIface), (4, .pointer (some ⟨b5, 0, none⟩)), (5, .int .i64 r3), (20, .bool b')]) (a0.Proto != 17) 3 [] [] [2, 3, 4, 23] (fun b' => [(2, .pointer (some ⟨(b1 + 1), 0, none⟩)), (3, .nilIface), (4, .pointer (some ⟨b5, 0, none⟩)), (23, .bool (b' || (r3 != 0)))]) [] [] (fun _ => by kernel_rfl) (fun _ => by kernel_rfl) ?_
  refine WL.run 1 [] [2, 3, 4, 16] (fun _ => [(2, .pointer (some ⟨(b1 + 1), 0, none⟩)), (3, .nilIface), (4, .pointer (some ⟨b5, 0, none⟩)), (16, .bool ((a0.Proto != 17) || (r3 != 0)))]) (fun _ => [(b1, .cells #[.int .i64 a0.Tos, .int .i64 a0.Id, .bool a0.Whole, .bool a0.More, .int .i64 a0.Off, .int .i64 a0.Ttl, .int .i64 a0.Proto, .int .u32 a0.Src, .int .u32 a0.Dst, .string a0.Body] 91 (0, 0)), ((b1 + 1), .cells #[.int .i64 0, .int .i64 0, .bool false, .string (⟨#[]⟩ : ByteArray)] 40 (0, 0)), (b5, .cells #[.int .i64 r2.Src, .int .i64 r2.Dst, .bool r2.NoSum, .string r2.Body] 40 (0, 0))]) (fun _ => []) (fun _ => by kernel_rfl) (fun _ => ?_)
  refine WP.done ?_
  refine WP.keep [false, true, true] (by kernel_rfl : _ = [((b1 + 1), .cells #[.int .i64 0, .int .i64 0, .bool false, .string (⟨#[]⟩ : ByteArray)] 40 (0, 0)), (b5, .cells #[.int .i64 r2.Src, .int .i64 r2.Dst, .bool r2.NoSum, .string r2.Body] 40 (0, 0))]) ?_
  refine WP.cond ((a0.Proto != 17) || (r3 != 0)) rfl rfl (fun c6 => ?_) (fun c6 => ?_)
  · replace hM := cond_t hM c6
    refine WP.seq ?_
    obtain ⟨r8, h9, hM⟩ := bind_some hM
    refine WP.sub [2, 3, 4] (L' := [(2, .pointer (some ⟨(b1 + 1), 0, none⟩)), (3, .nilIface), (4, .pointer (some ⟨b5, 0, none⟩))]) (by kernel_rfl) ?_
    refine WP.mixed (X := Unit) 2 [.val (.agg #[.int .i64 r2.Src, .int .i64 r2.Dst, .bool r2.NoSum, .string r2.Body]), .val (.iface 138 (.agg #[.string r8.1, .iface 80 (.agg #[.int .i64 r8.2.n])]))] [((b1 + 1), .cells #[.int .i64 0, .int .i64 0, .bool false, .string (⟨#[]⟩ : ByteArray)] 40 (0, 0)), (b5, .cells #[.int .i64 r2.Src, .int .i64 r2.Dst, .bool r2.NoSum, .string r2.Body] 40 (0, 0))] [] (by kernel_rfl) (by kernel_rfl) (by kernel_rfl) (by kernel_rfl) (Heads.val (fun tt Ψ => OpV.run [1, 1, 1, 1] [b5, b5, b5, b5] (by kernel_rfl) (fun _ => by kernel_rfl)) (Heads.val (fun tt Ψ => OpV.callF [] [] (fun _ h => (List.mem_append_right _ h)) (station_not_calls (⟨#[100, 97, 116, 97, 103, 114, 97, 109]⟩ : ByteArray) 6 _ h9)  (fun _ => by kernel_rfl)) Heads.nil)) (fun s7 tt => [(24, .agg #[.int .i64 r2.Src, .int .i64 r2.Dst, .bool r2.NoSum, .string r2.Body]), (25, .iface 138 (.agg #[.string r8.1, .iface 80 (.agg #[.int .i64 r8.2.n])])), (2, .pointer (some ⟨(b1 + 1), 0, none⟩)), (3, .nilIface), (4, .pointer (some ⟨b5, 0, none⟩))]) (fun s7 tt => [((b1 + 1), .cells #[.int .i64 0, .int .i64 0, .bool false, .string (⟨#[]⟩ : ByteArray)] 40 (0, 0)), (b5, .cells #[.int .i64 r2.Src, .int .i64 r2.Dst, .bool r2.NoSum, .string r2.Body] 40 (0, 0))]) (fun tt => Glob) (fun _ _ => by kernel_rfl) (fun _ _ => by kernel_rfl) (fun _ => by kernel_rfl) (fun s7 tt => ?_)
    refine WL.run 2 [0, 0, 0, 0] [2, 3, 4] (fun _ => [(2, .pointer (some ⟨(b1 + 1), 0, none⟩)), (3, .iface 138 (.agg #[.string r8.1, .iface 80 (.agg #[.int .i64 r8.2.n])])), (4, .pointer (some ⟨b5, 0, none⟩))]) (fun _ => [((b1 + 1), .cells #[.int .i64 r2.Src, .int .i64 r2.Dst, .bool r2.NoSum, .string r2.Body] 40 (0, 0)), (b5, .cells #[.int .i64 r2.Src, .int .i64 r2.Dst, .bool r2.NoSum, .string r2.Body] 40 (0, 0))]) (fun _ => [(b1 + 1), (b1 + 1), (b1 + 1), (b1 + 1)]) (fun _ => by kernel_rfl) (fun _ => ?_)
    refine WP.done ?_
    obtain rfl := Option.some.inj hM
    exact WP.ret [0, 0, 0, 0] [(b1 + 1), (b1 + 1), (b1 + 1), (b1 + 1)] (.tuple #[.agg #[.int .i64 r2.Src, .int .i64 r2.Dst, .bool r2.NoSum, .string r2.Body], .iface 138 (.agg #[.string r8.1, .iface 80 (.agg #[.int .i64 r8.2.n])])]) (by kernel_rfl) (fun w' hw => ⟨rfl, hw.pick [] rfl⟩)
  · replace hM := cond_f hM c6
    refine WP.seq ?_
    refine WP.run [1] [2, 3, 4, 26] (fun _ => [(2, .pointer (some ⟨(b1 + 1), 0, none⟩)), (3, .nilIface), (4, .pointer (some ⟨b5, 0, none⟩)), (26, .bool (r2.Dst != 4789))]) (fun _ => [((b1 + 1), .cells #[.int .i64 0, .int .i64 0, .bool false, .string (⟨#[]⟩ : ByteArray)] 40 (0, 0)), (b5, .cells #[.int .i64 r2.Src, .int .i64 r2.Dst, .bool r2.NoSum, .string r2.Body] 40 (0, 0))]) (fun _ => [b5]) (fun _ => by kernel_rfl) (fun _ => ?_)
    refine WP.cond (r2.Dst != 4789) rfl rfl (fun c10 => ?_) (fun c10 => ?_)
    · replace hM := cond_t hM c10
      refine WP.seq ?_
      obtain ⟨r12, h13, hM⟩ := bind_some hM
      refine WP.sub [2, 3, 4] (L' := [(2, .pointer (some ⟨(b1 + 1), 0, none⟩)), (3, .nilIface), (4, .pointer (some ⟨b5, 0, none⟩))]) (by kernel_rfl) ?_
      refine WP.mixed (X := Unit) 2 [.val (.agg #[.int .i64 r2.Src, .int .i64 r2.Dst, .bool r2.NoSum, .string r2.Body]), .val (.iface 138 (.agg #[.string r12.1, .iface 80 (.agg #[.int .i64 r12.2.n])]))] [((b1 + 1), .cells #[.int .i64 0, .int .i64 0, .bool false, .string (⟨#[]⟩ : ByteArray)] 40 (0, 0)), (b5, .cells #[.int .i64 r2.Src, .int .i64 r2.Dst, .bool r2.NoSum, .string r2.Body] 40 (0, 0))] [] (by kernel_rfl) (by kernel_rfl) (by kernel_rfl) (by kernel_rfl) (Heads.val (fun tt Ψ => OpV.run [1, 1, 1, 1] [b5, b5, b5, b5] (by kernel_rfl) (fun _ => by kernel_rfl)) (Heads.val (fun tt Ψ => OpV.callF [] [] (fun _ h => (List.mem_append_right _ h)) (station_not_calls (⟨#[100, 97, 116, 97, 103, 114, 97, 109]⟩ : ByteArray) 7 _ h13)  (fun _ => by kernel_rfl)) Heads.nil)) (fun s11 tt => [(30, .agg #[.int .i64 r2.Src, .int .i64 r2.Dst, .bool r2.NoSum, .string r2.Body]), (31, .iface 138 (.agg #[.string r12.1, .iface 80 (.agg #[.int .i64 r12.2.n])])), (2, .pointer (some ⟨(b1 + 1), 0, none⟩)), (3, .nilIface), (4, .pointer (some ⟨b5, 0, none⟩))]) (fun s11 tt => [((b1 + 1), .cells #[.int .i64 0, .int .i64 0, .bool false, .string (⟨#[]⟩ : ByteArray)] 40 (0, 0)), (b5, .cells #[.int .i64 r2.Src, .int .i64 r2.Dst, .bool r2.NoSum, .string r2.Body] 40 (0, 0))]) (fun tt => Glob) (fun _ _ => by kernel_rfl) (fun _ _ => by kernel_rfl) (fun _ => by kernel_rfl) (fun s11 tt => ?_)
      refine WL.run 2 [0, 0, 0, 0] [2, 3, 4] (fun _ => [(2, .pointer (some ⟨(b1 + 1), 0, none⟩)), (3, .iface 138 (.agg #[.string r12.1, .iface 80 (.agg #[.int .i64 r12.2.n])])), (4, .pointer (some ⟨b5, 0, none⟩))]) (fun _ => [((b1 + 1), .cells #[.int .i64 r2.Src, .int .i64 r2.Dst, .bool r2.NoSum, .string r2.Body] 40 (0, 0)), (b5, .cells #[.int .i64 r2.Src, .int .i64 r2.Dst, .bool r2.NoSum, .string r2.Body] 40 (0, 0))]) (fun _ => [(b1 + 1), (b1 + 1), (b1 + 1), (b1 + 1)]) (fun _ => by kernel_rfl) (fun _ => ?_)
      refine WP.done ?_
      obtain rfl := Option.some.inj hM
      exact WP.ret [0, 0, 0, 0] [(b1 + 1), (b1 + 1), (b1 + 1), (b1 + 1)] (.tuple #[.agg #[.int .i64 r2.Src, .int .i64 r2.Dst, .bool r2.NoSum, .string r2.Body], .iface 138 (.agg #[.string r12.1, .iface 80 (.agg #[.int .i64 r12.2.n])])]) (by kernel_rfl) (fun w' hw => ⟨rfl, hw.pick [] rfl⟩)
    · replace hM := cond_f hM c10
      refine WP.skip ?_
      refine WP.leave ?_
      refine WP.seq ?_
      refine WP.run [1, 1, 1, 1, 0, 0, 0, 0] [2, 3] (fun _ => [(2, .pointer (some ⟨(b1 + 1), 0, none⟩)), (3, .nilIface)]) (fun _ => [((b1 + 1), .cells #[.int .i64 r2.Src, .int .i64 r2.Dst, .bool r2.NoSum, .string r2.Body] 40 (0, 0)), (b5, .cells #[.int .i64 r2.Src, .int .i64 r2.Dst, .bool r2.NoSum, .string r2.Body] 40 (0, 0))]) (fun _ => [(b1 + 1), (b1 + 1), (b1 + 1), (b1 + 1), b5, b5, b5, b5]) (fun _ => by kernel_rfl) (fun _ => ?_)
      refine WP.keep [true, false] (by kernel_rfl : _ = [((b1 + 1), .cells #[.int .i64 r2.Src, .int .i64 r2.Dst, .bool r2.NoSum, .string r2.Body] 40 (0, 0))]) ?_
      obtain rfl := Option.some.inj hM
      exact WP.ret [0, 0, 0, 0] [(b1 + 1), (b1 + 1), (b1 + 1), (b1 + 1)] (.tuple #[.agg #[.int .i64 r2.Src, .int .i64 r2.Dst, .bool r2.NoSum, .string r2.Body], .nilIface]) (by kernel_rfl) (fun w' hw => ⟨rfl, hw.pick [] rfl⟩)

end Go.Proofs.YtbodofjnfmjbpaaGreatDoor

namespace Go.Proofs.YtbodofjnfmjbpaaGreatDoor
open Go Eng
set_option linter.unusedVariables false
set_option linter.unusedSimpArgs false

/-! ### gangway/station.got: function 33 -/
def station_got.f (k : Nat) (a0 : Int) (a1 : Int) (a2 : api_Frame) : Option (api_Got × Un2) :=
  (station_framed.f a0 a2).bind fun r2 =>
  match r2 with
  | none =>
    (station_packet.f k a1 a2.Body).bind fun (r6, r7) =>
    match r7 with
    | none =>
      (station_datagram.f k r6).bind fun (r12, r13) =>
      match r13 with
      | none =>
        some ((api_Got.mk 0 r6.Src r12), none)
      | some (q16, q17) =>
        some ((api_Got.mk 0 0 (api_Udp.mk 0 0 false (⟨#[]⟩ : ByteArray))), some (q16, q17))
    | some (q10, q11) =>
      some ((api_Got.mk 0 0 (api_Udp.mk 0 0 false (⟨#[]⟩ : ByteArray))), some (q10, q11))
  | some (q4, q5) =>
    some ((api_Got.mk 0 0 (api_Udp.mk 0 0 false (⟨#[]⟩ : ByteArray))), some (q4, q5))

set_option maxRecDepth 100000 in
theorem station_got_calls (k : Nat) (a0 : Int) (a1 : Int) (a2 : api_Frame) (r : api_Got × Un2) (h : station_got.f k a0 a1 a2 = some r) : Pure Tryz.prog Glob 33 #[.int .u64 a0, .int .u32 a1, .agg #[.int .u64 a2.Dst, .int .u64 a2.Src, .bool a2.Tag.Has, .int .i64 a2.Tag.Pri, .bool a2.Tag.Dei, .int .i64 a2.Tag.Vid, .int .i64 a2.Type_, .string a2.Body]] (.tuple #[.agg #[.int .i64 r.1.Why, .int .u32 r.1.Src, .int .i64 r.1.U.Src, .int .i64 r.1.U.Dst, .bool r.1.U.NoSum, .string r.1.U.Body], Un2.v r.2]) := by
  intro w Z hS
  refine calls_of (args := [.int .u64 a0, .int .u32 a1, .agg #[.int .u64 a2.Dst, .int .u64 a2.Src, .bool a2.Tag.Has, .int .i64 a2.Tag.Pri, .bool a2.Tag.Dei, .int .i64 a2.Tag.Vid, .int .i64 a2.Type_, .string a2.Body]]) (L := [(0, .int .u64 a0), (1, .int .u32 a1), (2, .agg #[.int .u64 a2.Dst, .int .u64 a2.Src, .bool a2.Tag.Has, .int .i64 a2.Tag.Pri, .bool a2.Tag.Dei, .int .i64 a2.Tag.Vid, .int .i64 a2.Type_, .string a2.Body])]) (N := 43) (S := Sat w Z [] [] Glob) Tryz.func33 rfl rfl (Nat.le_of_ble_eq_true rfl) rfl hS ?_
  have hM := h
  clear h hS
  unfold station_got.f at hM
  refine WP.seq ?_
  refine WP.run [] [0, 1, 5, 6, 7] (fun b1 => [(0, .int .u64 a0), (1, .int .u32 a1), (5, .pointer (some ⟨b1, 0, none⟩)), (6, .pointer (some ⟨(b1 + 1), 0, none⟩)), (7, .nilIface)]) (fun b1 => [(b1, .cells #[.int .u64 a2.Dst, .int .u64 a2.Src, .bool a2.Tag.Has, .int .i64 a2.Tag.Pri, .bool a2.Tag.Dei, .int .i64 a2.Tag.Vid, .int .i64 a2.Type_, .string a2.Body] 29 (0, 0)), ((b1 + 1), .cells #[.int .i64 0, .int .u32 0, .int .i64 0, .int .i64 0, .bool false, .string (⟨#[]⟩ : ByteArray)] 47 (0, 0))]) (fun b1 => []) (fun b1 => by kernel_rfl) (fun b1 => ?_)
  refine WP.seq ?_
  refine WP.seq ?_
  refine WP.region ?_
  refine WL.run 2 [0, 0, 0, 0, 0, 0, 0, 0] [1, 5, 6, 7, 12, 13] (fun _ => [(1, .int .u32 a1), (5, .pointer (some ⟨b1, 0, none⟩)), (6, .pointer (some ⟨(b1 + 1), 0, none⟩)), (7, .nilIface), (12, .int .u64 a0), (13, .agg #[.int .u64 a2.Dst, .int .u64 a2.Src, .bool a2.Tag.Has, .int .i64 a2.Tag.Pri, .bool a2.Tag.Dei, .int .i64 a2.Tag.Vid, .int .i64 a2.Type_, .string a2.Body])]) (fun _ => [(b1, .cells #[.int .u64 a2.Dst, .int .u64 a2.Src, .bool a2.Tag.Has, .int .i64 a2.Tag.Pri, .bool a2.Tag.Dei, .int .i64 a2.Tag.Vid, .int .i64 a2.Type_, .string a2.Body] 29 (0, 0)), ((b1 + 1), .cells #[.int .i64 0, .int .u32 0, .int .i64 0, .int .i64 0, .bool false, .string (⟨#[]⟩ : ByteArray)] 47 (0, 0))]) (fun _ => [b1, b1, b1, b1, b1, b1, b1, b1]) (fun _ => by kernel_rfl) (fun _ => ?_)
  obtain ⟨r2, h3, hM⟩ := bind_some hM
  refine WL.callP [] [] (station_framed_calls a0 a2 _ h3) (fun _ h => h) (by kernel_rfl) (by kernel_rfl) rfl ?_
  refine WL.run 1 [] [1, 5, 6, 7, 8] (fun _ => [(1, .int .u32 a1), (5, .pointer (some ⟨b1, 0, none⟩)), (6, .pointer (some ⟨(b1 + 1), 0, none⟩)), (7, .nilIface), (8, Un2.v r2)]) (fun _ => [(b1, .cells #[.int .u64 a2.Dst, .int .u64 a2.Src, .bool a2.Tag.Has, .int .i64 a2.Tag.Pri, .bool a2.Tag.Dei, .int .i64 a2.Tag.Vid, .int .i64 a2.Type_, .string a2.Body] 29 (0, 0)), ((b1 + 1), .cells #[.int .i64 0, .int .u32 0, .int .i64 0, .int .i64 0, .bool false, .string (⟨#[]⟩ : ByteArray)] 47 (0, 0))]) (fun _ => []) (fun _ => by kernel_rfl) (fun _ => ?_)
  refine WP.done ?_
  refine WP.seq ?_
  refine WP.region ?_
  refine WL.run 1 [] [1, 5, 6, 7, 8, 15] (fun _ => [(1, .int .u32 a1), (5, .pointer (some ⟨b1, 0, none⟩)), (6, .pointer (some ⟨(b1 + 1), 0, none⟩)), (7, .nilIface), (8, Un2.v r2), (15, Un2.v r2)]) (fun _ => [(b1, .cells #[.int .u64 a2.Dst, .int .u64 a2.Src, .bool a2.Tag.Has, .int .i64 a2.Tag.Pri, .bool a2.Tag.Dei, .int .i64 a2.Tag.Vid, .int .i64 a2.Type_, .string a2.Body] 29 (0, 0)), ((b1 + 1), .cells #[.int .i64 0, .int .u32 0, .int .i64 0, .int .i64 0, .bool false, .string (⟨#[]⟩ : ByteArray)] 47 (0, 0))]) (fun _ => []) (fun _ => by kernel_rfl) (fun _ => ?_)
  rcases r2 with _ | ⟨q4, q5⟩
  · dsimp only at hM
    refine WL.run 1 [] [1, 5, 6, 7, 8, 16] (fun _ => [(1, .int .u32 a1), (5, .pointer (some ⟨b1, 0, none⟩)), (6, .pointer (some ⟨(b1 + 1), 0, none⟩)), (7, .nilIface), (8, .nilIface), (16, .bool false)]) (fun _ => [(b1, .cells #[.int .u64 a2.Dst, .int .u64 a2.Src, .bool a2.Tag.Has, .int .i64 a2.Tag.Pri, .bool a2.Tag.Dei, .int .i64 a2.Tag.Vid, .int .i64 a2.Type_, .string a2.Body] 29 (0, 0)), ((b1 + 1), .cells #[.int .i64 0, .int .u32 0, .int .i64 0, .int .i64 0, .bool false, .string (⟨#[]⟩ : ByteArray)] 47 (0, 0))]) (fun _ => []) (fun _ => by kernel_rfl) (fun _ => ?_)
    refine WP.done ?_
    refine WP.no rfl rfl ?_
    refine WP.skip ?_
    refine WP.seq ?_
    refine WP.region ?_
    refine WL.run 3 [0] [6, 7, 20, 22] (fun _ => [(6, .pointer (some ⟨(b1 + 1), 0, none⟩)), (7, .nilIface), (20, .int .u32 a1), (22, .string a2.Body)]) (fun _ => [(b1, .cells #[.int .u64 a2.Dst, .int .u64 a2.Src, .bool a2.Tag.Has, .int .i64 a2.Tag.Pri, .bool a2.Tag.Dei, .int .i64 a2.Tag.Vid, .int .i64 a2.Type_, .string a2.Body] 29 (0, 0)), ((b1 + 1), .cells #[.int .i64 0, .int .u32 0, .int .i64 0, .int .i64 0, .bool false, .string (⟨#[]⟩ : ByteArray)] 47 (0, 0))]) (fun _ => [b1]) (fun _ => by kernel_rfl) (fun _ => ?_)
    obtain ⟨⟨r6, r7⟩, h8, hM⟩ := bind_some hM
    dsimp only at hM
    refine WL.callP [] [] (station_packet_calls k a1 a2.Body _ h8) (fun _ h => h) (by kernel_rfl) (by kernel_rfl) rfl ?_
    refine WL.run 6 [2, 2, 2, 2, 2, 2, 2, 2, 2, 2] [6, 7, 9, 10] (fun b9 => [(6, .pointer (some ⟨(b1 + 1), 0, none⟩)), (7, .nilIface), (9, .pointer (some ⟨b9, 0, none⟩)), (10, Un2.v r7)]) (fun b9 => [(b1, .cells #[.int .u64 a2.Dst, .int .u64 a2.Src, .bool a2.Tag.Has, .int .i64 a2.Tag.Pri, .bool a2.Tag.Dei, .int .i64 a2.Tag.Vid, .int .i64 a2.Type_, .string a2.Body] 29 (0, 0)), ((b1 + 1), .cells #[.int .i64 0, .int .u32 0, .int .i64 0, .int .i64 0, .bool false, .string (⟨#[]⟩ : ByteArray)] 47 (0, 0)), (b9, .cells #[.int .i64 r6.Tos, .int .i64 r6.Id, .bool r6.Whole, .bool r6.More, .int .i64 r6.Off, .int .i64 r6.Ttl, .int .i64 r6.Proto, .int .u32 r6.Src, .int .u32 r6.Dst, .string r6.Body] 91 (0, 0))]) (fun b9 => [b9, b9, b9, b9, b9, b9, b9, b9, b9, b9]) (fun b9 => by kernel_rfl) (fun b9 => ?_)
    refine WP.done ?_
    refine WP.keep [false, true, true] (by kernel_rfl : _ = [((b1 + 1), .cells #[.int .i64 0, .int .u32 0, .int .i64 0, .int .i64 0, .bool false, .string (⟨#[]⟩ : ByteArray)] 47 (0, 0)), (b9, .cells #[.int .i64 r6.Tos, .int .i64 r6.Id, .bool r6.Whole, .bool r6.More, .int .i64 r6.Off, .int .i64 r6.Ttl, .int .i64 r6.Proto, .int .u32 r6.Src, .int .u32 r6.Dst, .string r6.Body] 91 (0, 0))]) ?_
    refine WP.seq ?_
    refine WP.seq ?_
    refine WP.region ?_
    refine WL.run 1 [] [6, 7, 9, 10, 26] (fun _ => [(6, .pointer (some ⟨(b1 + 1), 0, none⟩)), (7, .nilIface), (9, .pointer (some ⟨b9, 0, none⟩)), (10, Un2.v r7), (26, Un2.v r7)]) (fun _ => [((b1 + 1), .cells #[.int .i64 0, .int .u32 0, .int .i64 0, .int .i64 0, .bool false, .string (⟨#[]⟩ : ByteArray)] 47 (0, 0)), (b9, .cells #[.int .i64 r6.Tos, .int .i64 r6.Id, .bool r6.Whole, .bool r6.More, .int .i64 r6.Off, .int .i64 r6.Ttl, .int .i64 r6.Proto, .int .u32 r6.Src, .int .u32 r6.Dst, .string r6.Body] 91 (0, 0))]) (fun _ => []) (fun _ => by kernel_rfl) (fun _ => ?_)
    rcases r7 with _ | ⟨q10, q11⟩
    · dsimp only at hM
      refine WL.run 1 [] [6, 7, 9, 10, 27] (fun _ => [(6, .pointer (some ⟨(b1 + 1), 0, none⟩)), (7, .nilIface), (9, .pointer (some ⟨b9, 0, none⟩)), (10, .nilIface), (27, .bool false)]) (fun _ => [((b1 + 1), .cells #[.int .i64 0, .int .u32 0, .int .i64 0, .int .i64 0, .bool false, .string (⟨#[]⟩ : ByteArray)] 47 (0, 0)), (b9, .cells #[.int .i64 r6.Tos, .int .i64 r6.Id, .bool r6.Whole, .bool r6.More, .int .i64 r6.Off, .int .i64 r6.Ttl, .int .i64 r6.Proto, .int .u32 r6.Src, .int .u32 r6.Dst, .string r6.Body] 91 (0, 0))]) (fun _ => []) (fun _ => by kernel_rfl) (fun _ => ?_)
      refine WP.done ?_
      refine WP.no rfl rfl ?_
      refine WP.skip ?_
      refine WP.seq ?_
      refine WP.region ?_
      refine WL.run 1 [1, 1, 1, 1, 1, 1, 1, 1, 1, 1] [6, 7, 9, 10, 31] (fun _ => [(6, .pointer (some ⟨(b1 + 1), 0, none⟩)), (7, .nilIface), (9, .pointer (some ⟨b9, 0, none⟩)), (10, .nilIface), (31, .agg #[.int .i64 r6.Tos, .int .i64 r6.Id, .bool r6.Whole, .bool r6.More, .int .i64 r6.Off, .int .i64 r6.Ttl, .int .i64 r6.Proto, .int .u32 r6.Src, .int .u32 r6.Dst, .string r6.Body])]) (fun _ => [((b1 + 1), .cells #[.int .i64 0, .int .u32 0, .int .i64 0, .int .i64 0, .bool false, .string (⟨#[]⟩ : ByteArray)] 47 (0, 0)), (b9, .cells #[.int .i64 r6.Tos, .int .i64 r6.Id, .bool r6.Whole, .bool r6.More, .int .i64 r6.Off, .int .i64 r6.Ttl, .int .i64 r6.Proto, .int .u32 r6.Src, .int .u32 r6.Dst, .string r6.Body] 91 (0, 0))]) (fun _ => [b9, b9, b9, b9, b9, b9, b9, b9, b9, b9]) (fun _ => by kernel_rfl) (fun _ => ?_)
      obtain ⟨⟨r12, r13⟩, h14, hM⟩ := bind_some hM
      dsimp only at hM
      refine WL.callP [] [] (station_datagram_calls k r6 _ h14) (fun _ h => h) (by kernel_rfl) (by kernel_rfl) rfl ?_
      refine WL.run 6 [2, 2, 2, 2] [6, 7, 9, 10, 11] (fun b15 => [(6, .pointer (some ⟨(b1 + 1), 0, none⟩)), (7, .nilIface), (9, .pointer (some ⟨b9, 0, none⟩)), (10, Un2.v r13), (11, .pointer (some ⟨b15, 0, none⟩))]) (fun b15 => [((b1 + 1), .cells #[.int .i64 0, .int .u32 0, .int .i64 0, .int .i64 0, .bool false, .string (⟨#[]⟩ : ByteArray)] 47 (0, 0)), (b9, .cells #[.int .i64 r6.Tos, .int .i64 r6.Id, .bool r6.Whole, .bool r6.More, .int .i64 r6.Off, .int .i64 r6.Ttl, .int .i64 r6.Proto, .int .u32 r6.Src, .int .u32 r6.Dst, .string r6.Body] 91 (0, 0)), (b15, .cells #[.int .i64 r12.Src, .int .i64 r12.Dst, .bool r12.NoSum, .string r12.Body] 40 (0, 0))]) (fun b15 => [b15, b15, b15, b15]) (fun b15 => by kernel_rfl) (fun b15 => ?_)
      refine WP.done ?_
      refine WP.seq ?_
      refine WP.seq ?_
      refine WP.region ?_
      refine WL.run 1 [] [6, 7, 9, 10, 11, 35] (fun _ => [(6, .pointer (some ⟨(b1 + 1), 0, none⟩)), (7, .nilIface), (9, .pointer (some ⟨b9, 0, none⟩)), (10, Un2.v r13), (11, .pointer (some ⟨b15, 0, none⟩)), (35, Un2.v r13)]) (fun _ => [((b1 + 1), .cells #[.int .i64 0, .int .u32 0, .int .i64 0, .int .i64 0, .bool false, .string (⟨#[]⟩ : ByteArray)] 47 (0, 0)), (b9, .cells #[.int .i64 r6.Tos, .int .i64 r6.Id, .bool r6.Whole, .bool r6.More, .int .i64 r6.Off, .int .i64 r6.Ttl, .int .i64 r6.Proto, .int .u32 r6.Src, .int .u32 r6.Dst, .string r6.Body] 91 (0, 0)), (b15, .cells #[.int .i64 r12.Src, .int .i64 r12.Dst, .bool r12.NoSum, .string r12.Body] 40 (0, 0))]) (fun _ => []) (fun _ => by kernel_rfl) (fun _ => ?_)
      rcases r13 with _ | ⟨q16, q17⟩
      · dsimp only at hM
        refine WL.run 1 [] [6, 7, 9, 10, 11, 36] (fun _ => [(6, .pointer (some ⟨(b1 + 1), 0, none⟩)), (7, .nilIface), (9, .pointer (some ⟨b9, 0, none⟩)), (10, .nilIface), (11, .pointer (some ⟨b15, 0, none⟩)), (36, .bool false)]) (fun _ => [((b1 + 1), .cells #[.int .i64 0, .int .u32 0, .int .i64 0, .int .i64 0, .bool false, .string (⟨#[]⟩ : ByteArray)] 47 (0, 0)), (b9, .cells #[.int .i64 r6.Tos, .int .i64 r6.Id, .bool r6.Whole, .bool r6.More, .int .i64 r6.Off, .int .i64 r6.Ttl, .int .i64 r6.Proto, .int .u32 r6.Src, .int .u32 r6.Dst, .string r6.Body] 91 (0, 0)), (b15, .cells #[.int .i64 r12.Src, .int .i64 r12.Dst, .bool r12.NoSum, .string r12.Body] 40 (0, 0))]) (fun _ => []) (fun _ => by kernel_rfl) (fun _ => ?_)
        refine WP.done ?_
        refine WP.no rfl rfl ?_
        refine WP.skip ?_
        refine WP.seq ?_
        refine WP.run [1, 2, 2, 2, 2, 0, 0, 0, 0, 0, 0] [6, 7] (fun _ => [(6, .pointer (some ⟨(b1 + 1), 0, none⟩)), (7, .nilIface)]) (fun _ => [((b1 + 1), .cells #[.int .i64 0, .int .u32 r6.Src, .int .i64 r12.Src, .int .i64 r12.Dst, .bool r12.NoSum, .string r12.Body] 47 (0, 0)), (b9, .cells #[.int .i64 r6.Tos, .int .i64 r6.Id, .bool r6.Whole, .bool r6.More, .int .i64 r6.Off, .int .i64 r6.Ttl, .int .i64 r6.Proto, .int .u32 r6.Src, .int .u32 r6.Dst, .string r6.Body] 91 (0, 0)), (b15, .cells #[.int .i64 r12.Src, .int .i64 r12.Dst, .bool r12.NoSum, .string r12.Body] 40 (0, 0))]) (fun _ => [(b1 + 1), (b1 + 1), (b1 + 1), (b1 + 1), (b1 + 1), (b1 + 1), b15, b15, b15, b15, b9]) (fun _ => by kernel_rfl) (fun _ => ?_)
        refine WP.keep [true, false, false] (by kernel_rfl : _ = [((b1 + 1), .cells #[.int .i64 0, .int .u32 r6.Src, .int .i64 r12.Src, .int .i64 r12.Dst, .bool r12.NoSum, .string r12.Body] 47 (0, 0))]) ?_
        obtain rfl := Option.some.inj hM
        exact WP.ret [0, 0, 0, 0, 0, 0] [(b1 + 1), (b1 + 1), (b1 + 1), (b1 + 1), (b1 + 1), (b1 + 1)] (.tuple #[.agg #[.int .i64 0, .int .u32 r6.Src, .int .i64 r12.Src, .int .i64 r12.Dst, .bool r12.NoSum, .string r12.Body], .nilIface]) (by kernel_rfl) (fun w' hw => ⟨rfl, hw.pick [] rfl⟩)
      · dsimp only at hM
        refine WL.run 1 [] [6, 7, 9, 10, 11, 36] (fun _ => [(6, .pointer (some ⟨(b1 + 1), 0, none⟩)), (7, .nilIface), (9, .pointer (some ⟨b9, 0, none⟩)), (10, .iface 138 (.agg #[.string q16, .iface 80 (.agg #[.int .i64 q17.n])])), (11, .pointer (some ⟨b15, 0, none⟩)), (36, .bool true)]) (fun _ => [((b1 + 1), .cells #[.int .i64 0, .int .u32 0, .int .i64 0, .int .i64 0, .bool false, .string (⟨#[]⟩ : ByteArray)] 47 (0, 0)), (b9, .cells #[.int .i64 r6.Tos, .int .i64 r6.Id, .bool r6.Whole, .bool r6.More, .int .i64 r6.Off, .int .i64 r6.Ttl, .int .i64 r6.Proto, .int .u32 r6.Src, .int .u32 r6.Dst, .string r6.Body] 91 (0, 0)), (b15, .cells #[.int .i64 r12.Src, .int .i64 r12.Dst, .bool r12.NoSum, .string r12.Body] 40 (0, 0))]) (fun _ => []) (fun _ => by kernel_rfl) (fun _ => ?_)
        refine WP.done ?_
        refine WP.yes rfl rfl ?_
        refine WP.seq ?_
        refine WP.run [0, 0, 0, 0, 0, 0] [6, 7, 9, 11] (fun _ => [(6, .pointer (some ⟨(b1 + 1), 0, none⟩)), (7, .iface 138 (.agg #[.string q16, .iface 80 (.agg #[.int .i64 q17.n])])), (9, .pointer (some ⟨b9, 0, none⟩)), (11, .pointer (some ⟨b15, 0, none⟩))]) (fun _ => [((b1 + 1), .cells #[.int .i64 0, .int .u32 0, .int .i64 0, .int .i64 0, .bool false, .string (⟨#[]⟩ : ByteArray)] 47 (0, 0)), (b9, .cells #[.int .i64 r6.Tos, .int .i64 r6.Id, .bool r6.Whole, .bool r6.More, .int .i64 r6.Off, .int .i64 r6.Ttl, .int .i64 r6.Proto, .int .u32 r6.Src, .int .u32 r6.Dst, .string r6.Body] 91 (0, 0)), (b15, .cells #[.int .i64 r12.Src, .int .i64 r12.Dst, .bool r12.NoSum, .string r12.Body] 40 (0, 0))]) (fun _ => [(b1 + 1), (b1 + 1), (b1 + 1), (b1 + 1), (b1 + 1), (b1 + 1)]) (fun _ => by kernel_rfl) (fun _ => ?_)
        obtain rfl := Option.some.inj hM
        exact WP.ret [0, 0, 0, 0, 0, 0] [(b1 + 1), (b1 + 1), (b1 + 1), (b1 + 1), (b1 + 1), (b1 + 1)] (.tuple #[.agg #[.int .i64 0, .int .u32 0, .int .i64 0, .int .i64 0, .bool false, .string (⟨#[]⟩ : ByteArray)], .iface 138 (.agg #[.string q16, .iface 80 (.agg #[.int .i64 q17.n])])]) (by kernel_rfl) (fun w' hw => ⟨rfl, hw.pick [] rfl⟩)
    · dsimp only at hM
      refine WL.run 1 [] [6, 7, 9, 10, 27] (fun _ => [(6, .pointer (some ⟨(b1 + 1), 0, none⟩)), (7, .nilIface), (9, .pointer (some ⟨b9, 0, none⟩)), (10, .iface 138 (.agg #[.string q10, .iface 80 (.agg #[.int .i64 q11.n])])), (27, .bool true)]) (fun _ => [((b1 + 1), .cells #[.int .i64 0, .int .u32 0, .int .i64 0, .int .i64 0, .bool false, .string (⟨#[]⟩ : ByteArray)] 47 (0, 0)), (b9, .cells #[.int .i64 r6.Tos, .int .i64 r6.Id, .bool r6.Whole, .bool r6.More, .int .i64 r6.Off, .int .i64 r6.Ttl, .int .i64 r6.Proto, .int .u32 r6.Src, .int .u32 r6.Dst, .string r6.Body] 91 (0, 0))]) (fun _ => []) (fun _ => by kernel_rfl) (fun _ => ?_)
      refine WP.done ?_
      refine WP.yes rfl rfl ?_
      refine WP.seq ?_
      refine WP.run [0, 0, 0, 0, 0, 0] [6, 7, 9, 10] (fun _ => [(6, .pointer (some ⟨(b1 + 1), 0, none⟩)), (7, .iface 138 (.agg #[.string q10, .iface 80 (.agg #[.int .i64 q11.n])])), (9, .pointer (some ⟨b9, 0, none⟩)), (10, .iface 138 (.agg #[.string q10, .iface 80 (.agg #[.int .i64 q11.n])]))]) (fun _ => [((b1 + 1), .cells #[.int .i64 0, .int .u32 0, .int .i64 0, .int .i64 0, .bool false, .string (⟨#[]⟩ : ByteArray)] 47 (0, 0)), (b9, .cells #[.int .i64 r6.Tos, .int .i64 r6.Id, .bool r6.Whole, .bool r6.More, .int .i64 r6.Off, .int .i64 r6.Ttl, .int .i64 r6.Proto, .int .u32 r6.Src, .int .u32 r6.Dst, .string r6.Body] 91 (0, 0))]) (fun _ => [(b1 + 1), (b1 + 1), (b1 + 1), (b1 + 1), (b1 + 1), (b1 + 1)]) (fun _ => by kernel_rfl) (fun _ => ?_)
      obtain rfl := Option.some.inj hM
      exact WP.ret [0, 0, 0, 0, 0, 0] [(b1 + 1), (b1 + 1), (b1 + 1), (b1 + 1), (b1 + 1), (b1 + 1)] (.tuple #[.agg #[.int .i64 0, .int .u32 0, .int .i64 0, .int .i64 0, .bool false, .string (⟨#[]⟩ : ByteArray)], .iface 138 (.agg #[.string q10, .iface 80 (.agg #[.int .i64 q11.n])])]) (by kernel_rfl) (fun w' hw => ⟨rfl, hw.pick [] rfl⟩)
  · dsimp only at hM
    refine WL.run 1 [] [1, 5, 6, 7, 8, 16] (fun _ => [(1, .int .u32 a1), (5, .pointer (some ⟨b1, 0, none⟩)), (6, .pointer (some ⟨(b1 + 1), 0, none⟩)), (7, .nilIface), (8, .iface 138 (.agg #[.string q4, .iface 80 (.agg #[.int .i64 q5.n])])), (16, .bool true)]) (fun _ => [(b1, .cells #[.int .u64 a2.Dst, .int .u64 a2.Src, .bool a2.Tag.Has, .int .i64 a2.Tag.Pri, .bool a2.Tag.Dei, .int .i64 a2.Tag.Vid, .int .i64 a2.Type_, .string a2.Body] 29 (0, 0)), ((b1 + 1), .cells #[.int .i64 0, .int .u32 0, .int .i64 0, .int .i64 0, .bool false, .string (⟨#[]⟩ : ByteArray)] 47 (0, 0))]) (fun _ => []) (fun _ => by kernel_rfl) (fun _ => ?_)
    refine WP.done ?_
    refine WP.yes rfl rfl ?_
    refine WP.seq ?_
    refine WP.run [1, 1, 1, 1, 1, 1] [1, 5, 6, 7] (fun _ => [(1, .int .u32 a1), (5, .pointer (some ⟨b1, 0, none⟩)), (6, .pointer (some ⟨(b1 + 1), 0, none⟩)), (7, .iface 138 (.agg #[.string q4, .iface 80 (.agg #[.int .i64 q5.n])]))]) (fun _ => [(b1, .cells #[.int .u64 a2.Dst, .int .u64 a2.Src, .bool a2.Tag.Has, .int .i64 a2.Tag.Pri, .bool a2.Tag.Dei, .int .i64 a2.Tag.Vid, .int .i64 a2.Type_, .string a2.Body] 29 (0, 0)), ((b1 + 1), .cells #[.int .i64 0, .int .u32 0, .int .i64 0, .int .i64 0, .bool false, .string (⟨#[]⟩ : ByteArray)] 47 (0, 0))]) (fun _ => [(b1 + 1), (b1 + 1), (b1 + 1), (b1 + 1), (b1 + 1), (b1 + 1)]) (fun _ => by kernel_rfl) (fun _ => ?_)
    obtain rfl := Option.some.inj hM
    exact WP.ret [1, 1, 1, 1, 1, 1] [(b1 + 1), (b1 + 1), (b1 + 1), (b1 + 1), (b1 + 1), (b1 + 1)] (.tuple #[.agg #[.int .i64 0, .int .u32 0, .int .i64 0, .int .i64 0, .bool false, .string (⟨#[]⟩ : ByteArray)], .iface 138 (.agg #[.string q4, .iface 80 (.agg #[.int .i64 q5.n])])]) (by kernel_rfl) (fun w' hw => ⟨rfl, hw.pick [] rfl⟩)

end Go.Proofs.YtbodofjnfmjbpaaGreatDoor

namespace Go.Proofs.YtbodofjnfmjbpaaGreatDoor
open Go Eng
set_option linter.unusedVariables false
set_option linter.unusedSimpArgs false

/-! ### errors.As: function 34 -/
def errors_As_3.f (a1 : station_why) : Option (Bool) :=
  some false

set_option maxRecDepth 100000 in
theorem errors_As_3_calls (b_0 : Nat) (a1 : station_why) (r : Bool) (h : errors_As_3.f a1 = some r) : Does Tryz.prog 34 #[.nilIface, .iface 82 (.pointer (some ⟨b_0, 0, none⟩))] [(b_0, .cells #[.int .i64 a1.n] 80 (0, 0))] Glob (fun _ : Unit => .bool r) (fun _ => [(b_0, .cells #[.int .i64 a1.n] 80 (0, 0))]) (fun _ => []) (fun _ => Glob) := by
  intro w Z hS
  refine calls_of (args := [.nilIface, .iface 82 (.pointer (some ⟨b_0, 0, none⟩))]) (L := [(0, .nilIface), (1, .iface 82 (.pointer (some ⟨b_0, 0, none⟩)))]) (N := 42) (S := Sat w Z [(b_0, .cells #[.int .i64 a1.n] 80 (0, 0))] [] Glob) Tryz.func34 rfl rfl (Nat.le_of_ble_eq_true rfl) rfl hS ?_
  have hM := h
  clear h hS
  unfold errors_As_3.f at hM
  refine WP.seq ?_
  refine WP.run [] [0, 1, 4] (fun _ => [(0, .nilIface), (1, .iface 82 (.pointer (some ⟨b_0, 0, none⟩))), (4, .bool false)]) (fun _ => [(b_0, .cells #[.int .i64 a1.n] 80 (0, 0))]) (fun _ => []) (fun _ => by kernel_rfl) (fun _ => ?_)
  refine WP.seq ?_
  refine WP.seq ?_
  refine WP.run [] [0, 1, 4, 9] (fun _ => [(0, .nilIface), (1, .iface 82 (.pointer (some ⟨b_0, 0, none⟩))), (4, .bool false), (9, .bool true)]) (fun _ => [(b_0, .cells #[.int .i64 a1.n] 80 (0, 0))]) (fun _ => []) (fun _ => by kernel_rfl) (fun _ => ?_)
  refine WP.yes rfl rfl ?_
  refine WP.seq ?_
  refine WP.run [] [0, 1, 4] (fun _ => [(0, .nilIface), (1, .iface 82 (.pointer (some ⟨b_0, 0, none⟩))), (4, .bool false)]) (fun _ => [(b_0, .cells #[.int .i64 a1.n] 80 (0, 0))]) (fun _ => []) (fun _ => by kernel_rfl) (fun _ => ?_)
  obtain rfl := Option.some.inj hM
  exact WP.ret [] [] (.bool false) (by kernel_rfl) (fun w' hw => ⟨(), rfl, hw.pick [0] (by kernel_rfl)⟩)

end Go.Proofs.YtbodofjnfmjbpaaGreatDoor

namespace Go.Proofs.YtbodofjnfmjbpaaGreatDoor
open Go Eng
set_option linter.unusedVariables false
set_option linter.unusedSimpArgs false

/-! ### (gangway/station.while).Unwrap: function 148 -/
def station_while_Unwrap.f (a0 : ByteArray) (a0_1 : station_why) : Option (station_why) :=
  some a0_1

set_option maxRecDepth 100000 in
theorem station_while_Unwrap_calls (a0 : ByteArray) (a0_1 : station_why) (r : station_why) (h : station_while_Unwrap.f a0 a0_1 = some r) : Pure Tryz.prog Glob 148 #[.agg #[.string a0, .iface 80 (.agg #[.int .i64 a0_1.n])]] (.iface 80 (.agg #[.int .i64 r.n])) := by
  intro w Z hS
  refine calls_of (args := [.agg #[.string a0, .iface 80 (.agg #[.int .i64 a0_1.n])]]) (L := [(0, .agg #[.string a0, .iface 80 (.agg #[.int .i64 a0_1.n])])]) (N := 5) (S := Sat w Z [] [] Glob) Tryz.func148 rfl rfl (Nat.le_of_ble_eq_true rfl) rfl hS ?_
  have hM := h
  clear h hS
  unfold station_while_Unwrap.f at hM
  refine WP.seq ?_
  refine WP.run [] [1, 2] (fun b1 => [(1, .pointer (some ⟨b1, 0, none⟩)), (2, .nilIface)]) (fun b1 => [(b1, .cells #[.string a0, .iface 80 (.agg #[.int .i64 a0_1.n])] 138 (0, 0))]) (fun b1 => []) (fun b1 => by kernel_rfl) (fun b1 => ?_)
  refine WP.seq ?_
  refine WP.run [0] [2] (fun _ => [(2, .iface 80 (.agg #[.int .i64 a0_1.n]))]) (fun _ => [(b1, .cells #[.string a0, .iface 80 (.agg #[.int .i64 a0_1.n])] 138 (0, 0))]) (fun _ => [b1]) (fun _ => by kernel_rfl) (fun _ => ?_)
  refine WP.keep [false] (by kernel_rfl : _ = []) ?_
  obtain rfl := Option.some.inj hM
  exact WP.ret [] [] (.iface 80 (.agg #[.int .i64 a0_1.n])) (by kernel_rfl) (fun w' hw => ⟨rfl, hw.pick [] rfl⟩)

end Go.Proofs.YtbodofjnfmjbpaaGreatDoor

namespace Go.Proofs.YtbodofjnfmjbpaaGreatDoor
open Go Eng
set_option linter.unusedVariables false
set_option linter.unusedSimpArgs false

/-! ### errors.as: function 62 -/
def errors_as_3.f (a0 : ByteArray) (a0_1 : station_why) (a1 : station_why) : Option (Bool × station_why) :=
  (station_while_Unwrap.f a0 a0_1).bind fun r3 =>
  some (true, r3)

set_option maxRecDepth 100000 in
theorem errors_as_3_calls (b_0 : Nat) (b_1 : Nat) (a0 : ByteArray) (a0_1 : station_why) (a1 : station_why) (r : Bool × station_why) (h : errors_as_3.f a0 a0_1 a1 = some r) : Does Tryz.prog 62 #[.iface 138 (.agg #[.string a0, .iface 80 (.agg #[.int .i64 a0_1.n])]), .iface 82 (.pointer (some ⟨b_0, 0, none⟩)), .agg #[.pointer (some ⟨2, 82, none⟩), .pointer (some ⟨b_1, 0, none⟩), .int .u64 150], .iface 148 (.agg #[.pointer (some ⟨2, 80, none⟩)])] [(b_0, .cells #[.int .i64 a1.n] 80 (0, 0)), (b_1, .cells #[.pointer (some ⟨b_0, 0, none⟩)] 82 (0, 0))] Glob (fun _ : Unit => .bool r.1) (fun _ => [(b_0, .cells #[.int .i64 r.2.n] 80 (0, 0)), (b_1, .cells #[.pointer (some ⟨b_0, 0, none⟩)] 82 (0, 0))]) (fun _ => []) (fun _ => Glob) := by
  intro w Z hS
  refine calls_of (args := [.iface 138 (.agg #[.string a0, .iface 80 (.agg #[.int .i64 a0_1.n])]), .iface 82 (.pointer (some ⟨b_0, 0, none⟩)), .agg #[.pointer (some ⟨2, 82, none⟩), .pointer (some ⟨b_1, 0, none⟩), .int .u64 150], .iface 148 (.agg #[.pointer (some ⟨2, 80, none⟩)])]) (L := [(0, .iface 138 (.agg #[.string a0, .iface 80 (.agg #[.int .i64 a0_1.n])])), (1, .iface 82 (.pointer (some ⟨b_0, 0, none⟩))), (2, .agg #[.pointer (some ⟨2, 82, none⟩), .pointer (some ⟨b_1, 0, none⟩), .int .u64 150]), (3, .iface 148 (.agg #[.pointer (some ⟨2, 80, none⟩)]))]) (N := 62) (S := Sat w Z [(b_0, .cells #[.int .i64 a1.n] 80 (0, 0)), (b_1, .cells #[.pointer (some ⟨b_0, 0, none⟩)] 82 (0, 0))] [] Glob) Tryz.func62 rfl rfl (Nat.le_of_ble_eq_true rfl) rfl hS ?_
  have hM := h
  clear h hS
  unfold errors_as_3.f at hM
  refine WP.seq ?_
  refine WP.run [] [0, 1, 3, 6, 8] (fun b1 => [(0, .iface 138 (.agg #[.string a0, .iface 80 (.agg #[.int .i64 a0_1.n])])), (1, .iface 82 (.pointer (some ⟨b_0, 0, none⟩))), (3, .iface 148 (.agg #[.pointer (some ⟨2, 80, none⟩)])), (6, .pointer (some ⟨b1, 0, none⟩)), (8, .bool false)]) (fun b1 => [(b_0, .cells #[.int .i64 a1.n] 80 (0, 0)), (b_1, .cells #[.pointer (some ⟨b_0, 0, none⟩)] 82 (0, 0)), (b1, .cells #[.pointer (some ⟨2, 82, none⟩), .pointer (some ⟨b_1, 0, none⟩), .int .u64 150] 106 (0, 0))]) (fun b1 => []) (fun b1 => by kernel_rfl) (fun b1 => ?_)
  refine WP.block ?_
  refine WP.unroll 40 ?_
  refine WP.block ?_
  refine WP.seq ?_
  refine WP.seq ?_
  refine WP.run [] [0, 1, 3, 6, 8, 16, 17, 18, 19] (fun _ => [(0, .iface 138 (.agg #[.string a0, .iface 80 (.agg #[.int .i64 a0_1.n])])), (1, .iface 82 (.pointer (some ⟨b_0, 0, none⟩))), (3, .iface 148 (.agg #[.pointer (some ⟨2, 80, none⟩)])), (6, .pointer (some ⟨b1, 0, none⟩)), (8, .bool false), (16, .iface 138 (.agg #[.string a0, .iface 80 (.agg #[.int .i64 a0_1.n])])), (17, .iface 148 (.agg #[.pointer (some ⟨2, 138, none⟩)])), (18, .iface 148 (.agg #[.pointer (some ⟨2, 80, none⟩)])), (19, .bool false)]) (fun _ => [(b_0, .cells #[.int .i64 a1.n] 80 (0, 0)), (b_1, .cells #[.pointer (some ⟨b_0, 0, none⟩)] 82 (0, 0)), (b1, .cells #[.pointer (some ⟨2, 82, none⟩), .pointer (some ⟨b_1, 0, none⟩), .int .u64 150] 106 (0, 0))]) (fun _ => []) (fun _ => by kernel_rfl) (fun _ => ?_)
  refine WP.no rfl rfl ?_
  refine WP.skip ?_
  refine WP.seq ?_
  refine WP.seq ?_
  refine WP.region ?_
  refine WL.run 1 [] [0, 1, 3, 6, 8, 16, 17, 18, 19, 26] (fun _ => [(0, .iface 138 (.agg #[.string a0, .iface 80 (.agg #[.int .i64 a0_1.n])])), (1, .iface 82 (.pointer (some ⟨b_0, 0, none⟩))), (3, .iface 148 (.agg #[.pointer (some ⟨2, 80, none⟩)])), (6, .pointer (some ⟨b1, 0, none⟩)), (8, .bool false), (16, .iface 138 (.agg #[.string a0, .iface 80 (.agg #[.int .i64 a0_1.n])])), (17, .iface 148 (.agg #[.pointer (some ⟨2, 138, none⟩)])), (18, .iface 148 (.agg #[.pointer (some ⟨2, 80, none⟩)])), (19, .bool false), (26, .iface 138 (.agg #[.string a0, .iface 80 (.agg #[.int .i64 a0_1.n])]))]) (fun _ => [(b_0, .cells #[.int .i64 a1.n] 80 (0, 0)), (b_1, .cells #[.pointer (some ⟨b_0, 0, none⟩)] 82 (0, 0)), (b1, .cells #[.pointer (some ⟨2, 82, none⟩), .pointer (some ⟨b_1, 0, none⟩), .int .u64 150] 106 (0, 0))]) (fun _ => []) (fun _ => by kernel_rfl) (fun _ => ?_)
  refine WL.val (fun _ => run_assertLacks (t := 138) (v := .agg #[.string a0, .iface 80 (.agg #[.int .i64 a0_1.n])]) (z := .nilIface) (by kernel_rfl) (by kernel_rfl) (by kernel_rfl)) (by kernel_rfl) (by kernel_rfl) rfl ?_
  refine WL.run 5 [] [0, 1, 3, 6, 8, 9, 10, 16, 17, 18, 19, 25, 26, 27, 28, 29] (fun _ => [(0, .iface 138 (.agg #[.string a0, .iface 80 (.agg #[.int .i64 a0_1.n])])), (1, .iface 82 (.pointer (some ⟨b_0, 0, none⟩))), (3, .iface 148 (.agg #[.pointer (some ⟨2, 80, none⟩)])), (6, .pointer (some ⟨b1, 0, none⟩)), (8, .bool false), (9, .nilIface), (10, .bool false), (16, .iface 138 (.agg #[.string a0, .iface 80 (.agg #[.int .i64 a0_1.n])])), (17, .iface 148 (.agg #[.pointer (some ⟨2, 138, none⟩)])), (18, .iface 148 (.agg #[.pointer (some ⟨2, 80, none⟩)])), (19, .bool false), (25, .tuple #[.nilIface, .bool false]), (26, .iface 138 (.agg #[.string a0, .iface 80 (.agg #[.int .i64 a0_1.n])])), (27, .tuple #[.nilIface, .bool false]), (28, .nilIface), (29, .bool false)]) (fun _ => [(b_0, .cells #[.int .i64 a1.n] 80 (0, 0)), (b_1, .cells #[.pointer (some ⟨b_0, 0, none⟩)] 82 (0, 0)), (b1, .cells #[.pointer (some ⟨2, 82, none⟩), .pointer (some ⟨b_1, 0, none⟩), .int .u64 150] 106 (0, 0))]) (fun _ => []) (fun _ => by kernel_rfl) (fun _ => ?_)
  refine WP.done ?_
  refine WP.seq ?_
  refine WP.run [] [0, 1, 3, 6, 8, 9, 10, 16, 17, 18, 19, 25, 26, 27, 28, 29, 30, 31, 32, 33, 34, 35] (fun _ => [(0, .iface 138 (.agg #[.string a0, .iface 80 (.agg #[.int .i64 a0_1.n])])), (1, .iface 82 (.pointer (some ⟨b_0, 0, none⟩))), (3, .iface 148 (.agg #[.pointer (some ⟨2, 80, none⟩)])), (6, .pointer (some ⟨b1, 0, none⟩)), (8, .bool false), (9, .nilIface), (10, .bool false), (16, .iface 138 (.agg #[.string a0, .iface 80 (.agg #[.int .i64 a0_1.n])])), (17, .iface 148 (.agg #[.pointer (some ⟨2, 138, none⟩)])), (18, .iface 148 (.agg #[.pointer (some ⟨2, 80, none⟩)])), (19, .bool false), (25, .tuple #[.nilIface, .bool false]), (26, .iface 138 (.agg #[.string a0, .iface 80 (.agg #[.int .i64 a0_1.n])])), (27, .tuple #[.nilIface, .bool false]), (28, .nilIface), (29, .bool false), (30, .bool false), (31, .bool false), (32, .tuple #[]), (33, .tuple #[]), (34, .tuple #[]), (35, .bool false)]) (fun _ => [(b_0, .cells #[.int .i64 a1.n] 80 (0, 0)), (b_1, .cells #[.pointer (some ⟨b_0, 0, none⟩)] 82 (0, 0)), (b1, .cells #[.pointer (some ⟨2, 82, none⟩), .pointer (some ⟨b_1, 0, none⟩), .int .u64 150] 106 (0, 0))]) (fun _ => []) (fun _ => by kernel_rfl) (fun _ => ?_)
  refine WP.no rfl rfl ?_
  refine WP.skip ?_
  refine WP.seq ?_
  refine WP.run [] [0, 1, 3, 6, 8, 9, 10, 16, 17, 18, 19, 25, 26, 27, 28, 29, 30, 31, 32, 33, 34, 35, 36] (fun _ => [(0, .iface 138 (.agg #[.string a0, .iface 80 (.agg #[.int .i64 a0_1.n])])), (1, .iface 82 (.pointer (some ⟨b_0, 0, none⟩))), (3, .iface 148 (.agg #[.pointer (some ⟨2, 80, none⟩)])), (6, .pointer (some ⟨b1, 0, none⟩)), (8, .bool false), (9, .nilIface), (10, .bool false), (16, .iface 138 (.agg #[.string a0, .iface 80 (.agg #[.int .i64 a0_1.n])])), (17, .iface 148 (.agg #[.pointer (some ⟨2, 138, none⟩)])), (18, .iface 148 (.agg #[.pointer (some ⟨2, 80, none⟩)])), (19, .bool false), (25, .tuple #[.nilIface, .bool false]), (26, .iface 138 (.agg #[.string a0, .iface 80 (.agg #[.int .i64 a0_1.n])])), (27, .tuple #[.nilIface, .bool false]), (28, .nilIface), (29, .bool false), (30, .bool false), (31, .bool false), (32, .tuple #[]), (33, .tuple #[]), (34, .tuple #[]), (35, .bool false), (36, .iface 138 (.agg #[.string a0, .iface 80 (.agg #[.int .i64 a0_1.n])]))]) (fun _ => [(b_0, .cells #[.int .i64 a1.n] 80 (0, 0)), (b_1, .cells #[.pointer (some ⟨b_0, 0, none⟩)] 82 (0, 0)), (b1, .cells #[.pointer (some ⟨2, 82, none⟩), .pointer (some ⟨b_1, 0, none⟩), .int .u64 150] 106 (0, 0))]) (fun _ => []) (fun _ => by kernel_rfl) (fun _ => ?_)
  refine WP.block ?_
  refine WP.seq ?_
  refine WP.region ?_
  refine WL.val (fun _ => run_assertHas (t := 138) (v := .agg #[.string a0, .iface 80 (.agg #[.int .i64 a0_1.n])]) (by kernel_rfl) (by kernel_rfl)) (by kernel_rfl) (by kernel_rfl) rfl ?_
  refine WL.run 2 [] [0, 1, 3, 6, 8, 9, 10, 16, 17, 18, 19, 25, 26, 27, 28, 29, 30, 31, 32, 33, 34, 35, 36, 37, 38, 39] (fun _ => [(0, .iface 138 (.agg #[.string a0, .iface 80 (.agg #[.int .i64 a0_1.n])])), (1, .iface 82 (.pointer (some ⟨b_0, 0, none⟩))), (3, .iface 148 (.agg #[.pointer (some ⟨2, 80, none⟩)])), (6, .pointer (some ⟨b1, 0, none⟩)), (8, .bool false), (9, .nilIface), (10, .bool false), (16, .iface 138 (.agg #[.string a0, .iface 80 (.agg #[.int .i64 a0_1.n])])), (17, .iface 148 (.agg #[.pointer (some ⟨2, 138, none⟩)])), (18, .iface 148 (.agg #[.pointer (some ⟨2, 80, none⟩)])), (19, .bool false), (25, .tuple #[.nilIface, .bool false]), (26, .iface 138 (.agg #[.string a0, .iface 80 (.agg #[.int .i64 a0_1.n])])), (27, .tuple #[.nilIface, .bool false]), (28, .nilIface), (29, .bool false), (30, .bool false), (31, .bool false), (32, .tuple #[]), (33, .tuple #[]), (34, .tuple #[]), (35, .bool false), (36, .iface 138 (.agg #[.string a0, .iface 80 (.agg #[.int .i64 a0_1.n])])), (37, .tuple #[.iface 138 (.agg #[.string a0, .iface 80 (.agg #[.int .i64 a0_1.n])]), .bool true]), (38, .bool true), (39, .iface 138 (.agg #[.string a0, .iface 80 (.agg #[.int .i64 a0_1.n])]))]) (fun _ => [(b_0, .cells #[.int .i64 a1.n] 80 (0, 0)), (b_1, .cells #[.pointer (some ⟨b_0, 0, none⟩)] 82 (0, 0)), (b1, .cells #[.pointer (some ⟨2, 82, none⟩), .pointer (some ⟨b_1, 0, none⟩), .int .u64 150] 106 (0, 0))]) (fun _ => []) (fun _ => by kernel_rfl) (fun _ => ?_)
  refine WP.done ?_
  refine WP.yes rfl rfl ?_
  refine WP.seq ?_
  refine WP.run [] [0, 1, 3, 6, 8, 9, 10, 11, 16, 17, 18, 19, 25, 26, 27, 28, 29, 30, 31, 32, 33, 34, 35, 36, 37, 38, 39] (fun _ => [(0, .iface 138 (.agg #[.string a0, .iface 80 (.agg #[.int .i64 a0_1.n])])), (1, .iface 82 (.pointer (some ⟨b_0, 0, none⟩))), (3, .iface 148 (.agg #[.pointer (some ⟨2, 80, none⟩)])), (6, .pointer (some ⟨b1, 0, none⟩)), (8, .bool false), (9, .nilIface), (10, .bool false), (11, .iface 138 (.agg #[.string a0, .iface 80 (.agg #[.int .i64 a0_1.n])])), (16, .iface 138 (.agg #[.string a0, .iface 80 (.agg #[.int .i64 a0_1.n])])), (17, .iface 148 (.agg #[.pointer (some ⟨2, 138, none⟩)])), (18, .iface 148 (.agg #[.pointer (some ⟨2, 80, none⟩)])), (19, .bool false), (25, .tuple #[.nilIface, .bool false]), (26, .iface 138 (.agg #[.string a0, .iface 80 (.agg #[.int .i64 a0_1.n])])), (27, .tuple #[.nilIface, .bool false]), (28, .nilIface), (29, .bool false), (30, .bool false), (31, .bool false), (32, .tuple #[]), (33, .tuple #[]), (34, .tuple #[]), (35, .bool false), (36, .iface 138 (.agg #[.string a0, .iface 80 (.agg #[.int .i64 a0_1.n])])), (37, .tuple #[.iface 138 (.agg #[.string a0, .iface 80 (.agg #[.int .i64 a0_1.n])]), .bool true]), (38, .bool true), (39, .iface 138 (.agg #[.string a0, .iface 80 (.agg #[.int .i64 a0_1.n])]))]) (fun _ => [(b_0, .cells #[.int .i64 a1.n] 80 (0, 0)), (b_1, .cells #[.pointer (some ⟨b_0, 0, none⟩)] 82 (0, 0)), (b1, .cells #[.pointer (some ⟨2, 82, none⟩), .pointer (some ⟨b_1, 0, none⟩), .int .u64 150] 106 (0, 0))]) (fun _ => []) (fun _ => by kernel_rfl) (fun _ => ?_)
  refine WP.seq ?_
  refine WP.region ?_
  refine WL.run 1 [] [0, 1, 3, 6, 8, 9, 10, 11, 16, 17, 18, 19, 25, 26, 27, 28, 29, 30, 31, 32, 33, 34, 35, 36, 37, 38, 39, 40] (fun _ => [(0, .iface 138 (.agg #[.string a0, .iface 80 (.agg #[.int .i64 a0_1.n])])), (1, .iface 82 (.pointer (some ⟨b_0, 0, none⟩))), (3, .iface 148 (.agg #[.pointer (some ⟨2, 80, none⟩)])), (6, .pointer (some ⟨b1, 0, none⟩)), (8, .bool false), (9, .nilIface), (10, .bool false), (11, .iface 138 (.agg #[.string a0, .iface 80 (.agg #[.int .i64 a0_1.n])])), (16, .iface 138 (.agg #[.string a0, .iface 80 (.agg #[.int .i64 a0_1.n])])), (17, .iface 148 (.agg #[.pointer (some ⟨2, 138, none⟩)])), (18, .iface 148 (.agg #[.pointer (some ⟨2, 80, none⟩)])), (19, .bool false), (25, .tuple #[.nilIface, .bool false]), (26, .iface 138 (.agg #[.string a0, .iface 80 (.agg #[.int .i64 a0_1.n])])), (27, .tuple #[.nilIface, .bool false]), (28, .nilIface), (29, .bool false), (30, .bool false), (31, .bool false), (32, .tuple #[]), (33, .tuple #[]), (34, .tuple #[]), (35, .bool false), (36, .iface 138 (.agg #[.string a0, .iface 80 (.agg #[.int .i64 a0_1.n])])), (37, .tuple #[.iface 138 (.agg #[.string a0, .iface 80 (.agg #[.int .i64 a0_1.n])]), .bool true]), (38, .bool true), (39, .iface 138 (.agg #[.string a0, .iface 80 (.agg #[.int .i64 a0_1.n])])), (40, .iface 138 (.agg #[.string a0, .iface 80 (.agg #[.int .i64 a0_1.n])]))]) (fun _ => [(b_0, .cells #[.int .i64 a1.n] 80 (0, 0)), (b_1, .cells #[.pointer (some ⟨b_0, 0, none⟩)] 82 (0, 0)), (b1, .cells #[.pointer (some ⟨2, 82, none⟩), .pointer (some ⟨b_1, 0, none⟩), .int .u64 150] 106 (0, 0))]) (fun _ => []) (fun _ => by kernel_rfl) (fun _ => ?_)
  obtain ⟨r3, h4, hM⟩ := bind_some hM
  refine WL.callP [] [] (station_while_Unwrap_calls a0 a0_1 _ h4) (fun _ h => h) (by kernel_rfl) (by kernel_rfl) rfl ?_
  refine WL.run 1 [] [0, 1, 3, 6, 8, 9, 10, 11, 16, 17, 18, 19, 25, 26, 27, 28, 29, 30, 31, 32, 33, 34, 35, 36, 37, 38, 39, 40, 41] (fun _ => [(0, .iface 80 (.agg #[.int .i64 r3.n])), (1, .iface 82 (.pointer (some ⟨b_0, 0, none⟩))), (3, .iface 148 (.agg #[.pointer (some ⟨2, 80, none⟩)])), (6, .pointer (some ⟨b1, 0, none⟩)), (8, .bool false), (9, .nilIface), (10, .bool false), (11, .iface 138 (.agg #[.string a0, .iface 80 (.agg #[.int .i64 a0_1.n])])), (16, .iface 138 (.agg #[.string a0, .iface 80 (.agg #[.int .i64 a0_1.n])])), (17, .iface 148 (.agg #[.pointer (some ⟨2, 138, none⟩)])), (18, .iface 148 (.agg #[.pointer (some ⟨2, 80, none⟩)])), (19, .bool false), (25, .tuple #[.nilIface, .bool false]), (26, .iface 138 (.agg #[.string a0, .iface 80 (.agg #[.int .i64 a0_1.n])])), (27, .tuple #[.nilIface, .bool false]), (28, .nilIface), (29, .bool false), (30, .bool false), (31, .bool false), (32, .tuple #[]), (33, .tuple #[]), (34, .tuple #[]), (35, .bool false), (36, .iface 138 (.agg #[.string a0, .iface 80 (.agg #[.int .i64 a0_1.n])])), (37, .tuple #[.iface 138 (.agg #[.string a0, .iface 80 (.agg #[.int .i64 a0_1.n])]), .bool true]), (38, .bool true), (39, .iface 138 (.agg #[.string a0, .iface 80 (.agg #[.int .i64 a0_1.n])])), (40, .iface 138 (.agg #[.string a0, .iface 80 (.agg #[.int .i64 a0_1.n])])), (41, .iface 80 (.agg #[.int .i64 r3.n]))]) (fun _ => [(b_0, .cells #[.int .i64 a1.n] 80 (0, 0)), (b_1, .cells #[.pointer (some ⟨b_0, 0, none⟩)] 82 (0, 0)), (b1, .cells #[.pointer (some ⟨2, 82, none⟩), .pointer (some ⟨b_1, 0, none⟩), .int .u64 150] 106 (0, 0))]) (fun _ => []) (fun _ => by kernel_rfl) (fun _ => ?_)
  refine WP.done ?_
  refine WP.seq ?_
  refine WP.run [] [0, 1, 3, 6, 8, 9, 10, 11, 16, 17, 18, 19, 25, 26, 27, 28, 29, 30, 31, 32, 33, 34, 35, 36, 37, 38, 39, 40, 41, 42, 43] (fun _ => [(0, .iface 80 (.agg #[.int .i64 r3.n])), (1, .iface 82 (.pointer (some ⟨b_0, 0, none⟩))), (3, .iface 148 (.agg #[.pointer (some ⟨2, 80, none⟩)])), (6, .pointer (some ⟨b1, 0, none⟩)), (8, .bool false), (9, .nilIface), (10, .bool false), (11, .iface 138 (.agg #[.string a0, .iface 80 (.agg #[.int .i64 a0_1.n])])), (16, .iface 138 (.agg #[.string a0, .iface 80 (.agg #[.int .i64 a0_1.n])])), (17, .iface 148 (.agg #[.pointer (some ⟨2, 138, none⟩)])), (18, .iface 148 (.agg #[.pointer (some ⟨2, 80, none⟩)])), (19, .bool false), (25, .tuple #[.nilIface, .bool false]), (26, .iface 138 (.agg #[.string a0, .iface 80 (.agg #[.int .i64 a0_1.n])])), (27, .tuple #[.nilIface, .bool false]), (28, .nilIface), (29, .bool false), (30, .bool false), (31, .bool false), (32, .tuple #[]), (33, .tuple #[]), (34, .tuple #[]), (35, .bool false), (36, .iface 138 (.agg #[.string a0, .iface 80 (.agg #[.int .i64 a0_1.n])])), (37, .tuple #[.iface 138 (.agg #[.string a0, .iface 80 (.agg #[.int .i64 a0_1.n])]), .bool true]), (38, .bool true), (39, .iface 138 (.agg #[.string a0, .iface 80 (.agg #[.int .i64 a0_1.n])])), (40, .iface 138 (.agg #[.string a0, .iface 80 (.agg #[.int .i64 a0_1.n])])), (41, .iface 80 (.agg #[.int .i64 r3.n])), (42, .iface 80 (.agg #[.int .i64 r3.n])), (43, .bool false)]) (fun _ => [(b_0, .cells #[.int .i64 a1.n] 80 (0, 0)), (b_1, .cells #[.pointer (some ⟨b_0, 0, none⟩)] 82 (0, 0)), (b1, .cells #[.pointer (some ⟨2, 82, none⟩), .pointer (some ⟨b_1, 0, none⟩), .int .u64 150] 106 (0, 0))]) (fun _ => []) (fun _ => by kernel_rfl) (fun _ => ?_)
  refine WP.no rfl rfl ?_
  refine WP.skip ?_
  refine WP.leave ?_
  refine WP.leave ?_
  refine WP.round ?_
  refine WP.block ?_
  refine WP.seq ?_
  refine WP.seq ?_
  refine WP.run [] [0, 1, 3, 6, 8, 9, 10, 11, 16, 17, 18, 19, 25, 26, 27, 28, 29, 30, 31, 32, 33, 34, 35, 36, 37, 38, 39, 40, 41, 42, 43] (fun _ => [(0, .iface 80 (.agg #[.int .i64 r3.n])), (1, .iface 82 (.pointer (some ⟨b_0, 0, none⟩))), (3, .iface 148 (.agg #[.pointer (some ⟨2, 80, none⟩)])), (6, .pointer (some ⟨b1, 0, none⟩)), (8, .bool false), (9, .nilIface), (10, .bool false), (11, .iface 138 (.agg #[.string a0, .iface 80 (.agg #[.int .i64 a0_1.n])])), (16, .iface 80 (.agg #[.int .i64 r3.n])), (17, .iface 148 (.agg #[.pointer (some ⟨2, 80, none⟩)])), (18, .iface 148 (.agg #[.pointer (some ⟨2, 80, none⟩)])), (19, .bool true), (25, .tuple #[.nilIface, .bool false]), (26, .iface 138 (.agg #[.string a0, .iface 80 (.agg #[.int .i64 a0_1.n])])), (27, .tuple #[.nilIface, .bool false]), (28, .nilIface), (29, .bool false), (30, .bool false), (31, .bool false), (32, .tuple #[]), (33, .tuple #[]), (34, .tuple #[]), (35, .bool false), (36, .iface 138 (.agg #[.string a0, .iface 80 (.agg #[.int .i64 a0_1.n])])), (37, .tuple #[.iface 138 (.agg #[.string a0, .iface 80 (.agg #[.int .i64 a0_1.n])]), .bool true]), (38, .bool true), (39, .iface 138 (.agg #[.string a0, .iface 80 (.agg #[.int .i64 a0_1.n])])), (40, .iface 138 (.agg #[.string a0, .iface 80 (.agg #[.int .i64 a0_1.n])])), (41, .iface 80 (.agg #[.int .i64 r3.n])), (42, .iface 80 (.agg #[.int .i64 r3.n])), (43, .bool false)]) (fun _ => [(b_0, .cells #[.int .i64 a1.n] 80 (0, 0)), (b_1, .cells #[.pointer (some ⟨b_0, 0, none⟩)] 82 (0, 0)), (b1, .cells #[.pointer (some ⟨2, 82, none⟩), .pointer (some ⟨b_1, 0, none⟩), .int .u64 150] 106 (0, 0))]) (fun _ => []) (fun _ => by kernel_rfl) (fun _ => ?_)
  refine WP.yes rfl rfl ?_
  refine WP.seq ?_
  refine WP.run [2, 2, 2, 1, 3, 0] [0, 1, 3, 6, 8, 9, 10, 11, 16, 17, 18, 19, 20, 21, 22, 23, 25, 26, 27, 28, 29, 30, 31, 32, 33, 34, 35, 36, 37, 38, 39, 40, 41, 42, 43] (fun b5 => [(0, .iface 80 (.agg #[.int .i64 r3.n])), (1, .iface 82 (.pointer (some ⟨b_0, 0, none⟩))), (3, .iface 148 (.agg #[.pointer (some ⟨2, 80, none⟩)])), (6, .pointer (some ⟨b1, 0, none⟩)), (8, .bool false), (9, .nilIface), (10, .bool false), (11, .iface 138 (.agg #[.string a0, .iface 80 (.agg #[.int .i64 a0_1.n])])), (16, .iface 80 (.agg #[.int .i64 r3.n])), (17, .iface 148 (.agg #[.pointer (some ⟨2, 80, none⟩)])), (18, .iface 148 (.agg #[.pointer (some ⟨2, 80, none⟩)])), (19, .bool true), (20, .agg #[.pointer (some ⟨2, 82, none⟩), .pointer (some ⟨b_1, 0, none⟩), .int .u64 150]), (21, .agg #[.pointer (some ⟨2, 80, none⟩), .pointer (some ⟨b_0, 0, none⟩), .int .u64 409]), (22, .iface 80 (.agg #[.int .i64 r3.n])), (23, .agg #[.pointer (some ⟨2, 80, none⟩), .pointer (some ⟨b5, 0, none⟩), .int .u64 153]), (25, .tuple #[.nilIface, .bool false]), (26, .iface 138 (.agg #[.string a0, .iface 80 (.agg #[.int .i64 a0_1.n])])), (27, .tuple #[.nilIface, .bool false]), (28, .nilIface), (29, .bool false), (30, .bool false), (31, .bool false), (32, .tuple #[]), (33, .tuple #[]), (34, .tuple #[]), (35, .bool false), (36, .iface 138 (.agg #[.string a0, .iface 80 (.agg #[.int .i64 a0_1.n])])), (37, .tuple #[.iface 138 (.agg #[.string a0, .iface 80 (.agg #[.int .i64 a0_1.n])]), .bool true]), (38, .bool true), (39, .iface 138 (.agg #[.string a0, .iface 80 (.agg #[.int .i64 a0_1.n])])), (40, .iface 138 (.agg #[.string a0, .iface 80 (.agg #[.int .i64 a0_1.n])])), (41, .iface 80 (.agg #[.int .i64 r3.n])), (42, .iface 80 (.agg #[.int .i64 r3.n])), (43, .bool false)]) (fun b5 => [(b_0, .cells #[.int .i64 r3.n] 80 (0, 0)), (b_1, .cells #[.pointer (some ⟨b_0, 0, none⟩)] 82 (0, 0)), (b1, .cells #[.pointer (some ⟨2, 82, none⟩), .pointer (some ⟨b_1, 0, none⟩), .int .u64 150] 106 (0, 0)), (b5, .cells #[.int .i64 r3.n] 80 (0, 0))]) (fun b5 => [b_0, b5, b_1, b1, b1, b1]) (fun b5 => by kernel_rfl) (fun b5 => ?_)
  refine WP.seq ?_
  refine WP.run [] [0, 1, 3, 6, 8, 9, 10, 11, 16, 17, 18, 19, 20, 21, 22, 23, 25, 26, 27, 28, 29, 30, 31, 32, 33, 34, 35, 36, 37, 38, 39, 40, 41, 42, 43] (fun _ => [(0, .iface 80 (.agg #[.int .i64 r3.n])), (1, .iface 82 (.pointer (some ⟨b_0, 0, none⟩))), (3, .iface 148 (.agg #[.pointer (some ⟨2, 80, none⟩)])), (6, .pointer (some ⟨b1, 0, none⟩)), (8, .bool true), (9, .nilIface), (10, .bool false), (11, .iface 138 (.agg #[.string a0, .iface 80 (.agg #[.int .i64 a0_1.n])])), (16, .iface 80 (.agg #[.int .i64 r3.n])), (17, .iface 148 (.agg #[.pointer (some ⟨2, 80, none⟩)])), (18, .iface 148 (.agg #[.pointer (some ⟨2, 80, none⟩)])), (19, .bool true), (20, .agg #[.pointer (some ⟨2, 82, none⟩), .pointer (some ⟨b_1, 0, none⟩), .int .u64 150]), (21, .agg #[.pointer (some ⟨2, 80, none⟩), .pointer (some ⟨b_0, 0, none⟩), .int .u64 409]), (22, .iface 80 (.agg #[.int .i64 r3.n])), (23, .agg #[.pointer (some ⟨2, 80, none⟩), .pointer (some ⟨b5, 0, none⟩), .int .u64 153]), (25, .tuple #[.nilIface, .bool false]), (26, .iface 138 (.agg #[.string a0, .iface 80 (.agg #[.int .i64 a0_1.n])])), (27, .tuple #[.nilIface, .bool false]), (28, .nilIface), (29, .bool false), (30, .bool false), (31, .bool false), (32, .tuple #[]), (33, .tuple #[]), (34, .tuple #[]), (35, .bool false), (36, .iface 138 (.agg #[.string a0, .iface 80 (.agg #[.int .i64 a0_1.n])])), (37, .tuple #[.iface 138 (.agg #[.string a0, .iface 80 (.agg #[.int .i64 a0_1.n])]), .bool true]), (38, .bool true), (39, .iface 138 (.agg #[.string a0, .iface 80 (.agg #[.int .i64 a0_1.n])])), (40, .iface 138 (.agg #[.string a0, .iface 80 (.agg #[.int .i64 a0_1.n])])), (41, .iface 80 (.agg #[.int .i64 r3.n])), (42, .iface 80 (.agg #[.int .i64 r3.n])), (43, .bool false)]) (fun _ => [(b_0, .cells #[.int .i64 r3.n] 80 (0, 0)), (b_1, .cells #[.pointer (some ⟨b_0, 0, none⟩)] 82 (0, 0)), (b1, .cells #[.pointer (some ⟨2, 82, none⟩), .pointer (some ⟨b_1, 0, none⟩), .int .u64 150] 106 (0, 0)), (b5, .cells #[.int .i64 r3.n] 80 (0, 0))]) (fun _ => []) (fun _ => by kernel_rfl) (fun _ => ?_)
  obtain rfl := Option.some.inj hM
  exact WP.ret [] [] (.bool true) (by kernel_rfl) (fun w' hw => ⟨(), rfl, hw.pick [0, 1] (by kernel_rfl)⟩)

end Go.Proofs.YtbodofjnfmjbpaaGreatDoor

namespace Go.Proofs.YtbodofjnfmjbpaaGreatDoor
open Go Eng
set_option linter.unusedVariables false
set_option linter.unusedSimpArgs false

/-! ### errors.As: function 34 -/
def errors_As_4.f (a0 : ByteArray) (a0_1 : station_why) (a1 : station_why) : Option (Bool × station_why) :=
  (errors_as_3.f a0 a0_1 a1).bind fun (r2, r3) =>
  some (r2, r3)

set_option maxRecDepth 100000 in
theorem errors_As_4_calls (b_0 : Nat) (a0 : ByteArray) (a0_1 : station_why) (a1 : station_why) (r : Bool × station_why) (h : errors_As_4.f a0 a0_1 a1 = some r) : Does Tryz.prog 34 #[.iface 138 (.agg #[.string a0, .iface 80 (.agg #[.int .i64 a0_1.n])]), .iface 82 (.pointer (some ⟨b_0, 0, none⟩))] [(b_0, .cells #[.int .i64 a1.n] 80 (0, 0))] Glob (fun _ : Unit => .bool r.1) (fun _ => [(b_0, .cells #[.int .i64 r.2.n] 80 (0, 0))]) (fun _ => []) (fun _ => Glob) := by
  intro w Z hS
  refine calls_of (args := [.iface 138 (.agg #[.string a0, .iface 80 (.agg #[.int .i64 a0_1.n])]), .iface 82 (.pointer (some ⟨b_0, 0, none⟩))]) (L := [(0, .iface 138 (.agg #[.string a0, .iface 80 (.agg #[.int .i64 a0_1.n])])), (1, .iface 82 (.pointer (some ⟨b_0, 0, none⟩)))]) (N := 42) (S := Sat w Z [(b_0, .cells #[.int .i64 a1.n] 80 (0, 0))] [] Glob) Tryz.func34 rfl rfl (Nat.le_of_ble_eq_true rfl) rfl hS ?_
  have hM := h
  clear h hS
  unfold errors_As_4.f at hM
  refine WP.seq ?_
  refine WP.run [] [0, 1, 4] (fun _ => [(0, .iface 138 (.agg #[.string a0, .iface 80 (.agg #[.int .i64 a0_1.n])])), (1, .iface 82 (.pointer (some ⟨b_0, 0, none⟩))), (4, .bool false)]) (fun _ => [(b_0, .cells #[.int .i64 a1.n] 80 (0, 0))]) (fun _ => []) (fun _ => by kernel_rfl) (fun _ => ?_)
  refine WP.seq ?_
  refine WP.seq ?_
  refine WP.run [] [0, 1, 4, 9] (fun _ => [(0, .iface 138 (.agg #[.string a0, .iface 80 (.agg #[.int .i64 a0_1.n])])), (1, .iface 82 (.pointer (some ⟨b_0, 0, none⟩))), (4, .bool false), (9, .bool false)]) (fun _ => [(b_0, .cells #[.int .i64 a1.n] 80 (0, 0))]) (fun _ => []) (fun _ => by kernel_rfl) (fun _ => ?_)
  refine WP.no rfl rfl ?_
  refine WP.skip ?_
  refine WP.seq ?_
  refine WP.seq ?_
  refine WP.run [] [0, 1, 4, 11] (fun _ => [(0, .iface 138 (.agg #[.string a0, .iface 80 (.agg #[.int .i64 a0_1.n])])), (1, .iface 82 (.pointer (some ⟨b_0, 0, none⟩))), (4, .bool false), (11, .bool false)]) (fun _ => [(b_0, .cells #[.int .i64 a1.n] 80 (0, 0))]) (fun _ => []) (fun _ => by kernel_rfl) (fun _ => ?_)
  refine WP.no rfl rfl ?_
  refine WP.skip ?_
  refine WP.seq ?_
  refine WP.run [2, 2, 2] [0, 1, 4, 5] (fun b1 => [(0, .iface 138 (.agg #[.string a0, .iface 80 (.agg #[.int .i64 a0_1.n])])), (1, .iface 82 (.pointer (some ⟨b_0, 0, none⟩))), (4, .bool false), (5, .pointer (some ⟨(b1 + 1), 0, none⟩))]) (fun b1 => [(b_0, .cells #[.int .i64 a1.n] 80 (0, 0)), (b1, .cells #[.pointer (some ⟨b_0, 0, none⟩)] 82 (0, 0)), ((b1 + 1), .cells #[.pointer (some ⟨2, 82, none⟩), .pointer (some ⟨b1, 0, none⟩), .int .u64 150] 106 (0, 0))]) (fun b1 => [(b1 + 1), (b1 + 1), (b1 + 1)]) (fun b1 => by kernel_rfl) (fun b1 => ?_)
  refine WP.seq ?_
  refine WP.run [2, 2, 2] [0, 1, 4, 5, 6] (fun _ => [(0, .iface 138 (.agg #[.string a0, .iface 80 (.agg #[.int .i64 a0_1.n])])), (1, .iface 82 (.pointer (some ⟨b_0, 0, none⟩))), (4, .bool false), (5, .pointer (some ⟨(b1 + 1), 0, none⟩)), (6, .iface 148 (.agg #[.pointer (some ⟨2, 82, none⟩)]))]) (fun _ => [(b_0, .cells #[.int .i64 a1.n] 80 (0, 0)), (b1, .cells #[.pointer (some ⟨b_0, 0, none⟩)] 82 (0, 0)), ((b1 + 1), .cells #[.pointer (some ⟨2, 82, none⟩), .pointer (some ⟨b1, 0, none⟩), .int .u64 150] 106 (0, 0))]) (fun _ => [(b1 + 1), (b1 + 1), (b1 + 1)]) (fun _ => by kernel_rfl) (fun _ => ?_)
  refine WP.seq ?_
  refine WP.seq ?_
  refine WP.run [2, 2, 2, 1] [0, 1, 4, 5, 6, 23] (fun _ => [(0, .iface 138 (.agg #[.string a0, .iface 80 (.agg #[.int .i64 a0_1.n])])), (1, .iface 82 (.pointer (some ⟨b_0, 0, none⟩))), (4, .bool false), (5, .pointer (some ⟨(b1 + 1), 0, none⟩)), (6, .iface 148 (.agg #[.pointer (some ⟨2, 82, none⟩)])), (23, .bool false)]) (fun _ => [(b_0, .cells #[.int .i64 a1.n] 80 (0, 0)), (b1, .cells #[.pointer (some ⟨b_0, 0, none⟩)] 82 (0, 0)), ((b1 + 1), .cells #[.pointer (some ⟨2, 82, none⟩), .pointer (some ⟨b1, 0, none⟩), .int .u64 150] 106 (0, 0))]) (fun _ => [b1, (b1 + 1), (b1 + 1), (b1 + 1)]) (fun _ => by kernel_rfl) (fun _ => ?_)
  refine WP.no rfl rfl ?_
  refine WP.skip ?_
  refine WP.seq ?_
  refine WP.run [] [0, 1, 4, 5, 7] (fun _ => [(0, .iface 138 (.agg #[.string a0, .iface 80 (.agg #[.int .i64 a0_1.n])])), (1, .iface 82 (.pointer (some ⟨b_0, 0, none⟩))), (4, .bool false), (5, .pointer (some ⟨(b1 + 1), 0, none⟩)), (7, .iface 148 (.agg #[.pointer (some ⟨2, 80, none⟩)]))]) (fun _ => [(b_0, .cells #[.int .i64 a1.n] 80 (0, 0)), (b1, .cells #[.pointer (some ⟨b_0, 0, none⟩)] 82 (0, 0)), ((b1 + 1), .cells #[.pointer (some ⟨2, 82, none⟩), .pointer (some ⟨b1, 0, none⟩), .int .u64 150] 106 (0, 0))]) (fun _ => []) (fun _ => by kernel_rfl) (fun _ => ?_)
  refine WP.seq ?_
  refine WP.seq ?_
  refine WP.region ?_
  refine WL.run 5 [] [0, 1, 4, 5, 7, 30, 31] (fun _ => [(0, .iface 138 (.agg #[.string a0, .iface 80 (.agg #[.int .i64 a0_1.n])])), (1, .iface 82 (.pointer (some ⟨b_0, 0, none⟩))), (4, .bool false), (5, .pointer (some ⟨(b1 + 1), 0, none⟩)), (7, .iface 148 (.agg #[.pointer (some ⟨2, 80, none⟩)])), (30, .bool true), (31, .iface 148 (.agg #[.pointer (some ⟨2, 80, none⟩)]))]) (fun _ => [(b_0, .cells #[.int .i64 a1.n] 80 (0, 0)), (b1, .cells #[.pointer (some ⟨b_0, 0, none⟩)] 82 (0, 0)), ((b1 + 1), .cells #[.pointer (some ⟨2, 82, none⟩), .pointer (some ⟨b1, 0, none⟩), .int .u64 150] 106 (0, 0))]) (fun _ => []) (fun _ => by kernel_rfl) (fun _ => ?_)
  refine WL.loadGlob (v := .iface 148 (.agg #[.pointer (some ⟨2, 73, none⟩)])) (by simp [Glob]) (fun _ => by kernel_rfl) (by kernel_rfl) rfl ?_
  refine WL.run 3 [] [0, 1, 4, 5, 7, 35] (fun _ => [(0, .iface 138 (.agg #[.string a0, .iface 80 (.agg #[.int .i64 a0_1.n])])), (1, .iface 82 (.pointer (some ⟨b_0, 0, none⟩))), (4, .bool false), (5, .pointer (some ⟨(b1 + 1), 0, none⟩)), (7, .iface 148 (.agg #[.pointer (some ⟨2, 80, none⟩)])), (35, .bool false)]) (fun _ => [(b_0, .cells #[.int .i64 a1.n] 80 (0, 0)), (b1, .cells #[.pointer (some ⟨b_0, 0, none⟩)] 82 (0, 0)), ((b1 + 1), .cells #[.pointer (some ⟨2, 82, none⟩), .pointer (some ⟨b1, 0, none⟩), .int .u64 150] 106 (0, 0))]) (fun _ => []) (fun _ => by kernel_rfl) (fun _ => ?_)
  refine WP.done ?_
  refine WP.no rfl rfl ?_
  refine WP.skip ?_
  refine WP.seq ?_
  refine WP.region ?_
  refine WL.run 4 [2, 2, 2] [4, 37, 38, 39, 40] (fun _ => [(4, .bool false), (37, .iface 138 (.agg #[.string a0, .iface 80 (.agg #[.int .i64 a0_1.n])])), (38, .iface 82 (.pointer (some ⟨b_0, 0, none⟩))), (39, .agg #[.pointer (some ⟨2, 82, none⟩), .pointer (some ⟨b1, 0, none⟩), .int .u64 150]), (40, .iface 148 (.agg #[.pointer (some ⟨2, 80, none⟩)]))]) (fun _ => [(b_0, .cells #[.int .i64 a1.n] 80 (0, 0)), (b1, .cells #[.pointer (some ⟨b_0, 0, none⟩)] 82 (0, 0)), ((b1 + 1), .cells #[.pointer (some ⟨2, 82, none⟩), .pointer (some ⟨b1, 0, none⟩), .int .u64 150] 106 (0, 0))]) (fun _ => [(b1 + 1), (b1 + 1), (b1 + 1)]) (fun _ => by kernel_rfl) (fun _ => ?_)
  obtain ⟨⟨r2, r3⟩, h4, hM⟩ := bind_some hM
  dsimp only at hM
  refine WL.callE (X := Unit) [] [] [true, true, false] (fun _ => _) (errors_as_3_calls b_0 b1 a0 a0_1 a1 _ h4) rfl rfl (fun _ h => h) (by kernel_rfl) (by kernel_rfl) (fun _ => rfl) (fun _ => ?_)
  refine WL.run 1 [] [4] (fun _ => [(4, .bool r2)]) (fun _ => [(b_0, .cells #[.int .i64 r3.n] 80 (0, 0)), (b1, .cells #[.pointer (some ⟨b_0, 0, none⟩)] 82 (0, 0)), ((b1 + 1), .cells #[.pointer (some ⟨2, 82, none⟩), .pointer (some ⟨b1, 0, none⟩), .int .u64 150] 106 (0, 0))]) (fun _ => []) (fun _ => by kernel_rfl) (fun _ => ?_)
  refine WP.done ?_
  refine WP.keep [true, false, false] (by kernel_rfl : _ = [(b_0, .cells #[.int .i64 r3.n] 80 (0, 0))]) ?_
  obtain rfl := Option.some.inj hM
  exact WP.ret [] [] (.bool r2) (by kernel_rfl) (fun w' hw => ⟨(), rfl, hw.pick [0] (by kernel_rfl)⟩)

end Go.Proofs.YtbodofjnfmjbpaaGreatDoor
