/- The walks of the functions that the laws reach: each shows that a call returns what its plain model says, wherever the model gives an answer. -/
import Derived.Test.YtbbekdmndifkpaaGreatDoorF1
import Derived.Test.YtbbekdmndifkpaaGreatDoorF3
import Derived.Test.YtbbekdmndifkpaaGreatDoorF2

namespace Go.Proofs.YtbbekdmndifkpaaGreatDoor
open Go Eng
set_option linter.unusedVariables false
set_option linter.unusedSimpArgs false

/-! ### gangway/arp.Tell: function 22 -/
def arp_Tell.k1 (k : Nat) (a1 : Int) (a0 : api_Arp) (x9 : Bool) : Option (api_Frame × Int) :=
  bif x9 then
    some ((api_Frame.mk 0 0 (api_Tag.mk false 0 false 0) 0 (⟨#[]⟩ : ByteArray)), 51)
  else
    (arp_laid.f k (api_Arp.mk 2 a1 a0.TIp a0.SMac a0.SIp)).bind fun r13 =>
    some ((api_Frame.mk a0.SMac a1 (api_Tag.mk false 0 false 0) 2054 r13), 0)

def arp_Tell.k2 (k : Nat) (a1 : Int) (a0 : api_Arp) (x5 : Bool) : Option (api_Frame × Int) :=
  bif x5 then
    arp_Tell.k1 k a1 a0 true
  else
    (addrs_Own.f a1).bind fun r7 =>
    arp_Tell.k1 k a1 a0 (!r7)

def arp_Tell.f (k : Nat) (a0 : api_Arp) (a1 : Int) : Option (api_Frame × Int) :=
  bif (a0.Op != 1) then
    arp_Tell.k2 k a1 a0 true
  else
    (arp_Check.f a0).bind fun r3 =>
    arp_Tell.k2 k a1 a0 (r3 != 0)

set_option maxRecDepth 100000 in
theorem arp_Tell_calls (k : Nat) (a0 : api_Arp) (a1 : Int) (r : api_Frame × Int) (h : arp_Tell.f k a0 a1 = some r) : Pure Tryz.prog Glob 22 #[api_Arp.v a0, .int .u64 a1] (.tuple #[api_Frame.v r.1, .int .i64 r.2]) := by
  intro w Z hS
  refine calls_of (args := [api_Arp.v a0, .int .u64 a1]) (L := [(0, api_Arp.v a0), (1, .int .u64 a1)]) (N := 35) (S := Sat w Z [] [] Glob) Tryz.func22 rfl rfl (Nat.le_of_ble_eq_true rfl) rfl hS ?_
  have hM := h
  clear h hS
  unfold arp_Tell.f at hM
  refine WP.seq ?_
  refine WP.rh [] (fun b1 => [(2, .pointer (some ⟨b1, 0, none⟩)), (4, .pointer (some ⟨(b1 + 1), 0, none⟩)), (5, .int .i64 0)]) (fun b1 => []) (fun b1 => [(b1, api_Arp.o a0), ((b1 + 1), .cells #[.int .u64 0, .int .u64 0, .bool false, .int .i64 0, .bool false, .int .i64 0, .int .i64 0, .string (⟨#[]⟩ : ByteArray)] 40 (0, 0))]) (fun b1 => ?_)
  refine WP.seq ?_
  refine WP.seq ?_
  refine WP.region ?_
  refine WL.rn 4 [0] [(10, .bool (a0.Op != 1))] ?_
  refine WL.join (σ := Bool) 4 (fun st => arp_Tell.k2 k a1 a0 st = some r) (fun st => [(1, .int .u64 a1), (2, .pointer (some ⟨b1, 0, none⟩)), (4, .pointer (some ⟨(b1 + 1), 0, none⟩)), (5, .int .i64 0), (14, .bool st)]) (fun st => Sat w Z [(b1, api_Arp.o a0), ((b1 + 1), .cells #[.int .u64 0, .int .u64 0, .bool false, .int .i64 0, .bool false, .int .i64 0, .int .i64 0, .string (⟨#[]⟩ : ByteArray)] 40 (0, 0))] [] Glob) (fun st hM => ?_) (fun K2 => ?_)
  ·
    obtain ⟨x5, rfl⟩ : ∃ y, y = st := ⟨st, rfl⟩
    replace hM : arp_Tell.k2 k a1 a0 x5 = some r := hM
    unfold arp_Tell.k2 at hM
    show WL _ _ _ _ _ [(1, .int .u64 a1), (2, .pointer (some ⟨b1, 0, none⟩)), (4, .pointer (some ⟨(b1 + 1), 0, none⟩)), (5, .int .i64 0), (14, .bool x5)] (Sat w Z [(b1, api_Arp.o a0), ((b1 + 1), .cells #[.int .u64 0, .int .u64 0, .bool false, .int .i64 0, .bool false, .int .i64 0, .int .i64 0, .string (⟨#[]⟩ : ByteArray)] 40 (0, 0))] [] Glob)
    refine WL.rn 1 [] [(15, .bool x5)] ?_
    refine WL.join (σ := Bool) 4 (fun st => arp_Tell.k1 k a1 a0 st = some r) (fun st => [(1, .int .u64 a1), (2, .pointer (some ⟨b1, 0, none⟩)), (4, .pointer (some ⟨(b1 + 1), 0, none⟩)), (5, .int .i64 0), (19, .bool st)]) (fun st => Sat w Z [(b1, api_Arp.o a0), ((b1 + 1), .cells #[.int .u64 0, .int .u64 0, .bool false, .int .i64 0, .bool false, .int .i64 0, .int .i64 0, .string (⟨#[]⟩ : ByteArray)] 40 (0, 0))] [] Glob) (fun st hM => ?_) (fun K1 => ?_)
    ·
      obtain ⟨x9, rfl⟩ : ∃ y, y = st := ⟨st, rfl⟩
      replace hM : arp_Tell.k1 k a1 a0 x9 = some r := hM
      unfold arp_Tell.k1 at hM
      show WL _ _ _ _ _ [(1, .int .u64 a1), (2, .pointer (some ⟨b1, 0, none⟩)), (4, .pointer (some ⟨(b1 + 1), 0, none⟩)), (5, .int .i64 0), (19, .bool x9)] (Sat w Z [(b1, api_Arp.o a0), ((b1 + 1), .cells #[.int .u64 0, .int .u64 0, .bool false, .int .i64 0, .bool false, .int .i64 0, .int .i64 0, .string (⟨#[]⟩ : ByteArray)] 40 (0, 0))] [] Glob)
      refine WP.done ?_
      refine WP.cond x9 rfl rfl (fun c10 => ?_) (fun c10 => ?_)
      · replace hM := cond_t hM c10
        refine WP.seq ?_
        refine WP.rn [1, 1, 1, 1, 1, 1, 1, 1] [(5, .int .i64 51)] ?_
        obtain rfl := Option.some.inj hM
        exact WP.ret [1, 1, 1, 1, 1, 1, 1, 1] [(b1 + 1), (b1 + 1), (b1 + 1), (b1 + 1), (b1 + 1), (b1 + 1), (b1 + 1), (b1 + 1)] (.tuple #[.agg #[.int .u64 0, .int .u64 0, .bool false, .int .i64 0, .bool false, .int .i64 0, .int .i64 0, .string (⟨#[]⟩ : ByteArray)], .int .i64 51]) (by kernel_rfl) (fun w' hw => ⟨rfl, hw.pick [] rfl⟩)
      · replace hM := cond_f hM c10
        refine WP.skip ?_
        refine WP.seq ?_
        refine WP.rh [0, 0, 0, 2, 2, 2, 2, 2] (fun b11 => [(6, .pointer (some ⟨b11, 0, none⟩))]) (fun b11 => []) (fun b11 => [(b11, .cells #[.int .i64 2, .int .u64 a1, .int .u32 a0.TIp, .int .u64 a0.SMac, .int .u32 a0.SIp] 51 (0, 0))]) (fun b11 => ?_)
        refine WP.seq ?_
        obtain ⟨r13, h14, hM⟩ := bind_some hM
        refine WP.sub [1, 2, 4, 5, 6] (L' := [(1, .int .u64 a1), (2, .pointer (some ⟨b1, 0, none⟩)), (4, .pointer (some ⟨(b1 + 1), 0, none⟩)), (5, .int .i64 0), (6, .pointer (some ⟨b11, 0, none⟩))]) (by kernel_rfl) ?_
        refine WP.mixed (X := Unit) 5 [.val (.pointer (some ⟨b1, 1, none⟩)), .val (.int .u64 a0.SMac), .val (.int .u64 a1), .val (.agg #[.int .i64 2, .int .u64 a1, .int .u32 a0.TIp, .int .u64 a0.SMac, .int .u32 a0.SIp]), .val (.string r13)] [(b1, api_Arp.o a0), ((b1 + 1), .cells #[.int .u64 0, .int .u64 0, .bool false, .int .i64 0, .bool false, .int .i64 0, .int .i64 0, .string (⟨#[]⟩ : ByteArray)] 40 (0, 0)), (b11, .cells #[.int .i64 2, .int .u64 a1, .int .u32 a0.TIp, .int .u64 a0.SMac, .int .u32 a0.SIp] 51 (0, 0))] [] (by kernel_rfl) (by kernel_rfl) (by kernel_rfl) (by kernel_rfl) (Heads.val (fun tt Ψ => OpV.run [] [] (by kernel_rfl) (fun _ => by kernel_rfl)) (Heads.val (fun tt Ψ => OpV.run [0] [b1] (by kernel_rfl) (fun _ => by kernel_rfl)) (Heads.val (fun tt Ψ => OpV.run [] [] (by kernel_rfl) (fun _ => by kernel_rfl)) (Heads.val (fun tt Ψ => OpV.run [2, 2, 2, 2, 2] [b11, b11, b11, b11, b11] (by kernel_rfl) (fun _ => by kernel_rfl)) (Heads.val (fun tt Ψ => OpV.callF [] [] (fun _ h => (List.mem_append_right _ h)) (arp_laid_calls k (api_Arp.mk 2 a1 a0.TIp a0.SMac a0.SIp) _ h14)  (fun _ => by kernel_rfl)) Heads.nil))))) (fun s12 tt => [(29, .pointer (some ⟨b1, 1, none⟩)), (30, .int .u64 a0.SMac), (31, .int .u64 a1), (32, .agg #[.int .i64 2, .int .u64 a1, .int .u32 a0.TIp, .int .u64 a0.SMac, .int .u32 a0.SIp]), (33, .string r13), (1, .int .u64 a1), (2, .pointer (some ⟨b1, 0, none⟩)), (4, .pointer (some ⟨(b1 + 1), 0, none⟩)), (5, .int .i64 0), (6, .pointer (some ⟨b11, 0, none⟩))]) (fun s12 tt => [(b1, api_Arp.o a0), ((b1 + 1), .cells #[.int .u64 0, .int .u64 0, .bool false, .int .i64 0, .bool false, .int .i64 0, .int .i64 0, .string (⟨#[]⟩ : ByteArray)] 40 (0, 0)), (b11, .cells #[.int .i64 2, .int .u64 a1, .int .u32 a0.TIp, .int .u64 a0.SMac, .int .u32 a0.SIp] 51 (0, 0))]) (fun tt => Glob) (fun _ _ => by kernel_rfl) (fun _ _ => by kernel_rfl) (fun _ => by kernel_rfl) (fun s12 tt => ?_)
        refine WL.rh 3 [1, 1, 1, 1, 1, 1, 1, 1] (fun _ => [(5, .int .i64 0)]) (fun _ => [(1, 0, [.int .u64 a0.SMac, .int .u64 a1]), (1, 6, [.int .i64 2054, .string r13])]) (fun _ => []) (fun _ => ?_)
        refine WP.done ?_
        refine WP.kp [false, true, false] ?_
        obtain rfl := Option.some.inj hM
        exact WP.ret [0, 0, 0, 0, 0, 0, 0, 0] [(b1 + 1), (b1 + 1), (b1 + 1), (b1 + 1), (b1 + 1), (b1 + 1), (b1 + 1), (b1 + 1)] (.tuple #[.agg #[.int .u64 a0.SMac, .int .u64 a1, .bool false, .int .i64 0, .bool false, .int .i64 0, .int .i64 2054, .string r13], .int .i64 0]) (by kernel_rfl) (fun w' hw => ⟨rfl, hw.pick [] rfl⟩)
    ·
      refine WL.sp 15 x5 (fun c6 => ?_) (fun c6 => ?_)
      · replace hM := cond_t hM c6
        refine WL.rn 4 [] [(19, .bool true)] ?_
        exact WL.sub [1, 2, 4, 5, 19] (by kernel_rfl) (WL.pick [0, 1] (by kernel_rfl) (by kernel_rfl) (K1 true hM))
      · replace hM := cond_f hM c6
        refine WL.rn 1 [] [(16, .int .u64 a1)] ?_
        obtain ⟨r7, h8, hM⟩ := bind_some hM
        refine WL.callP [] [] (addrs_Own_calls a1 _ h8) (fun _ h => h) (by kernel_rfl) (by kernel_rfl) rfl ?_
        refine WL.rn 2 [] [(19, .bool (!r7))] ?_
        exact WL.sub [1, 2, 4, 5, 19] (by kernel_rfl) (WL.pick [0, 1] (by kernel_rfl) (by kernel_rfl) (K1 (!r7) hM))
  ·
    refine WL.sp 10 (a0.Op != 1) (fun c2 => ?_) (fun c2 => ?_)
    · replace hM := cond_t hM c2
      refine WL.rn 4 [] [(14, .bool true)] ?_
      exact WL.sub [1, 2, 4, 5, 14] (by kernel_rfl) (WL.pick [0, 1] (by kernel_rfl) (by kernel_rfl) (K2 true hM))
    · replace hM := cond_f hM c2
      refine WL.rn 1 [0, 0, 0, 0, 0] [(11, api_Arp.v a0)] ?_
      obtain ⟨r3, h4, hM⟩ := bind_some hM
      refine WL.callP [] [] (arp_Check_calls a0 _ h4) (fun _ h => h) (by kernel_rfl) (by kernel_rfl) rfl ?_
      refine WL.rn 2 [] [(14, .bool (r3 != 0))] ?_
      exact WL.sub [1, 2, 4, 5, 14] (by kernel_rfl) (WL.pick [0, 1] (by kernel_rfl) (by kernel_rfl) (K2 (r3 != 0) hM))

end Go.Proofs.YtbbekdmndifkpaaGreatDoor

namespace Go.Proofs.YtbbekdmndifkpaaGreatDoor
open Go Eng
set_option linter.unusedVariables false
set_option linter.unusedSimpArgs false

/-! ### gangway/trace.Same: function 10 -/
def trace_Same.f (k : Nat) (a0 : (List api_Gate)) (a1 : api_Event) (a2 : api_Event) : Option (Bool) :=
  (trace_of.f k a0 a1).bind fun r2 =>
  (trace_of.f k a0 a2).bind fun r4 =>
  (trace_same.f k a0 r2 r4).bind fun r6 =>
  some r6

set_option maxRecDepth 100000 in
theorem trace_Same_calls (k : Nat) (A00 : SkL ((SkL (SkL Unit)) × (SkL Unit) × (SkL (SkL Unit)) × (SkL Unit))) (a0 : (List api_Gate)) (a1 : api_Event) (a2 : api_Event) (r : Bool) (h : trace_Same.f k a0 a1 a2 = some r) : Pure Tryz.prog ([Row 21 api_Gate.encS api_Gate.inK A00 a0] ++ Glob) 10 #[slcV A00 a0.length, api_Event.v a1, api_Event.v a2] (.bool r) := by
  intro w Z hS
  refine calls_of (args := [slcV A00 a0.length, api_Event.v a1, api_Event.v a2]) (L := [(0, slcV A00 a0.length), (1, api_Event.v a1), (2, api_Event.v a2)]) (N := 15) (S := Sat w Z [] [] ([Row 21 api_Gate.encS api_Gate.inK A00 a0] ++ Glob)) Tryz.func10 rfl rfl (Nat.le_of_ble_eq_true rfl) rfl hS ?_
  have hM := h
  clear h hS
  unfold trace_Same.f at hM
  refine WP.seq ?_
  refine WP.rh [] (fun b1 => [(4, .pointer (some ⟨b1, 0, none⟩)), (5, .pointer (some ⟨(b1 + 1), 0, none⟩)), (6, .bool false)]) (fun b1 => []) (fun b1 => [(b1, api_Event.o a1), ((b1 + 1), api_Event.o a2)]) (fun b1 => ?_)
  refine WP.seq ?_
  refine WP.quiet (by kernel_rfl) (by kernel_rfl) ?_
  refine QL.rn 3 [0, 0, 0, 0] [(7, slcV A00 a0.length), (8, slcV A00 a0.length), (9, api_Event.v a1)] ?_
  obtain ⟨r2, h3, hM⟩ := bind_some hM
  refine QL.callP [] [] (trace_of_calls k A00 a0 a1 _ h3) (sub_pick [0] (by kernel_rfl)) (by kernel_rfl) (by kernel_rfl) rfl ?_
  refine QL.rn 2 [1, 1, 1, 1] [(11, slcV A00 a0.length), (12, api_Event.v a2)] ?_
  obtain ⟨r4, h5, hM⟩ := bind_some hM
  refine QL.callP [] [] (trace_of_calls k A00 a0 a2 _ h5) (sub_pick [0] (by kernel_rfl)) (by kernel_rfl) (by kernel_rfl) rfl ?_
  obtain ⟨r6, h7, hM⟩ := bind_some hM
  refine QL.callP [] [] (trace_same_calls k A00 a0 r2 r4 _ h7) (sub_pick [0] (by kernel_rfl)) (by kernel_rfl) (by kernel_rfl) rfl ?_
  refine QL.rn 1 [] [(6, .bool r6)] ?_
  refine QL.done ?_
  refine WP.kp [false, false] ?_
  obtain rfl := Option.some.inj hM
  exact WP.ret [] [] (.bool r6) (by kernel_rfl) (fun w' hw => ⟨rfl, (hw.pick [] rfl).lessF [0] (by kernel_rfl)⟩)

end Go.Proofs.YtbbekdmndifkpaaGreatDoor

namespace Go.Proofs.YtbbekdmndifkpaaGreatDoor
open Go Eng
set_option linter.unusedVariables false
set_option linter.unusedSimpArgs false

/-! ### gangway/gangwaylaw28.fixed: function 8 -/
def gangwaylaw28_fixed.k1 (x62 : Bool) : Option (Bool) :=
  some x62

def gangwaylaw28_fixed.k2 (k : Nat) (r1 : (List api_Gate)) (r4 : ByteArray) (x58 : Bool) : Option (Bool) :=
  bif x58 then
    (trace_Same.f k r1 (api_Event.mk true 1 1 r4) (api_Event.mk false 3 0 (⟨#[]⟩ : ByteArray))).bind fun r60 =>
    gangwaylaw28_fixed.k1 (!r60)
  else
    gangwaylaw28_fixed.k1 false

def gangwaylaw28_fixed.k3 (k : Nat) (r1 : (List api_Gate)) (r4 : ByteArray) (x54 : Bool) : Option (Bool) :=
  bif x54 then
    (trace_Same.f k r1 (api_Event.mk true 1 1 r4) (api_Event.mk false 2 1 r4)).bind fun r56 =>
    gangwaylaw28_fixed.k2 k r1 r4 r56
  else
    gangwaylaw28_fixed.k2 k r1 r4 false

def gangwaylaw28_fixed.k4 (k : Nat) (r1 : (List api_Gate)) (r16 : ByteArray) (r29 : ByteArray) (r11 : ByteArray) (r4 : ByteArray) (x49 : Bool) : Option (Bool) :=
  bif x49 then
    (trace_First.f k r1 ([(api_Event.mk true 1 1 r16), (api_Event.mk false 1 1 r29), (api_Event.mk true 2 2 r11)] : List api_Event)).bind fun r52 =>
    gangwaylaw28_fixed.k3 k r1 r4 (r52 == 1)
  else
    gangwaylaw28_fixed.k3 k r1 r4 false

def gangwaylaw28_fixed.k5 (k : Nat) (r1 : (List api_Gate)) (r11 : ByteArray) (r16 : ByteArray) (r29 : ByteArray) (r4 : ByteArray) (x44 : Bool) : Option (Bool) :=
  bif x44 then
    (trace_First.f k r1 ([(api_Event.mk true 2 2 r11), (api_Event.mk true 1 1 r16), (api_Event.mk false 1 1 r29)] : List api_Event)).bind fun r47 =>
    gangwaylaw28_fixed.k4 k r1 r16 r29 r11 r4 (r47 == (-1))
  else
    gangwaylaw28_fixed.k4 k r1 r16 r29 r11 r4 false

def gangwaylaw28_fixed.k6 (k : Nat) (r1 : (List api_Gate)) (r4 : ByteArray) (r11 : ByteArray) (r16 : ByteArray) (r29 : ByteArray) (x39 : Bool) : Option (Bool) :=
  bif x39 then
    (trace_First.f k r1 ([(api_Event.mk true 1 1 r4), (api_Event.mk false 1 1 r4)] : List api_Event)).bind fun r42 =>
    gangwaylaw28_fixed.k5 k r1 r11 r16 r29 r4 (r42 == 1)
  else
    gangwaylaw28_fixed.k5 k r1 r11 r16 r29 r4 false

def gangwaylaw28_fixed.f (k : Nat) : Option (Bool) :=
  (gangwaylaw27_Pair.f).bind fun r1 =>
  (gangwaylaw28_bytes.f k (api_Frame.mk 281474976710655 6 (api_Tag.mk false 0 false 0) 2048 (⟨#[]⟩ : ByteArray))).bind fun r4 =>
  (arp_Ask.f k 10 100 9).bind fun r9 =>
  (gangwaylaw28_bytes.f k r9).bind fun r11 =>
  (arp_Ask.f k 6 50 100).bind fun r14 =>
  (gangwaylaw28_bytes.f k r14).bind fun r16 =>
  (arp_Ask.f k 6 50 100).bind fun r19 =>
  (arp_Of.f k r19).bind fun (r21, r22) =>
  (arp_Tell.f k r21 10).bind fun (r25, r26) =>
  (gangwaylaw28_bytes.f k r25).bind fun r29 =>
  (trace_First.f k r1 ([(api_Event.mk true 1 1 r4), (api_Event.mk false 2 1 r4)] : List api_Event)).bind fun r33 =>
  bif (r33 == (-1)) then
    (trace_First.f k r1 ([(api_Event.mk false 2 1 r4), (api_Event.mk true 1 1 r4)] : List api_Event)).bind fun r37 =>
    gangwaylaw28_fixed.k6 k r1 r4 r11 r16 r29 (r37 == 0)
  else
    gangwaylaw28_fixed.k6 k r1 r4 r11 r16 r29 false

set_option maxRecDepth 100000 in
theorem gangwaylaw28_fixed_calls (k : Nat) (r : Bool) (h : gangwaylaw28_fixed.f k = some r) : Pure Tryz.prog Glob 8 #[] (.bool r) := by
  intro w Z hS
  refine calls_of (args := []) (L := []) (N := 94) (S := Sat w Z [] [] Glob) Tryz.func8 rfl rfl (Nat.le_of_ble_eq_true rfl) rfl hS ?_
  have hM := h
  clear h hS
  unfold gangwaylaw28_fixed.f at hM
  refine WP.less (Φ' := [] ++ Glob) (fun _ h => h) ?_
  refine WP.seq ?_
  refine WP.rn [] [(0, .bool false)] ?_
  refine WP.seq ?_
  refine WP.region ?_
  obtain ⟨r1, h2, hM⟩ := bind_some hM
  refine WL.callX (F0 := []) [] [] [] (fun _ => _) [] (by kernel_rfl) (gangwaylaw27_Pair_calls _ h2) rfl rfl (by kernel_rfl) (by kernel_rfl) (fun _ => rfl) (fun A3 => ?_)
  refine WL.rn 1 [] [(1, slcV A3 r1.length)] ?_
  refine WP.done ?_
  refine WP.seq ?_
  refine WP.region ?_
  refine WL.rn 1 [] [(14, .agg #[.int .u64 281474976710655, .int .u64 6, .bool false, .int .i64 0, .bool false, .int .i64 0, .int .i64 2048, .string (⟨#[]⟩ : ByteArray)])] ?_
  obtain ⟨r4, h5, hM⟩ := bind_some hM
  refine WL.callP [] [] (gangwaylaw28_bytes_calls k (api_Frame.mk 281474976710655 6 (api_Tag.mk false 0 false 0) 2048 (⟨#[]⟩ : ByteArray)) _ h5) (fun _ h => List.mem_append_right _ h) (by kernel_rfl) (by kernel_rfl) rfl ?_
  refine WL.rn 1 [] [(2, .string r4)] ?_
  refine WP.done ?_
  refine WP.seq ?_
  refine WP.rh [0, 0, 0, 0] (fun b6 => [(3, .pointer (some ⟨b6, 0, none⟩))]) (fun b6 => []) (fun b6 => [(b6, .cells #[.bool true, .int .i64 1, .int .i64 1, .string r4] 28 (0, 0))]) (fun b6 => ?_)
  refine WP.seq ?_
  refine WP.rh [1, 1, 1, 1] (fun b7 => [(4, .pointer (some ⟨b7, 0, none⟩))]) (fun b7 => []) (fun b7 => [(b7, .cells #[.bool false, .int .i64 2, .int .i64 1, .string r4] 28 (0, 0))]) (fun b7 => ?_)
  refine WP.seq ?_
  refine WP.rh [2, 2, 2, 2] (fun b8 => [(5, .pointer (some ⟨b8, 0, none⟩))]) (fun b8 => []) (fun b8 => [(b8, .cells #[.bool false, .int .i64 1, .int .i64 1, .string r4] 28 (0, 0))]) (fun b8 => ?_)
  refine WP.seq ?_
  refine WP.region ?_
  obtain ⟨r9, h10, hM⟩ := bind_some hM
  refine WL.callP [] [] (arp_Ask_calls k 10 100 9 _ h10) (fun _ h => List.mem_append_right _ h) (by kernel_rfl) (by kernel_rfl) rfl ?_
  obtain ⟨r11, h12, hM⟩ := bind_some hM
  refine WL.callP [] [] (gangwaylaw28_bytes_calls k r9 _ h12) (fun _ h => List.mem_append_right _ h) (by kernel_rfl) (by kernel_rfl) rfl ?_
  refine WL.rh 3 [3, 3, 3, 3] (fun b13 => [(6, .pointer (some ⟨b13, 0, none⟩))]) (fun b13 => []) (fun b13 => [(b13, .cells #[.bool true, .int .i64 2, .int .i64 2, .string r11] 28 (0, 0))]) (fun b13 => ?_)
  refine WP.done ?_
  refine WP.seq ?_
  refine WP.region ?_
  obtain ⟨r14, h15, hM⟩ := bind_some hM
  refine WL.callP [] [] (arp_Ask_calls k 6 50 100 _ h15) (fun _ h => List.mem_append_right _ h) (by kernel_rfl) (by kernel_rfl) rfl ?_
  obtain ⟨r16, h17, hM⟩ := bind_some hM
  refine WL.callP [] [] (gangwaylaw28_bytes_calls k r14 _ h17) (fun _ h => List.mem_append_right _ h) (by kernel_rfl) (by kernel_rfl) rfl ?_
  refine WL.rh 3 [4, 4, 4, 4] (fun b18 => [(7, .pointer (some ⟨b18, 0, none⟩))]) (fun b18 => []) (fun b18 => [(b18, .cells #[.bool true, .int .i64 1, .int .i64 1, .string r16] 28 (0, 0))]) (fun b18 => ?_)
  refine WP.done ?_
  refine WP.seq ?_
  refine WP.region ?_
  obtain ⟨r19, h20, hM⟩ := bind_some hM
  refine WL.callP [] [] (arp_Ask_calls k 6 50 100 _ h20) (fun _ h => List.mem_append_right _ h) (by kernel_rfl) (by kernel_rfl) rfl ?_
  obtain ⟨⟨r21, r22⟩, h23, hM⟩ := bind_some hM
  dsimp only at hM
  refine WL.callP [] [] (arp_Of_calls k r19 _ h23) (fun _ h => List.mem_append_right _ h) (by kernel_rfl) (by kernel_rfl) rfl ?_
  refine WL.rh 6 [5, 5, 5, 5, 5] (fun b24 => [(8, .pointer (some ⟨b24, 0, none⟩))]) (fun b24 => []) (fun b24 => [(b24, api_Arp.o r21)]) (fun b24 => ?_)
  refine WP.done ?_
  refine WP.seq ?_
  refine WP.region ?_
  refine WL.rn 1 [5, 5, 5, 5, 5] [(34, api_Arp.v r21)] ?_
  obtain ⟨⟨r25, r26⟩, h27, hM⟩ := bind_some hM
  dsimp only at hM
  refine WL.callP [] [] (arp_Tell_calls k r21 10 _ h27) (fun _ h => List.mem_append_right _ h) (by kernel_rfl) (by kernel_rfl) rfl ?_
  refine WL.rh 6 [6, 6, 6, 6, 6, 6, 6, 6] (fun b28 => [(10, .pointer (some ⟨b28, 0, none⟩))]) (fun b28 => []) (fun b28 => [(b28, api_Frame.o r25)]) (fun b28 => ?_)
  refine WP.done ?_
  refine WP.kp [true, true, true, true, true, false, true] ?_
  refine WP.seq ?_
  refine WP.region ?_
  refine WL.rn 1 [5, 5, 5, 5, 5, 5, 5, 5] [(38, api_Frame.v r25)] ?_
  obtain ⟨r29, h30, hM⟩ := bind_some hM
  refine WL.callP [] [] (gangwaylaw28_bytes_calls k r25 _ h30) (fun _ h => List.mem_append_right _ h) (by kernel_rfl) (by kernel_rfl) rfl ?_
  refine WL.rh 3 [6, 6, 6, 6] (fun b31 => [(12, .pointer (some ⟨b31, 0, none⟩))]) (fun b31 => []) (fun b31 => [(b31, .cells #[.bool false, .int .i64 1, .int .i64 1, .string r29] 28 (0, 0))]) (fun b31 => ?_)
  refine WP.done ?_
  refine WP.kp [true, true, true, true, true, false, true] ?_
  refine WP.seq ?_
  refine WP.region ?_
  refine WL.rh 4 [0, 0, 0, 0, 1, 1, 1, 1] (fun b32 => [(41, slcV A3 r1.length), (44, .slice (some ⟨b32, 0, none⟩) 2 2)]) (fun b32 => []) (fun b32 => [(b32, .cells #[.bool true, .int .i64 1, .int .i64 1, .string r4, .bool false, .int .i64 2, .int .i64 1, .string r4] 28 (0, 0))]) (fun b32 => ?_)
  refine WL.ice (H' := [(b6, .cells #[.bool true, .int .i64 1, .int .i64 1, .string r4] 28 (0, 0)), (b7, .cells #[.bool false, .int .i64 2, .int .i64 1, .string r4] 28 (0, 0)), (b8, .cells #[.bool false, .int .i64 1, .int .i64 1, .string r4] 28 (0, 0)), (b13, .cells #[.bool true, .int .i64 2, .int .i64 2, .string r11] 28 (0, 0)), (b18, .cells #[.bool true, .int .i64 1, .int .i64 1, .string r16] 28 (0, 0)), (b31, .cells #[.bool false, .int .i64 1, .int .i64 1, .string r29] 28 (0, 0))]) (Row 4 (pl api_Event.enc) noK (SkL.at b32 2 (fun _ => ())) ([(api_Event.mk true 1 1 r4), (api_Event.mk false 2 1 r4)] : List api_Event)) 6 (b := b32) (ob := .cells #[.bool true, .int .i64 1, .int .i64 1, .string r4, .bool false, .int .i64 2, .int .i64 1, .string r4] 28 (0, 0)) (by kernel_rfl) [] [] (by kernel_rfl) (fun w hb hψ => row_of_block hb (fun _ _ => rfl) ⟨[], by kernel_rfl⟩ (Nat.le_of_ble_eq_true rfl) (InK.no _ _)) (by kernel_rfl) ?_
  obtain ⟨r33, h34, hM⟩ := bind_some hM
  refine WL.callP [] [] (trace_First_calls k A3 (SkL.at b32 2 (fun _ => ())) r1 ([(api_Event.mk true 1 1 r4), (api_Event.mk false 2 1 r4)] : List api_Event) _ h34) (sub_pick [1, 0] (by kernel_rfl)) (by kernel_rfl) (by kernel_rfl) rfl ?_
  refine WL.rn 2 [] [(47, .bool (r33 == (-1)))] ?_
  refine WL.join (σ := Bool) 7 (fun st => gangwaylaw28_fixed.k6 k r1 r4 r11 r16 r29 st = some r) (fun st => [(0, .bool false), (1, slcV A3 r1.length), (3, .pointer (some ⟨b6, 0, none⟩)), (4, .pointer (some ⟨b7, 0, none⟩)), (5, .pointer (some ⟨b8, 0, none⟩)), (6, .pointer (some ⟨b13, 0, none⟩)), (7, .pointer (some ⟨b18, 0, none⟩)), (12, .pointer (some ⟨b31, 0, none⟩)), (54, .bool st)]) (fun st => Sat w Z [(b6, .cells #[.bool true, .int .i64 1, .int .i64 1, .string r4] 28 (0, 0)), (b7, .cells #[.bool false, .int .i64 2, .int .i64 1, .string r4] 28 (0, 0)), (b8, .cells #[.bool false, .int .i64 1, .int .i64 1, .string r4] 28 (0, 0)), (b13, .cells #[.bool true, .int .i64 2, .int .i64 2, .string r11] 28 (0, 0)), (b18, .cells #[.bool true, .int .i64 1, .int .i64 1, .string r16] 28 (0, 0)), (b31, .cells #[.bool false, .int .i64 1, .int .i64 1, .string r29] 28 (0, 0))] [] ([Row 4 (pl api_Event.enc) noK (SkL.at b32 2 (fun _ => ())) ([(api_Event.mk true 1 1 r4), (api_Event.mk false 2 1 r4)] : List api_Event), Row 21 api_Gate.encS api_Gate.inK A3 r1] ++ Glob)) (fun st hM => ?_) (fun K6 => ?_)
  ·
    obtain ⟨x39, rfl⟩ : ∃ y, y = st := ⟨st, rfl⟩
    replace hM : gangwaylaw28_fixed.k6 k r1 r4 r11 r16 r29 x39 = some r := hM
    unfold gangwaylaw28_fixed.k6 at hM
    show WL _ _ _ _ _ [(0, .bool false), (1, slcV A3 r1.length), (3, .pointer (some ⟨b6, 0, none⟩)), (4, .pointer (some ⟨b7, 0, none⟩)), (5, .pointer (some ⟨b8, 0, none⟩)), (6, .pointer (some ⟨b13, 0, none⟩)), (7, .pointer (some ⟨b18, 0, none⟩)), (12, .pointer (some ⟨b31, 0, none⟩)), (54, .bool x39)] (Sat w Z [(b6, .cells #[.bool true, .int .i64 1, .int .i64 1, .string r4] 28 (0, 0)), (b7, .cells #[.bool false, .int .i64 2, .int .i64 1, .string r4] 28 (0, 0)), (b8, .cells #[.bool false, .int .i64 1, .int .i64 1, .string r4] 28 (0, 0)), (b13, .cells #[.bool true, .int .i64 2, .int .i64 2, .string r11] 28 (0, 0)), (b18, .cells #[.bool true, .int .i64 1, .int .i64 1, .string r16] 28 (0, 0)), (b31, .cells #[.bool false, .int .i64 1, .int .i64 1, .string r29] 28 (0, 0))] [] ([Row 4 (pl api_Event.enc) noK (SkL.at b32 2 (fun _ => ())) ([(api_Event.mk true 1 1 r4), (api_Event.mk false 2 1 r4)] : List api_Event), Row 21 api_Gate.encS api_Gate.inK A3 r1] ++ Glob))
    refine WL.rn 1 [] [(55, .bool x39)] ?_
    refine WL.join (σ := Bool) 7 (fun st => gangwaylaw28_fixed.k5 k r1 r11 r16 r29 r4 st = some r) (fun st => [(0, .bool false), (1, slcV A3 r1.length), (3, .pointer (some ⟨b6, 0, none⟩)), (4, .pointer (some ⟨b7, 0, none⟩)), (6, .pointer (some ⟨b13, 0, none⟩)), (7, .pointer (some ⟨b18, 0, none⟩)), (12, .pointer (some ⟨b31, 0, none⟩)), (62, .bool st)]) (fun st => Sat w Z [(b6, .cells #[.bool true, .int .i64 1, .int .i64 1, .string r4] 28 (0, 0)), (b7, .cells #[.bool false, .int .i64 2, .int .i64 1, .string r4] 28 (0, 0)), (b13, .cells #[.bool true, .int .i64 2, .int .i64 2, .string r11] 28 (0, 0)), (b18, .cells #[.bool true, .int .i64 1, .int .i64 1, .string r16] 28 (0, 0)), (b31, .cells #[.bool false, .int .i64 1, .int .i64 1, .string r29] 28 (0, 0))] [] ([Row 4 (pl api_Event.enc) noK (SkL.at b32 2 (fun _ => ())) ([(api_Event.mk true 1 1 r4), (api_Event.mk false 2 1 r4)] : List api_Event), Row 21 api_Gate.encS api_Gate.inK A3 r1] ++ Glob)) (fun st hM => ?_) (fun K5 => ?_)
    ·
      obtain ⟨x44, rfl⟩ : ∃ y, y = st := ⟨st, rfl⟩
      replace hM : gangwaylaw28_fixed.k5 k r1 r11 r16 r29 r4 x44 = some r := hM
      unfold gangwaylaw28_fixed.k5 at hM
      show WL _ _ _ _ _ [(0, .bool false), (1, slcV A3 r1.length), (3, .pointer (some ⟨b6, 0, none⟩)), (4, .pointer (some ⟨b7, 0, none⟩)), (6, .pointer (some ⟨b13, 0, none⟩)), (7, .pointer (some ⟨b18, 0, none⟩)), (12, .pointer (some ⟨b31, 0, none⟩)), (62, .bool x44)] (Sat w Z [(b6, .cells #[.bool true, .int .i64 1, .int .i64 1, .string r4] 28 (0, 0)), (b7, .cells #[.bool false, .int .i64 2, .int .i64 1, .string r4] 28 (0, 0)), (b13, .cells #[.bool true, .int .i64 2, .int .i64 2, .string r11] 28 (0, 0)), (b18, .cells #[.bool true, .int .i64 1, .int .i64 1, .string r16] 28 (0, 0)), (b31, .cells #[.bool false, .int .i64 1, .int .i64 1, .string r29] 28 (0, 0))] [] ([Row 4 (pl api_Event.enc) noK (SkL.at b32 2 (fun _ => ())) ([(api_Event.mk true 1 1 r4), (api_Event.mk false 2 1 r4)] : List api_Event), Row 21 api_Gate.encS api_Gate.inK A3 r1] ++ Glob))
      refine WL.rn 1 [] [(63, .bool x44)] ?_
      refine WL.join (σ := Bool) 8 (fun st => gangwaylaw28_fixed.k4 k r1 r16 r29 r11 r4 st = some r) (fun st => [(0, .bool false), (1, slcV A3 r1.length), (3, .pointer (some ⟨b6, 0, none⟩)), (4, .pointer (some ⟨b7, 0, none⟩)), (6, .pointer (some ⟨b13, 0, none⟩)), (7, .pointer (some ⟨b18, 0, none⟩)), (12, .pointer (some ⟨b31, 0, none⟩)), (71, .bool st)]) (fun st => Sat w Z [(b6, .cells #[.bool true, .int .i64 1, .int .i64 1, .string r4] 28 (0, 0)), (b7, .cells #[.bool false, .int .i64 2, .int .i64 1, .string r4] 28 (0, 0)), (b13, .cells #[.bool true, .int .i64 2, .int .i64 2, .string r11] 28 (0, 0)), (b18, .cells #[.bool true, .int .i64 1, .int .i64 1, .string r16] 28 (0, 0)), (b31, .cells #[.bool false, .int .i64 1, .int .i64 1, .string r29] 28 (0, 0))] [] ([Row 4 (pl api_Event.enc) noK (SkL.at b32 2 (fun _ => ())) ([(api_Event.mk true 1 1 r4), (api_Event.mk false 2 1 r4)] : List api_Event), Row 21 api_Gate.encS api_Gate.inK A3 r1] ++ Glob)) (fun st hM => ?_) (fun K4 => ?_)
      ·
        obtain ⟨x49, rfl⟩ : ∃ y, y = st := ⟨st, rfl⟩
        replace hM : gangwaylaw28_fixed.k4 k r1 r16 r29 r11 r4 x49 = some r := hM
        unfold gangwaylaw28_fixed.k4 at hM
        show WL _ _ _ _ _ [(0, .bool false), (1, slcV A3 r1.length), (3, .pointer (some ⟨b6, 0, none⟩)), (4, .pointer (some ⟨b7, 0, none⟩)), (6, .pointer (some ⟨b13, 0, none⟩)), (7, .pointer (some ⟨b18, 0, none⟩)), (12, .pointer (some ⟨b31, 0, none⟩)), (71, .bool x49)] (Sat w Z [(b6, .cells #[.bool true, .int .i64 1, .int .i64 1, .string r4] 28 (0, 0)), (b7, .cells #[.bool false, .int .i64 2, .int .i64 1, .string r4] 28 (0, 0)), (b13, .cells #[.bool true, .int .i64 2, .int .i64 2, .string r11] 28 (0, 0)), (b18, .cells #[.bool true, .int .i64 1, .int .i64 1, .string r16] 28 (0, 0)), (b31, .cells #[.bool false, .int .i64 1, .int .i64 1, .string r29] 28 (0, 0))] [] ([Row 4 (pl api_Event.enc) noK (SkL.at b32 2 (fun _ => ())) ([(api_Event.mk true 1 1 r4), (api_Event.mk false 2 1 r4)] : List api_Event), Row 21 api_Gate.encS api_Gate.inK A3 r1] ++ Glob))
        refine WL.rn 1 [] [(72, .bool x49)] ?_
        refine WL.join (σ := Bool) 8 (fun st => gangwaylaw28_fixed.k3 k r1 r4 st = some r) (fun st => [(0, .bool false), (1, slcV A3 r1.length), (3, .pointer (some ⟨b6, 0, none⟩)), (4, .pointer (some ⟨b7, 0, none⟩)), (80, .bool st)]) (fun st => Sat w Z [(b6, .cells #[.bool true, .int .i64 1, .int .i64 1, .string r4] 28 (0, 0)), (b7, .cells #[.bool false, .int .i64 2, .int .i64 1, .string r4] 28 (0, 0))] [] ([Row 4 (pl api_Event.enc) noK (SkL.at b32 2 (fun _ => ())) ([(api_Event.mk true 1 1 r4), (api_Event.mk false 2 1 r4)] : List api_Event), Row 21 api_Gate.encS api_Gate.inK A3 r1] ++ Glob)) (fun st hM => ?_) (fun K3 => ?_)
        ·
          obtain ⟨x54, rfl⟩ : ∃ y, y = st := ⟨st, rfl⟩
          replace hM : gangwaylaw28_fixed.k3 k r1 r4 x54 = some r := hM
          unfold gangwaylaw28_fixed.k3 at hM
          show WL _ _ _ _ _ [(0, .bool false), (1, slcV A3 r1.length), (3, .pointer (some ⟨b6, 0, none⟩)), (4, .pointer (some ⟨b7, 0, none⟩)), (80, .bool x54)] (Sat w Z [(b6, .cells #[.bool true, .int .i64 1, .int .i64 1, .string r4] 28 (0, 0)), (b7, .cells #[.bool false, .int .i64 2, .int .i64 1, .string r4] 28 (0, 0))] [] ([Row 4 (pl api_Event.enc) noK (SkL.at b32 2 (fun _ => ())) ([(api_Event.mk true 1 1 r4), (api_Event.mk false 2 1 r4)] : List api_Event), Row 21 api_Gate.encS api_Gate.inK A3 r1] ++ Glob))
          refine WL.rn 1 [] [(81, .bool x54)] ?_
          refine WL.join (σ := Bool) 5 (fun st => gangwaylaw28_fixed.k2 k r1 r4 st = some r) (fun st => [(0, .bool false), (1, slcV A3 r1.length), (3, .pointer (some ⟨b6, 0, none⟩)), (86, .bool st)]) (fun st => Sat w Z [(b6, .cells #[.bool true, .int .i64 1, .int .i64 1, .string r4] 28 (0, 0))] [] ([Row 4 (pl api_Event.enc) noK (SkL.at b32 2 (fun _ => ())) ([(api_Event.mk true 1 1 r4), (api_Event.mk false 2 1 r4)] : List api_Event), Row 21 api_Gate.encS api_Gate.inK A3 r1] ++ Glob)) (fun st hM => ?_) (fun K2 => ?_)
          ·
            obtain ⟨x58, rfl⟩ : ∃ y, y = st := ⟨st, rfl⟩
            replace hM : gangwaylaw28_fixed.k2 k r1 r4 x58 = some r := hM
            unfold gangwaylaw28_fixed.k2 at hM
            show WL _ _ _ _ _ [(0, .bool false), (1, slcV A3 r1.length), (3, .pointer (some ⟨b6, 0, none⟩)), (86, .bool x58)] (Sat w Z [(b6, .cells #[.bool true, .int .i64 1, .int .i64 1, .string r4] 28 (0, 0))] [] ([Row 4 (pl api_Event.enc) noK (SkL.at b32 2 (fun _ => ())) ([(api_Event.mk true 1 1 r4), (api_Event.mk false 2 1 r4)] : List api_Event), Row 21 api_Gate.encS api_Gate.inK A3 r1] ++ Glob))
            refine WL.rn 1 [] [(87, .bool x58)] ?_
            refine WL.join (σ := Bool) 6 (fun st => gangwaylaw28_fixed.k1 st = some r) (fun st => [(0, .bool false), (93, .bool st)]) (fun st => Sat w Z [] [] ([Row 4 (pl api_Event.enc) noK (SkL.at b32 2 (fun _ => ())) ([(api_Event.mk true 1 1 r4), (api_Event.mk false 2 1 r4)] : List api_Event), Row 21 api_Gate.encS api_Gate.inK A3 r1] ++ Glob)) (fun st hM => ?_) (fun K1 => ?_)
            ·
              obtain ⟨x62, rfl⟩ : ∃ y, y = st := ⟨st, rfl⟩
              replace hM : gangwaylaw28_fixed.k1 x62 = some r := hM
              unfold gangwaylaw28_fixed.k1 at hM
              show WL _ _ _ _ _ [(0, .bool false), (93, .bool x62)] (Sat w Z [] [] ([Row 4 (pl api_Event.enc) noK (SkL.at b32 2 (fun _ => ())) ([(api_Event.mk true 1 1 r4), (api_Event.mk false 2 1 r4)] : List api_Event), Row 21 api_Gate.encS api_Gate.inK A3 r1] ++ Glob))
              refine WL.rn 1 [] [(0, .bool x62)] ?_
              refine WP.done ?_
              obtain rfl := Option.some.inj hM
              exact WP.ret [] [] (.bool x62) (by kernel_rfl) (fun w' hw => ⟨rfl, (hw.pick [] rfl).less (fun _ h => List.mem_append_right _ h)⟩)
            ·
              refine WL.sp 87 x58 (fun c59 => ?_) (fun c59 => ?_)
              · replace hM := cond_t hM c59
                refine WL.rn 3 [0, 0, 0, 0] [(88, slcV A3 r1.length), (89, .agg #[.bool true, .int .i64 1, .int .i64 1, .string r4]), (90, .agg #[.bool false, .int .i64 3, .int .i64 0, .string (⟨#[]⟩ : ByteArray)])] ?_
                obtain ⟨r60, h61, hM⟩ := bind_some hM
                refine WL.callP [] [] (trace_Same_calls k A3 r1 (api_Event.mk true 1 1 r4) (api_Event.mk false 3 0 (⟨#[]⟩ : ByteArray)) _ h61) (sub_pick [1] (by kernel_rfl)) (by kernel_rfl) (by kernel_rfl) rfl ?_
                refine WL.rn 2 [] [(93, .bool (!r60))] ?_
                exact WL.sub [0, 93] (by kernel_rfl) (WL.pick [] (by kernel_rfl) (by kernel_rfl) (WL.lessF [0, 1] (by kernel_rfl) (K1 (!r60) hM)))
              · replace hM := cond_f hM c59
                refine WL.rn 6 [] [(93, .bool false)] ?_
                exact WL.sub [0, 93] (by kernel_rfl) (WL.pick [] (by kernel_rfl) (by kernel_rfl) (WL.lessF [0, 1] (by kernel_rfl) (K1 false hM)))
          ·
            refine WL.sp 81 x54 (fun c55 => ?_) (fun c55 => ?_)
            · replace hM := cond_t hM c55
              refine WL.rn 3 [0, 0, 0, 0, 1, 1, 1, 1] [(82, slcV A3 r1.length), (83, .agg #[.bool true, .int .i64 1, .int .i64 1, .string r4]), (84, .agg #[.bool false, .int .i64 2, .int .i64 1, .string r4])] ?_
              obtain ⟨r56, h57, hM⟩ := bind_some hM
              refine WL.callP [] [] (trace_Same_calls k A3 r1 (api_Event.mk true 1 1 r4) (api_Event.mk false 2 1 r4) _ h57) (sub_pick [1] (by kernel_rfl)) (by kernel_rfl) (by kernel_rfl) rfl ?_
              refine WL.rn 1 [] [(86, .bool r56)] ?_
              exact WL.sub [0, 1, 3, 86] (by kernel_rfl) (WL.pick [0] (by kernel_rfl) (by kernel_rfl) (WL.lessF [0, 1] (by kernel_rfl) (K2 r56 hM)))
            · replace hM := cond_f hM c55
              refine WL.rn 5 [] [(86, .bool false)] ?_
              exact WL.sub [0, 1, 3, 86] (by kernel_rfl) (WL.pick [0] (by kernel_rfl) (by kernel_rfl) (WL.lessF [0, 1] (by kernel_rfl) (K2 false hM)))
        ·
          refine WL.sp 72 x49 (fun c50 => ?_) (fun c50 => ?_)
          · replace hM := cond_t hM c50
            refine WL.rh 5 [3, 3, 3, 3, 4, 4, 4, 4, 2, 2, 2, 2] (fun b51 => [(73, slcV A3 r1.length), (77, .slice (some ⟨b51, 0, none⟩) 3 3)]) (fun b51 => []) (fun b51 => [(b51, .cells #[.bool true, .int .i64 1, .int .i64 1, .string r16, .bool false, .int .i64 1, .int .i64 1, .string r29, .bool true, .int .i64 2, .int .i64 2, .string r11] 28 (0, 0))]) (fun b51 => ?_)
            refine WL.ice (H' := [(b6, .cells #[.bool true, .int .i64 1, .int .i64 1, .string r4] 28 (0, 0)), (b7, .cells #[.bool false, .int .i64 2, .int .i64 1, .string r4] 28 (0, 0)), (b13, .cells #[.bool true, .int .i64 2, .int .i64 2, .string r11] 28 (0, 0)), (b18, .cells #[.bool true, .int .i64 1, .int .i64 1, .string r16] 28 (0, 0)), (b31, .cells #[.bool false, .int .i64 1, .int .i64 1, .string r29] 28 (0, 0))]) (Row 4 (pl api_Event.enc) noK (SkL.at b51 3 (fun _ => ())) ([(api_Event.mk true 1 1 r16), (api_Event.mk false 1 1 r29), (api_Event.mk true 2 2 r11)] : List api_Event)) 5 (b := b51) (ob := .cells #[.bool true, .int .i64 1, .int .i64 1, .string r16, .bool false, .int .i64 1, .int .i64 1, .string r29, .bool true, .int .i64 2, .int .i64 2, .string r11] 28 (0, 0)) (by kernel_rfl) [] [] (by kernel_rfl) (fun w hb hψ => row_of_block hb (fun _ _ => rfl) ⟨[], by kernel_rfl⟩ (Nat.le_of_ble_eq_true rfl) (InK.no _ _)) (by kernel_rfl) ?_
            obtain ⟨r52, h53, hM⟩ := bind_some hM
            refine WL.callP [] [] (trace_First_calls k A3 (SkL.at b51 3 (fun _ => ())) r1 ([(api_Event.mk true 1 1 r16), (api_Event.mk false 1 1 r29), (api_Event.mk true 2 2 r11)] : List api_Event) _ h53) (sub_pick [2, 0] (by kernel_rfl)) (by kernel_rfl) (by kernel_rfl) rfl ?_
            refine WL.rn 2 [] [(80, .bool (r52 == 1))] ?_
            exact WL.sub [0, 1, 3, 4, 80] (by kernel_rfl) (WL.pick [0, 1] (by kernel_rfl) (by kernel_rfl) (WL.lessF [1, 2] (by kernel_rfl) (K3 (r52 == 1) hM)))
          · replace hM := cond_f hM c50
            refine WL.rn 8 [] [(80, .bool false)] ?_
            exact WL.sub [0, 1, 3, 4, 80] (by kernel_rfl) (WL.pick [0, 1] (by kernel_rfl) (by kernel_rfl) (WL.lessF [0, 1] (by kernel_rfl) (K3 false hM)))
      ·
        refine WL.sp 63 x44 (fun c45 => ?_) (fun c45 => ?_)
        · replace hM := cond_t hM c45
          refine WL.rh 5 [2, 2, 2, 2, 3, 3, 3, 3, 4, 4, 4, 4] (fun b46 => [(64, slcV A3 r1.length), (68, .slice (some ⟨b46, 0, none⟩) 3 3)]) (fun b46 => []) (fun b46 => [(b46, .cells #[.bool true, .int .i64 2, .int .i64 2, .string r11, .bool true, .int .i64 1, .int .i64 1, .string r16, .bool false, .int .i64 1, .int .i64 1, .string r29] 28 (0, 0))]) (fun b46 => ?_)
          refine WL.ice (H' := [(b6, .cells #[.bool true, .int .i64 1, .int .i64 1, .string r4] 28 (0, 0)), (b7, .cells #[.bool false, .int .i64 2, .int .i64 1, .string r4] 28 (0, 0)), (b13, .cells #[.bool true, .int .i64 2, .int .i64 2, .string r11] 28 (0, 0)), (b18, .cells #[.bool true, .int .i64 1, .int .i64 1, .string r16] 28 (0, 0)), (b31, .cells #[.bool false, .int .i64 1, .int .i64 1, .string r29] 28 (0, 0))]) (Row 4 (pl api_Event.enc) noK (SkL.at b46 3 (fun _ => ())) ([(api_Event.mk true 2 2 r11), (api_Event.mk true 1 1 r16), (api_Event.mk false 1 1 r29)] : List api_Event)) 5 (b := b46) (ob := .cells #[.bool true, .int .i64 2, .int .i64 2, .string r11, .bool true, .int .i64 1, .int .i64 1, .string r16, .bool false, .int .i64 1, .int .i64 1, .string r29] 28 (0, 0)) (by kernel_rfl) [] [] (by kernel_rfl) (fun w hb hψ => row_of_block hb (fun _ _ => rfl) ⟨[], by kernel_rfl⟩ (Nat.le_of_ble_eq_true rfl) (InK.no _ _)) (by kernel_rfl) ?_
          obtain ⟨r47, h48, hM⟩ := bind_some hM
          refine WL.callP [] [] (trace_First_calls k A3 (SkL.at b46 3 (fun _ => ())) r1 ([(api_Event.mk true 2 2 r11), (api_Event.mk true 1 1 r16), (api_Event.mk false 1 1 r29)] : List api_Event) _ h48) (sub_pick [2, 0] (by kernel_rfl)) (by kernel_rfl) (by kernel_rfl) rfl ?_
          refine WL.rn 2 [] [(71, .bool (r47 == (-1)))] ?_
          exact WL.sub [0, 1, 3, 4, 6, 7, 12, 71] (by kernel_rfl) (WL.pick [0, 1, 2, 3, 4] (by kernel_rfl) (by kernel_rfl) (WL.lessF [1, 2] (by kernel_rfl) (K4 (r47 == (-1)) hM)))
        · replace hM := cond_f hM c45
          refine WL.rn 8 [] [(71, .bool false)] ?_
          exact WL.sub [0, 1, 3, 4, 6, 7, 12, 71] (by kernel_rfl) (WL.pick [0, 1, 2, 3, 4] (by kernel_rfl) (by kernel_rfl) (WL.lessF [0, 1] (by kernel_rfl) (K4 false hM)))
    ·
      refine WL.sp 55 x39 (fun c40 => ?_) (fun c40 => ?_)
      · replace hM := cond_t hM c40
        refine WL.rh 4 [0, 0, 0, 0, 2, 2, 2, 2] (fun b41 => [(56, slcV A3 r1.length), (59, .slice (some ⟨b41, 0, none⟩) 2 2)]) (fun b41 => []) (fun b41 => [(b41, .cells #[.bool true, .int .i64 1, .int .i64 1, .string r4, .bool false, .int .i64 1, .int .i64 1, .string r4] 28 (0, 0))]) (fun b41 => ?_)
        refine WL.ice (H' := [(b6, .cells #[.bool true, .int .i64 1, .int .i64 1, .string r4] 28 (0, 0)), (b7, .cells #[.bool false, .int .i64 2, .int .i64 1, .string r4] 28 (0, 0)), (b8, .cells #[.bool false, .int .i64 1, .int .i64 1, .string r4] 28 (0, 0)), (b13, .cells #[.bool true, .int .i64 2, .int .i64 2, .string r11] 28 (0, 0)), (b18, .cells #[.bool true, .int .i64 1, .int .i64 1, .string r16] 28 (0, 0)), (b31, .cells #[.bool false, .int .i64 1, .int .i64 1, .string r29] 28 (0, 0))]) (Row 4 (pl api_Event.enc) noK (SkL.at b41 2 (fun _ => ())) ([(api_Event.mk true 1 1 r4), (api_Event.mk false 1 1 r4)] : List api_Event)) 6 (b := b41) (ob := .cells #[.bool true, .int .i64 1, .int .i64 1, .string r4, .bool false, .int .i64 1, .int .i64 1, .string r4] 28 (0, 0)) (by kernel_rfl) [] [] (by kernel_rfl) (fun w hb hψ => row_of_block hb (fun _ _ => rfl) ⟨[], by kernel_rfl⟩ (Nat.le_of_ble_eq_true rfl) (InK.no _ _)) (by kernel_rfl) ?_
        obtain ⟨r42, h43, hM⟩ := bind_some hM
        refine WL.callP [] [] (trace_First_calls k A3 (SkL.at b41 2 (fun _ => ())) r1 ([(api_Event.mk true 1 1 r4), (api_Event.mk false 1 1 r4)] : List api_Event) _ h43) (sub_pick [2, 0] (by kernel_rfl)) (by kernel_rfl) (by kernel_rfl) rfl ?_
        refine WL.rn 2 [] [(62, .bool (r42 == 1))] ?_
        exact WL.sub [0, 1, 3, 4, 6, 7, 12, 62] (by kernel_rfl) (WL.pick [0, 1, 3, 4, 5] (by kernel_rfl) (by kernel_rfl) (WL.lessF [1, 2] (by kernel_rfl) (K5 (r42 == 1) hM)))
      · replace hM := cond_f hM c40
        refine WL.rn 7 [] [(62, .bool false)] ?_
        exact WL.sub [0, 1, 3, 4, 6, 7, 12, 62] (by kernel_rfl) (WL.pick [0, 1, 3, 4, 5] (by kernel_rfl) (by kernel_rfl) (WL.lessF [0, 1] (by kernel_rfl) (K5 false hM)))
  ·
    refine WL.sp 47 (r33 == (-1)) (fun c35 => ?_) (fun c35 => ?_)
    · replace hM := cond_t hM c35
      refine WL.rh 4 [1, 1, 1, 1, 0, 0, 0, 0] (fun b36 => [(48, slcV A3 r1.length), (51, .slice (some ⟨b36, 0, none⟩) 2 2)]) (fun b36 => []) (fun b36 => [(b36, .cells #[.bool false, .int .i64 2, .int .i64 1, .string r4, .bool true, .int .i64 1, .int .i64 1, .string r4] 28 (0, 0))]) (fun b36 => ?_)
      refine WL.ice (H' := [(b6, .cells #[.bool true, .int .i64 1, .int .i64 1, .string r4] 28 (0, 0)), (b7, .cells #[.bool false, .int .i64 2, .int .i64 1, .string r4] 28 (0, 0)), (b8, .cells #[.bool false, .int .i64 1, .int .i64 1, .string r4] 28 (0, 0)), (b13, .cells #[.bool true, .int .i64 2, .int .i64 2, .string r11] 28 (0, 0)), (b18, .cells #[.bool true, .int .i64 1, .int .i64 1, .string r16] 28 (0, 0)), (b31, .cells #[.bool false, .int .i64 1, .int .i64 1, .string r29] 28 (0, 0))]) (Row 4 (pl api_Event.enc) noK (SkL.at b36 2 (fun _ => ())) ([(api_Event.mk false 2 1 r4), (api_Event.mk true 1 1 r4)] : List api_Event)) 6 (b := b36) (ob := .cells #[.bool false, .int .i64 2, .int .i64 1, .string r4, .bool true, .int .i64 1, .int .i64 1, .string r4] 28 (0, 0)) (by kernel_rfl) [] [] (by kernel_rfl) (fun w hb hψ => row_of_block hb (fun _ _ => rfl) ⟨[], by kernel_rfl⟩ (Nat.le_of_ble_eq_true rfl) (InK.no _ _)) (by kernel_rfl) ?_
      obtain ⟨r37, h38, hM⟩ := bind_some hM
      refine WL.callP [] [] (trace_First_calls k A3 (SkL.at b36 2 (fun _ => ())) r1 ([(api_Event.mk false 2 1 r4), (api_Event.mk true 1 1 r4)] : List api_Event) _ h38) (sub_pick [2, 0] (by kernel_rfl)) (by kernel_rfl) (by kernel_rfl) rfl ?_
      refine WL.rn 2 [] [(54, .bool (r37 == 0))] ?_
      exact WL.sub [0, 1, 3, 4, 5, 6, 7, 12, 54] (by kernel_rfl) (WL.pick [0, 1, 2, 3, 4, 5] (by kernel_rfl) (by kernel_rfl) (WL.lessF [1, 2] (by kernel_rfl) (K6 (r37 == 0) hM)))
    · replace hM := cond_f hM c35
      refine WL.rn 7 [] [(54, .bool false)] ?_
      exact WL.sub [0, 1, 3, 4, 5, 6, 7, 12, 54] (by kernel_rfl) (WL.pick [0, 1, 2, 3, 4, 5] (by kernel_rfl) (by kernel_rfl) (WL.lessF [0, 1] (by kernel_rfl) (K6 false hM)))

end Go.Proofs.YtbbekdmndifkpaaGreatDoor

namespace Go.Proofs.YtbbekdmndifkpaaGreatDoor
open Go Eng
set_option linter.unusedVariables false
set_option linter.unusedSimpArgs false

/-! ### gangway/gangwaylaw28.TraceAhead: function 3 -/
def gangwaylaw28_TraceAhead.k2 (x44 : Bool) : Option (Bool) :=
  some x44

def gangwaylaw28_TraceAhead.k3 (k : Nat) (x40 : Bool) : Option (Bool) :=
  bif x40 then
    (gangwaylaw28_fixed.f k).bind fun r42 =>
    gangwaylaw28_TraceAhead.k2 r42
  else
    gangwaylaw28_TraceAhead.k2 false

def gangwaylaw28_TraceAhead.k4 (r2 : (List api_Event)) (k : Nat) (r1 : (List api_Gate)) (r12 : Int) (x32 : (List api_Event)) : Option (Bool) :=
  (roomL 40 (x32 ++ r2).length).bind fun u35 =>
  (trace_First.f k r1 (x32 ++ r2)).bind fun r37 =>
  bif decide (r37 < 0) then
    gangwaylaw28_TraceAhead.k3 k true
  else
    gangwaylaw28_TraceAhead.k3 k ((decide (r12 ≥ 0)) && (decide ((i64 (r37 - (x32.length : Int))) ≥ r12)))

def gangwaylaw28_TraceAhead.k1 (r2 : (List api_Event)) (t5 : Int) (k : Nat) (r1 : (List api_Gate)) (r12 : Int) (x19 : Bool) : Option (Bool) :=
  bif x19 then
    some false
  else
    bif decide ((r2.length : Int) > 0) then
      (remI t5 (r2.length : Int)).bind fun t23 =>
      (getL r2.length r2 t23).bind fun t25 =>
      (roomL 40 ([(api_Event.mk true t25.Gate t25.Port t25.S)] : List api_Event).length).bind fun u30 =>
      gangwaylaw28_TraceAhead.k4 r2 k r1 r12 ([(api_Event.mk true t25.Gate t25.Port t25.S)] : List api_Event)
    else
      gangwaylaw28_TraceAhead.k4 r2 k r1 r12 ([] : List api_Event)

def gangwaylaw28_TraceAhead.f (k : Nat) (a0 : (List api_Gate)) (a1 : (List api_Event)) (a2 : Int) : Option (Bool) :=
  (gangwaylaw28_bound.f k a0 a1).bind fun (r1, r2) =>
  (remI (bAnd .i64 a2 65535) (i64 ((r2.length : Int) + 1))).bind fun t5 =>
  (trace_First.f k r1 r2).bind fun r12 =>
  (sliceL r2 0 t5).bind fun t14 =>
  (trace_First.f k r1 t14).bind fun r16 =>
  bif (((decide (r12 ≥ 0)) && (decide (r12 < t5))) && (r16 != r12)) then
    gangwaylaw28_TraceAhead.k1 r2 t5 k r1 r12 true
  else
    gangwaylaw28_TraceAhead.k1 r2 t5 k r1 r12 (((decide (r12 < 0)) || (decide (r12 ≥ t5))) && (r16 != (-1)))

set_option maxRecDepth 100000 in
theorem gangwaylaw28_TraceAhead_calls (k : Nat) (A00 : SkL ((SkL (SkL Unit)) × (SkL Unit) × (SkL (SkL Unit)) × (SkL Unit))) (A01 : SkL Unit) (a0 : (List api_Gate)) (a1 : (List api_Event)) (a2 : Int) (r : Bool) (h : gangwaylaw28_TraceAhead.f k a0 a1 a2 = some r) : Pure Tryz.prog ([Row 21 api_Gate.encS api_Gate.inK A00 a0, Row 4 (pl api_Event.enc) noK A01 a1] ++ Glob) 3 #[slcV A00 a0.length, slcV A01 a1.length, .int .i64 a2] (.bool r) := by
  intro w Z hS
  refine calls_of (args := [slcV A00 a0.length, slcV A01 a1.length, .int .i64 a2]) (L := [(0, slcV A00 a0.length), (1, slcV A01 a1.length), (2, .int .i64 a2)]) (N := 101) (S := Sat w Z [] [] ([Row 21 api_Gate.encS api_Gate.inK A00 a0, Row 4 (pl api_Event.enc) noK A01 a1] ++ Glob)) Tryz.func3 rfl rfl (Nat.le_of_ble_eq_true rfl) rfl hS ?_
  have hM := h
  clear h hS
  unfold gangwaylaw28_TraceAhead.f at hM
  refine WP.seq ?_
  refine WP.rn [] [(6, .bool false)] ?_
  refine WP.seq ?_
  refine WP.region ?_
  refine WL.rn 2 [] [(17, slcV A00 a0.length), (18, slcV A01 a1.length)] ?_
  obtain ⟨⟨r1, r2⟩, h3, hM⟩ := bind_some hM
  dsimp only at hM
  refine WL.callX (F0 := [Row 21 api_Gate.encS api_Gate.inK A00 a0, Row 4 (pl api_Event.enc) noK A01 a1]) [] [] [] (fun _ => _) [0, 1] (by kernel_rfl) (gangwaylaw28_bound_calls k A00 A01 a0 a1 _ h3) rfl rfl (by kernel_rfl) (by kernel_rfl) (fun _ => rfl) (fun A4 => ?_)
  refine WL.rn 5 [] [(7, slcV A4.1 r1.length), (8, slcV A4.2 r2.length)] ?_
  refine WP.done ?_
  refine WP.seq ?_
  refine WP.region ?_
  refine WL.rn 5 [] [(23, .int .i64 (bAnd .i64 a2 65535)), (26, .int .i64 (i64 ((r2.length : Int) + 1)))] ?_
  obtain ⟨t5, h6, hM⟩ := bind_some hM
  refine WL.val (fun _ => run_rem (k := .i64) (a := bAnd .i64 a2 65535) (b := i64 ((r2.length : Int) + 1)) (by kernel_rfl) (by kernel_rfl) h6) (by kernel_rfl) (by kernel_rfl) rfl ?_
  refine WL.rn 1 [] [(9, .int .i64 t5)] ?_
  refine WP.done ?_
  refine WP.seq ?_
  obtain ⟨r12, h13, hM⟩ := bind_some hM
  obtain ⟨t14, h15, hM⟩ := bind_some hM
  refine WP.sub [6, 7, 8, 9] (L' := [(6, .bool false), (7, slcV A4.1 r1.length), (8, slcV A4.2 r2.length), (9, .int .i64 t5)]) (by kernel_rfl) ?_
  refine WP.mixed (X := Unit) 7 [.val (slcV A4.1 r1.length), .val (slcV A4.2 r2.length), .val (.int .i64 r12), .val (slcV A4.1 r1.length), .val (slcV A4.2 r2.length), .val (.int .i64 t5), .val (slcV (A4.2.cut 0 4) t14.length)] [] [] (by kernel_rfl) (by kernel_rfl) (by kernel_rfl) (by kernel_rfl) (Heads.val (fun tt Ψ => OpV.run [] [] (by kernel_rfl) (fun _ => by kernel_rfl)) (Heads.val (fun tt Ψ => OpV.run [] [] (by kernel_rfl) (fun _ => by kernel_rfl)) (Heads.val (fun tt Ψ => OpV.callF [] [] (app2 (mem2 (List.mem_append_right _ (fact_at 0 rfl)) (mem2 (List.mem_append_right _ (fact_at 1 rfl)) no_facts)) (fun _ h => (List.mem_append_right _ (List.mem_append_right _ h)))) (trace_First_calls k A4.1 A4.2 r1 r2 _ h13)  (fun _ => by kernel_rfl)) (Heads.val (fun tt Ψ => OpV.run [] [] (by kernel_rfl) (fun _ => by kernel_rfl)) (Heads.val (fun tt Ψ => OpV.run [] [] (by kernel_rfl) (fun _ => by kernel_rfl)) (Heads.val (fun tt Ψ => OpV.run [] [] (by kernel_rfl) (fun _ => by kernel_rfl)) (Heads.val (fun tt Ψ => OpV.valF (φ := Row 4 (pl api_Event.enc) noK A4.2 r2) (List.mem_append_right _ (fact_at 1 rfl)) (fun w hR => run_sliceRow_hi (A := A4.2) (xs := r2) (r := t14) (kh := .i64) (h := t5) (e := 28) (m := 4) (by kernel_rfl) (by kernel_rfl) hR.ptr h15 (by kernel_rfl) (by kernel_rfl)) (by kernel_rfl)) Heads.nil))))))) (fun s11 tt => [(28, slcV A4.1 r1.length), (29, slcV A4.2 r2.length), (30, .int .i64 r12), (31, slcV A4.1 r1.length), (32, slcV A4.2 r2.length), (33, .int .i64 t5), (34, slcV (A4.2.cut 0 4) t14.length), (6, .bool false), (7, slcV A4.1 r1.length), (8, slcV A4.2 r2.length), (9, .int .i64 t5)]) (fun s11 tt => []) (fun tt => ([] ++ [Row 21 api_Gate.encS api_Gate.inK A4.1 r1, Row 4 (pl api_Event.enc) noK A4.2 r2, Row 21 api_Gate.encS api_Gate.inK A00 a0, Row 4 (pl api_Event.enc) noK A01 a1]) ++ Glob) (fun _ _ => by kernel_rfl) (fun _ _ => by kernel_rfl) (fun _ => by kernel_rfl) (fun s11 tt => ?_)
  refine WL.know (Row 4 (pl api_Event.enc) noK (A4.2.cut 0 4) t14) [1] [Row 4 (pl api_Event.enc) noK A4.2 r2] (by kernel_rfl) (fun w hψ => (hψ _ (List.mem_singleton.2 rfl)).cut h15) ?_
  obtain ⟨r16, h17, hM⟩ := bind_some hM
  refine WL.callP [] [] (trace_First_calls k A4.1 (A4.2.cut 0 4) r1 t14 _ h17) (sub_pick [1, 0] (by kernel_rfl)) (by kernel_rfl) (by kernel_rfl) rfl ?_
  refine WL.rn 2 [] [(10, .int .i64 r12), (11, .int .i64 r16)] ?_
  refine WP.done ?_
  refine WP.seq ?_
  refine WP.seq ?_
  refine WP.region ?_
  refine WL.rn 3 [] [(38, .bool (decide (r12 ≥ 0)))] ?_
  refine WL.bo 38 (decide (r12 ≥ 0)) 4 [] [] (fun b' => [(42, .bool (b' && (decide (r12 < t5))))]) ?_
  refine WL.rn 1 [] [(43, .bool ((decide (r12 ≥ 0)) && (decide (r12 < t5))))] ?_
  refine WL.bo 43 ((decide (r12 ≥ 0)) && (decide (r12 < t5))) 4 [] [] (fun b' => [(47, .bool (b' && (r16 != r12)))]) ?_
  refine WL.rn 1 [] [(48, .bool (((decide (r12 ≥ 0)) && (decide (r12 < t5))) && (r16 != r12)))] ?_
  refine WL.join (σ := Bool) 12 (fun st => gangwaylaw28_TraceAhead.k1 r2 t5 k r1 r12 st = some r) (fun st => [(6, .bool false), (7, slcV A4.1 r1.length), (8, slcV A4.2 r2.length), (9, .int .i64 t5), (10, .int .i64 r12), (60, .bool st)]) (fun st => Sat w Z [] [] ([Row 4 (pl api_Event.enc) noK (A4.2.cut 0 4) t14, Row 21 api_Gate.encS api_Gate.inK A4.1 r1, Row 4 (pl api_Event.enc) noK A4.2 r2, Row 21 api_Gate.encS api_Gate.inK A00 a0, Row 4 (pl api_Event.enc) noK A01 a1] ++ Glob)) (fun st hM => ?_) (fun K1 => ?_)
  ·
    obtain ⟨x19, rfl⟩ : ∃ y, y = st := ⟨st, rfl⟩
    replace hM : gangwaylaw28_TraceAhead.k1 r2 t5 k r1 r12 x19 = some r := hM
    unfold gangwaylaw28_TraceAhead.k1 at hM
    show WL _ _ _ _ _ [(6, .bool false), (7, slcV A4.1 r1.length), (8, slcV A4.2 r2.length), (9, .int .i64 t5), (10, .int .i64 r12), (60, .bool x19)] (Sat w Z [] [] ([Row 4 (pl api_Event.enc) noK (A4.2.cut 0 4) t14, Row 21 api_Gate.encS api_Gate.inK A4.1 r1, Row 4 (pl api_Event.enc) noK A4.2 r2, Row 21 api_Gate.encS api_Gate.inK A00 a0, Row 4 (pl api_Event.enc) noK A01 a1] ++ Glob))
    refine WP.done ?_
    refine WP.cond x19 rfl rfl (fun c20 => ?_) (fun c20 => ?_)
    · replace hM := cond_t hM c20
      refine WP.seq ?_
      refine WP.rn [] [(6, .bool false)] ?_
      obtain rfl := Option.some.inj hM
      exact WP.ret [] [] (.bool false) (by kernel_rfl) (fun w' hw => ⟨rfl, (hw.pick [] rfl).lessF [3, 4] (by kernel_rfl)⟩)
    · replace hM := cond_f hM c20
      refine WP.skip ?_
      refine WP.seq ?_
      refine WP.rh [] (fun b21 => [(12, .slice (some ⟨b21, 0, none⟩) 0 0)]) (fun b21 => []) (fun b21 => [(b21, .cells #[] 28 (0, 0))]) (fun b21 => ?_)
      refine WP.seqJoin (σ := (List api_Event) × SkL Unit) (fun st => gangwaylaw28_TraceAhead.k4 r2 k r1 r12 st.1 = some r) (fun st => [(6, .bool false), (7, slcV A4.1 r1.length), (8, slcV A4.2 r2.length), (10, .int .i64 r12), (12, slcV st.2 st.1.length)]) (fun st => Sat w Z [] [OwnR 4 28 (pl api_Event.enc) st.2 st.1] ([GIn noK st.2 st.1, GIn noK (SkL.at b21 0 (fun _ => ())) ([] : List api_Event), Row 4 (pl api_Event.enc) noK (A4.2.cut 0 4) t14, Row 21 api_Gate.encS api_Gate.inK A4.1 r1, Row 4 (pl api_Event.enc) noK A4.2 r2, Row 21 api_Gate.encS api_Gate.inK A00 a0, Row 4 (pl api_Event.enc) noK A01 a1] ++ Glob)) (fun st hM => ?_) (fun K4 => ?_)
      ·
        obtain ⟨x32, A33⟩ := st
        replace hM : gangwaylaw28_TraceAhead.k4 r2 k r1 r12 x32 = some r := hM
        unfold gangwaylaw28_TraceAhead.k4 at hM
        show WP _ _ _ _ _ [(6, .bool false), (7, slcV A4.1 r1.length), (8, slcV A4.2 r2.length), (10, .int .i64 r12), (12, slcV A33 x32.length)] (Sat w Z [] [OwnR 4 28 (pl api_Event.enc) A33 x32] ([GIn noK A33 x32, GIn noK (SkL.at b21 0 (fun _ => ())) ([] : List api_Event), Row 4 (pl api_Event.enc) noK (A4.2.cut 0 4) t14, Row 21 api_Gate.encS api_Gate.inK A4.1 r1, Row 4 (pl api_Event.enc) noK A4.2 r2, Row 21 api_Gate.encS api_Gate.inK A00 a0, Row 4 (pl api_Event.enc) noK A01 a1] ++ Glob))
        refine WP.seq ?_
        refine WP.rn [] [(14, .int .i64 (x32.length : Int))] ?_
        refine WP.seq ?_
        refine WP.region ?_
        refine WL.rn 2 [] [(79, slcV A33 x32.length), (80, slcV A4.2 r2.length)] ?_
        obtain ⟨u35, h34, hM⟩ := bind_some hM
        refine WL.growApp (G' := []) (A := A33) (B := A4.2) (xs := x32) (ys := r2) (m := 4) (by_ := 40) (e := 28) (z := .agg #[.bool false, .int .i64 0, .int .i64 0, .string (⟨#[]⟩ : ByteArray)]) (f := (pl api_Event.enc)) (K := noK) (d := 81) 0 rfl rfl (by kernel_rfl) (by kernel_rfl) (by kernel_rfl) (by kernel_rfl) (by kernel_rfl) (fun _ _ => rfl) (fun _ _ => rfl) (by kernel_rfl) (by kernel_rfl) (by kernel_rfl) (by kernel_rfl) (by kernel_rfl) (fact_at 0 rfl) (fact_at 4 rfl) h34 (by kernel_rfl) (fun A36 => ?_)
        refine WL.less (Φ' := [GIn noK A36 (x32 ++ r2), GIn noK A33 x32, GIn noK (SkL.at b21 0 (fun _ => ())) ([] : List api_Event), Row 4 (pl api_Event.enc) noK (A4.2.cut 0 4) t14, Row 21 api_Gate.encS api_Gate.inK A4.1 r1, Row 4 (pl api_Event.enc) noK A4.2 r2, Row 21 api_Gate.encS api_Gate.inK A00 a0, Row 4 (pl api_Event.enc) noK A01 a1] ++ Glob) (fun _ h => h) ?_
        refine WL.rn 1 [] [(12, slcV A36 (x32 ++ r2).length)] ?_
        refine WP.done ?_
        refine WP.seq ?_
        refine WP.region ?_
        refine WL.rn 2 [] [(82, slcV A4.1 r1.length), (83, slcV A36 (x32 ++ r2).length)] ?_
        refine WL.growIce (G' := []) (m := 4) (e := 28) (f := (pl api_Event.enc)) (K := noK) (A := A36) (xs := (x32 ++ r2)) 0 0 (by kernel_rfl) (by kernel_rfl) (fun _ _ => rfl) (by kernel_rfl) ?_
        obtain ⟨r37, h38, hM⟩ := bind_some hM
        refine WL.callP [] [] (trace_First_calls k A4.1 A36 r1 (x32 ++ r2) _ h38) (sub_pick [5, 0] (by kernel_rfl)) (by kernel_rfl) (by kernel_rfl) rfl ?_
        refine WL.rn 1 [] [(15, .int .i64 r37)] ?_
        refine WP.done ?_
        refine WP.seq ?_
        refine WP.region ?_
        refine WL.rn 3 [] [(87, .bool (decide (r37 < 0)))] ?_
        refine WL.join (σ := Bool) 10 (fun st => gangwaylaw28_TraceAhead.k3 k st = some r) (fun st => [(6, .bool false), (97, .bool st)]) (fun st => Sat w Z [] [] ([Row 4 (pl api_Event.enc) noK A36 (x32 ++ r2), GIn noK A36 (x32 ++ r2), GIn noK A33 x32, GIn noK (SkL.at b21 0 (fun _ => ())) ([] : List api_Event), Row 4 (pl api_Event.enc) noK (A4.2.cut 0 4) t14, Row 21 api_Gate.encS api_Gate.inK A4.1 r1, Row 4 (pl api_Event.enc) noK A4.2 r2, Row 21 api_Gate.encS api_Gate.inK A00 a0, Row 4 (pl api_Event.enc) noK A01 a1] ++ Glob)) (fun st hM => ?_) (fun K3 => ?_)
        ·
          obtain ⟨x40, rfl⟩ : ∃ y, y = st := ⟨st, rfl⟩
          replace hM : gangwaylaw28_TraceAhead.k3 k x40 = some r := hM
          unfold gangwaylaw28_TraceAhead.k3 at hM
          show WL _ _ _ _ _ [(6, .bool false), (97, .bool x40)] (Sat w Z [] [] ([Row 4 (pl api_Event.enc) noK A36 (x32 ++ r2), GIn noK A36 (x32 ++ r2), GIn noK A33 x32, GIn noK (SkL.at b21 0 (fun _ => ())) ([] : List api_Event), Row 4 (pl api_Event.enc) noK (A4.2.cut 0 4) t14, Row 21 api_Gate.encS api_Gate.inK A4.1 r1, Row 4 (pl api_Event.enc) noK A4.2 r2, Row 21 api_Gate.encS api_Gate.inK A00 a0, Row 4 (pl api_Event.enc) noK A01 a1] ++ Glob))
          refine WL.rn 1 [] [(98, .bool x40)] ?_
          refine WL.join (σ := Bool) 2 (fun st => gangwaylaw28_TraceAhead.k2 st = some r) (fun st => [(6, .bool false), (100, .bool st)]) (fun st => Sat w Z [] [] ([Row 4 (pl api_Event.enc) noK A36 (x32 ++ r2), GIn noK A36 (x32 ++ r2), GIn noK A33 x32, GIn noK (SkL.at b21 0 (fun _ => ())) ([] : List api_Event), Row 4 (pl api_Event.enc) noK (A4.2.cut 0 4) t14, Row 21 api_Gate.encS api_Gate.inK A4.1 r1, Row 4 (pl api_Event.enc) noK A4.2 r2, Row 21 api_Gate.encS api_Gate.inK A00 a0, Row 4 (pl api_Event.enc) noK A01 a1] ++ Glob)) (fun st hM => ?_) (fun K2 => ?_)
          ·
            obtain ⟨x44, rfl⟩ : ∃ y, y = st := ⟨st, rfl⟩
            replace hM : gangwaylaw28_TraceAhead.k2 x44 = some r := hM
            unfold gangwaylaw28_TraceAhead.k2 at hM
            show WL _ _ _ _ _ [(6, .bool false), (100, .bool x44)] (Sat w Z [] [] ([Row 4 (pl api_Event.enc) noK A36 (x32 ++ r2), GIn noK A36 (x32 ++ r2), GIn noK A33 x32, GIn noK (SkL.at b21 0 (fun _ => ())) ([] : List api_Event), Row 4 (pl api_Event.enc) noK (A4.2.cut 0 4) t14, Row 21 api_Gate.encS api_Gate.inK A4.1 r1, Row 4 (pl api_Event.enc) noK A4.2 r2, Row 21 api_Gate.encS api_Gate.inK A00 a0, Row 4 (pl api_Event.enc) noK A01 a1] ++ Glob))
            refine WL.rn 1 [] [(6, .bool x44)] ?_
            refine WP.done ?_
            obtain rfl := Option.some.inj hM
            exact WP.ret [] [] (.bool x44) (by kernel_rfl) (fun w' hw => ⟨rfl, (hw.pick [] rfl).lessF [7, 8] (by kernel_rfl)⟩)
          ·
            refine WL.sp 98 x40 (fun c41 => ?_) (fun c41 => ?_)
            · replace hM := cond_t hM c41
              obtain ⟨r42, h43, hM⟩ := bind_some hM
              refine WL.callP [] [] (gangwaylaw28_fixed_calls k _ h43) (fun _ h => List.mem_append_right _ h) (by kernel_rfl) (by kernel_rfl) rfl ?_
              refine WL.rn 1 [] [(100, .bool r42)] ?_
              exact WL.sub [6, 100] (by kernel_rfl) (WL.pick [] (by kernel_rfl) (by kernel_rfl) (WL.lessF [0, 1, 2, 3, 4, 5, 6, 7, 8] (by kernel_rfl) (K2 r42 hM)))
            · replace hM := cond_f hM c41
              refine WL.rn 2 [] [(100, .bool false)] ?_
              exact WL.sub [6, 100] (by kernel_rfl) (WL.pick [] (by kernel_rfl) (by kernel_rfl) (WL.lessF [0, 1, 2, 3, 4, 5, 6, 7, 8] (by kernel_rfl) (K2 false hM)))
        ·
          refine WL.sp 87 (decide (r37 < 0)) (fun c39 => ?_) (fun c39 => ?_)
          · replace hM := cond_t hM c39
            refine WL.rn 10 [] [(97, .bool true)] ?_
            exact WL.sub [6, 97] (by kernel_rfl) (WL.pick [] (by kernel_rfl) (by kernel_rfl) (WL.lessF [0, 1, 2, 3, 4, 5, 6, 7, 8] (by kernel_rfl) (K3 true hM)))
          · replace hM := cond_f hM c39
            refine WL.rn 3 [] [(90, .bool (decide (r12 ≥ 0)))] ?_
            refine WL.bo 90 (decide (r12 ≥ 0)) 6 [] [] (fun b' => [(96, .bool (b' && (decide ((i64 (r37 - (x32.length : Int))) ≥ r12))))]) ?_
            refine WL.rn 1 [] [(97, .bool ((decide (r12 ≥ 0)) && (decide ((i64 (r37 - (x32.length : Int))) ≥ r12))))] ?_
            exact WL.sub [6, 97] (by kernel_rfl) (WL.pick [] (by kernel_rfl) (by kernel_rfl) (WL.lessF [0, 1, 2, 3, 4, 5, 6, 7, 8] (by kernel_rfl) (K3 ((decide (r12 ≥ 0)) && (decide ((i64 (r37 - (x32.length : Int))) ≥ r12))) hM)))
      ·
        refine WP.seq ?_
        refine WP.rn [] [(64, .bool (decide ((r2.length : Int) > 0)))] ?_
        refine WP.cond (decide ((r2.length : Int) > 0)) rfl rfl (fun c22 => ?_) (fun c22 => ?_)
        · replace hM := cond_t hM c22
          refine WP.seq ?_
          refine WP.region ?_
          refine WL.rn 4 [] [(65, slcV A4.2 r2.length), (66, .int .i64 t5), (68, .int .i64 (r2.length : Int))] ?_
          obtain ⟨t23, h24, hM⟩ := bind_some hM
          refine WL.val (fun _ => run_rem (k := .i64) (a := t5) (b := (r2.length : Int)) (by kernel_rfl) (by kernel_rfl) h24) (by kernel_rfl) (by kernel_rfl) rfl ?_
          obtain ⟨t25, h26, hM⟩ := bind_some hM
          refine WL.valF (φ := Row 4 (pl api_Event.enc) noK A4.2 r2) (fact_at 2 rfl) (fun w hR => run_indexRowF (A := A4.2) (xs := r2) (i := t23) (k := .i64) (e := 28) (m := 4) (by kernel_rfl) (by kernel_rfl) h26 (by kernel_rfl) (by kernel_rfl) hR) (by kernel_rfl) (by kernel_rfl) rfl ?_
          refine WL.valF (φ := Row 4 (pl api_Event.enc) noK A4.2 r2) (fact_at 2 rfl) (fun w hR => run_loadRowFA (A := A4.2) (xs := r2) (i := t23) (j := 0) (n := 4) (vs := [.bool t25.In, .int .i64 t25.Gate, .int .i64 t25.Port, .string t25.S]) h26 (fun _ => by kernel_rfl) (by kernel_rfl) (by kernel_rfl) (by kernel_rfl) rfl hR) (by kernel_rfl) (by kernel_rfl) rfl ?_
          refine WL.rh 2 [1, 1, 1, 1] (fun b27 => [(13, .pointer (some ⟨b27, 0, none⟩))]) (fun b27 => []) (fun b27 => [(b27, api_Event.o t25)]) (fun b27 => ?_)
          refine WP.done ?_
          refine WP.seq ?_
          refine WP.rh [1] (fun _ => []) (fun _ => [(1, 0, [.bool true])]) (fun _ => []) (fun _ => ?_)
          refine WP.region ?_
          refine WL.rh 3 [1, 1, 1, 1] (fun b28 => [(73, .slice (some ⟨b21, 0, none⟩) 0 0), (75, .slice (some ⟨b28, 0, none⟩) 1 1)]) (fun b28 => []) (fun b28 => [(b28, .cells #[.bool true, .int .i64 t25.Gate, .int .i64 t25.Port, .string t25.S] 28 (0, 0))]) (fun b28 => ?_)
          refine WL.ice (H' := [(b21, .cells #[] 28 (0, 0)), (b27, .cells #[.bool true, .int .i64 t25.Gate, .int .i64 t25.Port, .string t25.S] 28 (0, 0))]) (Row 4 (pl api_Event.enc) noK (SkL.at b28 1 (fun _ => ())) ([(api_Event.mk true t25.Gate t25.Port t25.S)] : List api_Event)) 2 (b := b28) (ob := .cells #[.bool true, .int .i64 t25.Gate, .int .i64 t25.Port, .string t25.S] 28 (0, 0)) (by kernel_rfl) [] [] (by kernel_rfl) (fun w hb hψ => row_of_block hb (fun _ _ => rfl) ⟨[], by kernel_rfl⟩ (Nat.le_of_ble_eq_true rfl) (InK.no _ _)) (by kernel_rfl) ?_
          refine WL.growLit (H' := [(b27, .cells #[.bool true, .int .i64 t25.Gate, .int .i64 t25.Port, .string t25.S] 28 (0, 0))]) (m := 4) (e := 28) (f := (pl api_Event.enc)) noK 0 (b := b21) (cs := #[]) (fun _ => ()) ([] : List api_Event) (by kernel_rfl) (fun _ _ => rfl) (by kernel_rfl) (by decide) [] [] (by kernel_rfl) (fun w hψ => (InK.no _ _)) (by kernel_rfl) ?_
          obtain ⟨u30, h29, hM⟩ := bind_some hM
          refine WL.growApp (G' := []) (A := (SkL.at b21 0 (fun _ => ()))) (B := (SkL.at b28 1 (fun _ => ()))) (xs := ([] : List api_Event)) (ys := ([(api_Event.mk true t25.Gate t25.Port t25.S)] : List api_Event)) (m := 4) (by_ := 40) (e := 28) (z := .agg #[.bool false, .int .i64 0, .int .i64 0, .string (⟨#[]⟩ : ByteArray)]) (f := (pl api_Event.enc)) (K := noK) (d := 76) 0 rfl rfl (by kernel_rfl) (by kernel_rfl) (by kernel_rfl) (by kernel_rfl) (by kernel_rfl) (fun _ _ => rfl) (fun _ _ => rfl) (by kernel_rfl) (by kernel_rfl) (by kernel_rfl) (by kernel_rfl) (by kernel_rfl) (fact_at 0 rfl) (fact_at 1 rfl) h29 (by kernel_rfl) (fun A31 => ?_)
          refine WL.less (Φ' := [GIn noK A31 ([(api_Event.mk true t25.Gate t25.Port t25.S)] : List api_Event), GIn noK (SkL.at b21 0 (fun _ => ())) ([] : List api_Event), Row 4 (pl api_Event.enc) noK (SkL.at b28 1 (fun _ => ())) ([(api_Event.mk true t25.Gate t25.Port t25.S)] : List api_Event), Row 4 (pl api_Event.enc) noK (A4.2.cut 0 4) t14, Row 21 api_Gate.encS api_Gate.inK A4.1 r1, Row 4 (pl api_Event.enc) noK A4.2 r2, Row 21 api_Gate.encS api_Gate.inK A00 a0, Row 4 (pl api_Event.enc) noK A01 a1] ++ Glob) (fun _ h => h) ?_
          refine WL.rn 1 [] [(12, slcV A31 ([(api_Event.mk true t25.Gate t25.Port t25.S)] : List api_Event).length)] ?_
          refine WP.done ?_
          refine WP.kp [false] ?_
          exact WP.sub [6, 7, 8, 10, 12] (by kernel_rfl) (WP.pick [] (by kernel_rfl) (by kernel_rfl) (WP.pickG [0] [] 1 rfl (by decide) (by kernel_rfl) (WP.lessF [0, 1, 3, 4, 5, 6, 7] (by kernel_rfl) (K4 (([(api_Event.mk true t25.Gate t25.Port t25.S)] : List api_Event), A31) hM))))
        · replace hM := cond_f hM c22
          refine WP.skip ?_
          refine WP.growLit (H' := []) (m := 4) (e := 28) (f := (pl api_Event.enc)) noK 0 (b := b21) (cs := #[]) (fun _ => ()) ([] : List api_Event) (by kernel_rfl) (fun _ _ => rfl) (by kernel_rfl) (by decide) [] [] (by kernel_rfl) (fun w hψ => (InK.no _ _)) (by kernel_rfl) ?_
          exact WP.sub [6, 7, 8, 10, 12] (by kernel_rfl) (WP.pick [] (by kernel_rfl) (by kernel_rfl) (WP.pickG [0] [] 1 rfl (by decide) (by kernel_rfl) (WP.lessF [0, 0, 1, 2, 3, 4, 5] (by kernel_rfl) (K4 (([] : List api_Event), (SkL.at b21 0 (fun _ => ()))) hM))))
  ·
    refine WL.sp 48 (((decide (r12 ≥ 0)) && (decide (r12 < t5))) && (r16 != r12)) (fun c18 => ?_) (fun c18 => ?_)
    · replace hM := cond_t hM c18
      refine WL.rn 12 [] [(60, .bool true)] ?_
      exact WL.sub [6, 7, 8, 9, 10, 60] (by kernel_rfl) (WL.pick [] (by kernel_rfl) (by kernel_rfl) (WL.lessF [0, 1, 2, 3, 4] (by kernel_rfl) (K1 true hM)))
    · replace hM := cond_f hM c18
      refine WL.rn 3 [] [(51, .bool (decide (r12 < 0)))] ?_
      refine WL.bo 51 (decide (r12 < 0)) 4 [] [] (fun b' => [(55, .bool (b' || (decide (r12 ≥ t5))))]) ?_
      refine WL.rn 1 [] [(56, .bool ((decide (r12 < 0)) || (decide (r12 ≥ t5))))] ?_
      refine WL.bo 56 ((decide (r12 < 0)) || (decide (r12 ≥ t5))) 3 [] [] (fun b' => [(59, .bool (b' && (r16 != (-1))))]) ?_
      refine WL.rn 1 [] [(60, .bool (((decide (r12 < 0)) || (decide (r12 ≥ t5))) && (r16 != (-1))))] ?_
      exact WL.sub [6, 7, 8, 9, 10, 60] (by kernel_rfl) (WL.pick [] (by kernel_rfl) (by kernel_rfl) (WL.lessF [0, 1, 2, 3, 4] (by kernel_rfl) (K1 (((decide (r12 < 0)) || (decide (r12 ≥ t5))) && (r16 != (-1))) hM)))

end Go.Proofs.YtbbekdmndifkpaaGreatDoor

namespace Go.Proofs.YtbbekdmndifkpaaGreatDoor
open Go Eng
set_option linter.unusedVariables false
set_option linter.unusedSimpArgs false

/-! ### gangway/gangwayref01.Num: function 45 -/
def gangwayref01_Num.l1 (a0 : ByteArray) : Nat → Int → Int → Option (Int)
  | 0, _, _ => none
  | n + 1, x1, x2 =>
    bif decide (x2 < (a0.size : Int)) then
      (idxS a0 x2).bind fun t4 =>
      gangwayref01_Num.l1 a0 n (u64 ((u64 (x1 * 256)) + (u64 t4))) (i64 (x2 + 1))
    else
      some x1

def gangwayref01_Num.f (k : Nat) (a0 : ByteArray) : Option (Int) :=
  gangwayref01_Num.l1 a0 k 0 0

end Go.Proofs.YtbbekdmndifkpaaGreatDoor

namespace Go.Proofs.YtbbekdmndifkpaaGreatDoor
open Go Eng
set_option linter.unusedVariables false
set_option linter.unusedSimpArgs false

/-! ### gangway/gangwayref04.word: function 46 -/
def gangwayref04_word.f (a0 : ByteArray) : Option (Int) :=
  (idxS a0 0).bind fun t1 =>
  (idxS a0 1).bind fun t3 =>
  some (i64 ((i64 ((i64 t1) * 256)) + (i64 t3)))

end Go.Proofs.YtbbekdmndifkpaaGreatDoor

namespace Go.Proofs.YtbbekdmndifkpaaGreatDoor
open Go Eng
set_option linter.unusedVariables false
set_option linter.unusedSimpArgs false

/-! ### gangway/gangwayref04.Parse: function 23 -/
def gangwayref04_Parse.k1 (x32 : Int) (r7 : Int) (r11 : Int) (x34 : Bool) (x35 : Int) (x36 : Bool) (x37 : Int) (x33 : ByteArray) (x39 : Bool) : Option (api_Frame × Int) :=
  bif x39 then
    some ((api_Frame.mk 0 0 (api_Tag.mk false 0 false 0) 0 (⟨#[]⟩ : ByteArray)), 41)
  else
    bif decide (x32 > 1500) then
      some ((api_Frame.mk r7 r11 (api_Tag.mk x34 x35 x36 x37) x32 x33), 0)
    else
      bif decide (x32 > (x33.size : Int)) then
        some ((api_Frame.mk 0 0 (api_Tag.mk false 0 false 0) 0 (⟨#[]⟩ : ByteArray)), 40)
      else
        (sliceS x33 0 x32).bind fun t43 =>
        some ((api_Frame.mk r7 r11 (api_Tag.mk x34 x35 x36 x37) 0 t43), 0)

def gangwayref04_Parse.k2 (r7 : Int) (r11 : Int) (x32 : Int) (x33 : ByteArray) (x34 : Bool) (x35 : Int) (x36 : Bool) (x37 : Int) : Option (api_Frame × Int) :=
  bif (x32 == 33024) then
    gangwayref04_Parse.k1 x32 r7 r11 x34 x35 x36 x37 x33 true
  else
    gangwayref04_Parse.k1 x32 r7 r11 x34 x35 x36 x37 x33 ((decide (x32 > 1500)) && (decide (x32 < 1536)))

def gangwayref04_Parse.f (k : Nat) (a0 : ByteArray) : Option (api_Frame × Int) :=
  bif decide ((a0.size : Int) > 1600) then
    some ((api_Frame.mk 0 0 (api_Tag.mk false 0 false 0) 0 (⟨#[]⟩ : ByteArray)), 41)
  else
    bif decide ((a0.size : Int) < 14) then
      some ((api_Frame.mk 0 0 (api_Tag.mk false 0 false 0) 0 (⟨#[]⟩ : ByteArray)), 40)
    else
      (sliceS a0 0 6).bind fun t5 =>
      (gangwayref01_Num.f k t5).bind fun r7 =>
      (sliceS a0 6 12).bind fun t9 =>
      (gangwayref01_Num.f k t9).bind fun r11 =>
      (sliceS a0 12 14).bind fun t14 =>
      (gangwayref04_word.f t14).bind fun r16 =>
      (sliceS a0 14 (a0.size : Int)).bind fun t18 =>
      bif (r16 == 33024) then
        bif decide ((t18.size : Int) < 4) then
          some ((api_Frame.mk 0 0 (api_Tag.mk false 0 false 0) 0 (⟨#[]⟩ : ByteArray)), 40)
        else
          (sliceS t18 0 2).bind fun t22 =>
          (gangwayref04_word.f t22).bind fun r24 =>
          (sliceS t18 2 4).bind fun t26 =>
          (gangwayref04_word.f t26).bind fun r28 =>
          (sliceS t18 4 (t18.size : Int)).bind fun t30 =>
          gangwayref04_Parse.k2 r7 r11 r28 t30 true (i64 (Int.tdiv r24 8192)) ((Int.tmod (i64 (Int.tdiv r24 4096)) 2) == 1) (Int.tmod r24 4096)
      else
        gangwayref04_Parse.k2 r7 r11 r16 t18 false 0 false 0

end Go.Proofs.YtbbekdmndifkpaaGreatDoor

namespace Go.Proofs.YtbbekdmndifkpaaGreatDoor
open Go Eng
set_option linter.unusedVariables false
set_option linter.unusedSimpArgs false

/-! ### gangway/gangwayref17.Mine: function 24 -/
def gangwayref17_Mine.f (a0 : api_Frame) : Option (Bool) :=
  some ((u64 (Int.tdiv a0.Dst 16)) == 103282638848)

end Go.Proofs.YtbbekdmndifkpaaGreatDoor

namespace Go.Proofs.YtbbekdmndifkpaaGreatDoor
open Go Eng
set_option linter.unusedVariables false
set_option linter.unusedSimpArgs false

/-! ### gangway/gangwayref16.Has: function 82 -/
def gangwayref16_Has.k2 (x7 : Bool) : Option (Bool) :=
  some x7

def gangwayref16_Has.k1 (x6 : Bool) : Option (Bool) :=
  gangwayref16_Has.k2 x6

def gangwayref16_Has.f (k : Nat) (a0 : Bool) (a0_1 : Int) (a0_2 : (List Int)) (a1 : Int) : Option (Bool) :=
  bif ((!a0) && (a1 == a0_1)) then
    gangwayref16_Has.k2 true
  else
    bif a0 then
      (gangwayref16_among.f k a0_2 a1).bind fun r4 =>
      gangwayref16_Has.k1 r4
    else
      gangwayref16_Has.k1 false

end Go.Proofs.YtbbekdmndifkpaaGreatDoor

namespace Go.Proofs.YtbbekdmndifkpaaGreatDoor
open Go Eng
set_option linter.unusedVariables false
set_option linter.unusedSimpArgs false

/-! ### gangway/gangwayref16.In: function 48 -/
def gangwayref16_In.k1 (k : Nat) (a0 : Bool) (a0_1 : Int) (a0_2 : (List Int)) (a1 : api_Frame) (x3 : Int) : Option (Int × api_Frame × Bool) :=
  (gangwayref16_Has.f k a0 a0_1 a0_2 x3).bind fun r4 =>
  bif !r4 then
    some (0, (api_Frame.mk 0 0 (api_Tag.mk false 0 false 0) 0 (⟨#[]⟩ : ByteArray)), false)
  else
    some (x3, (api_Frame.mk a1.Dst a1.Src (api_Tag.mk false 0 false 0) a1.Type_ a1.Body), true)

def gangwayref16_In.f (k : Nat) (a0 : Bool) (a0_1 : Int) (a0_2 : (List Int)) (a1 : api_Frame) : Option (Int × api_Frame × Bool) :=
  bif (a1.Tag.Has && (a1.Tag.Vid != 0)) then
    gangwayref16_In.k1 k a0 a0_1 a0_2 a1 a1.Tag.Vid
  else
    gangwayref16_In.k1 k a0 a0_1 a0_2 a1 a0_1

end Go.Proofs.YtbbekdmndifkpaaGreatDoor

namespace Go.Proofs.YtbbekdmndifkpaaGreatDoor
open Go Eng
set_option linter.unusedVariables false
set_option linter.unusedSimpArgs false

/-! ### gangway/gangwayref28.Of: function 26 -/
def gangwayref28_Of.k1 (a0 : (List api_Gate)) (a1 : api_Event) (k : Nat) (r2 : api_Frame) (x9 : Bool) : Option (Int × api_Frame × Bool) :=
  bif x9 then
    some (0, (api_Frame.mk 0 0 (api_Tag.mk false 0 false 0) 0 (⟨#[]⟩ : ByteArray)), false)
  else
    (getL a0.length a0 (i64 (a1.Gate - 1))).bind fun t12 =>
    (getL t12.Ports.length t12.Ports (i64 (a1.Port - 1))).bind fun t14 =>
    (gangwayref16_In.f k t14.Trunk t14.Pvid t14.Vids r2).bind fun (r16, r17, r18) =>
    some (r16, r17, r18)

def gangwayref28_Of.f (k : Nat) (a0 : (List api_Gate)) (a1 : api_Event) : Option (Int × api_Frame × Bool) :=
  (gangwayref04_Parse.f k a1.S).bind fun (r2, r3) =>
  bif ((((r3 != 0) || (decide (a1.Gate < 1))) || (decide (a1.Gate > (a0.length : Int)))) || (decide (a1.Port < 1))) then
    gangwayref28_Of.k1 a0 a1 k r2 true
  else
    (getL a0.length a0 (i64 (a1.Gate - 1))).bind fun t7 =>
    gangwayref28_Of.k1 a0 a1 k r2 (decide (a1.Port > (t7.Ports.length : Int)))

end Go.Proofs.YtbbekdmndifkpaaGreatDoor

namespace Go.Proofs.YtbbekdmndifkpaaGreatDoor
open Go Eng
set_option linter.unusedVariables false
set_option linter.unusedSimpArgs false

/-! ### gangway/gangwayref21.Of: function 81 -/
def gangwayref21_Of.l1 (a0 : (List api_Seg)) (a1 : Int) : Nat → Bool → Int → Option (api_Seg × Bool)
  | 0, _, _ => none
  | n + 1, x2, x3 =>
    bif decide (x3 < (a0.length : Int)) then
      (getL a0.length a0 x3).bind fun t5 =>
      bif (t5.Vid == a1) then
        (getL a0.length a0 x3).bind fun t8 =>
        some (t8, true)
      else
        gangwayref21_Of.l1 a0 a1 n x2 (i64 (x3 + 1))
    else
      some ((api_Seg.mk 0 0 ([] : List Int)), false)

def gangwayref21_Of.f (k : Nat) (a0 : (List api_Seg)) (a1 : Int) : Option (api_Seg × Bool) :=
  gangwayref21_Of.l1 a0 a1 k false 0

end Go.Proofs.YtbbekdmndifkpaaGreatDoor

namespace Go.Proofs.YtbbekdmndifkpaaGreatDoor
open Go Eng
set_option linter.unusedVariables false
set_option linter.unusedSimpArgs false

/-! ### gangway/gangwayref28.Same: function 47 -/
def gangwayref28_Same.k1 (x28 : Bool) : Option (Bool) :=
  some x28

def gangwayref28_Same.f (k : Nat) (a0 : (List api_Gate)) (a1 : api_Event) (a2 : api_Event) : Option (Bool) :=
  (gangwayref28_Of.f k a0 a1).bind fun (r2, r3, r4) =>
  (gangwayref28_Of.f k a0 a2).bind fun (r7, r8, r9) =>
  bif ((!r4) || (!r9)) then
    some false
  else
    (getL a0.length a0 (i64 (a1.Gate - 1))).bind fun t13 =>
    (gangwayref21_Of.f k t13.Segs r2).bind fun (r15, r16) =>
    (getL a0.length a0 (i64 (a2.Gate - 1))).bind fun t20 =>
    (gangwayref21_Of.f k t20.Segs r7).bind fun (r22, r23) =>
    bif ((a1.Gate == a2.Gate) && (r2 == r7)) then
      gangwayref28_Same.k1 true
    else
      gangwayref28_Same.k1 ((r16 && r23) && (r15.Vni == r22.Vni))

end Go.Proofs.YtbbekdmndifkpaaGreatDoor

namespace Go.Proofs.YtbbekdmndifkpaaGreatDoor
open Go Eng
set_option linter.unusedVariables false
set_option linter.unusedSimpArgs false

/-! ### gangway/gangwayref28.carried: function 25 -/
def gangwayref28_carried.k1 (x8 : Bool) (x9 : Int) (rec_l4 : Bool → Int → Option (Bool)) (x41 : Bool) (x42 : Bool) : Option (Bool) :=
  bif x42 then
    some true
  else
    rec_l4 x8 (i64 (x9 + 1))

def gangwayref28_carried.k2 (x8 : Bool) (x9 : Int) (r4 : api_Frame) (r14 : api_Frame) (rec_l4 : Bool → Int → Option (Bool)) (x38 : Bool) (x39 : Bool) : Option (Bool) :=
  bif x39 then
    gangwayref28_carried.k1 x8 x9 rec_l4 true ((r4.Dst == r14.Dst) && ((r4.Src == r14.Src) && (((r4.Tag.Has == r14.Tag.Has) && ((r4.Tag.Pri == r14.Tag.Pri) && ((r4.Tag.Dei == r14.Tag.Dei) && ((r4.Tag.Vid == r14.Tag.Vid) && true)))) && ((r4.Type_ == r14.Type_) && ((r4.Body == r14.Body) && true)))))
  else
    gangwayref28_carried.k1 x8 x9 rec_l4 false false

def gangwayref28_carried.k3 (a1 : (List api_Event)) (x9 : Int) (a2 : Int) (k : Nat) (a0 : (List api_Gate)) (x8 : Bool) (r4 : api_Frame) (r14 : api_Frame) (rec_l4 : Bool → Int → Option (Bool)) (x27 : Bool) (x28 : Bool) : Option (Bool) :=
  (getL a1.length a1 x9).bind fun t29 =>
  bif (t29.In && x28) then
    (getL a1.length a1 x9).bind fun t32 =>
    (getL a1.length a1 a2).bind fun t34 =>
    (gangwayref28_Same.f k a0 t32 t34).bind fun r36 =>
    gangwayref28_carried.k2 x8 x9 r4 r14 rec_l4 true r36
  else
    gangwayref28_carried.k2 x8 x9 r4 r14 rec_l4 false false

def gangwayref28_carried.l4 (a2 : Int) (a1 : (List api_Event)) (k : Nat) (a0 : (List api_Gate)) (r4 : api_Frame) : Nat → Bool → Int → Option (Bool)
  | 0, _, _ => none
  | n + 1, x8, x9 =>
    bif decide (x9 < a2) then
      (getL a1.length a1 x9).bind fun t11 =>
      (gangwayref28_Of.f k a0 t11).bind fun (r13, r14, r15) =>
      (getL a1.length a1 x9).bind fun t18 =>
      (getL a1.length a1 a2).bind fun t20 =>
      bif (t18.Gate != t20.Gate) then
        gangwayref28_carried.k3 a1 x9 a2 k a0 x8 r4 r14 (gangwayref28_carried.l4 a2 a1 k a0 r4 n) true true
      else
        (getL a1.length a1 x9).bind fun t23 =>
        (getL a1.length a1 a2).bind fun t25 =>
        gangwayref28_carried.k3 a1 x9 a2 k a0 x8 r4 r14 (gangwayref28_carried.l4 a2 a1 k a0 r4 n) false (t23.Port != t25.Port)
    else
      some false

def gangwayref28_carried.f (k : Nat) (a0 : (List api_Gate)) (a1 : (List api_Event)) (a2 : Int) : Option (Bool) :=
  (getL a1.length a1 a2).bind fun t1 =>
  (gangwayref28_Of.f k a0 t1).bind fun (r3, r4, r5) =>
  gangwayref28_carried.l4 a2 a1 k a0 r4 k false 0

end Go.Proofs.YtbbekdmndifkpaaGreatDoor

namespace Go.Proofs.YtbbekdmndifkpaaGreatDoor
open Go Eng
set_option linter.unusedVariables false
set_option linter.unusedSimpArgs false

/-! ### gangway/gangwayref05.Check: function 83 -/
def gangwayref05_Check.k1 (a0 : api_Arp) (x5 : Bool) : Option (Int) :=
  bif (x5 || ((Int.fdiv a0.TMac 281474976710656) != 0)) then
    some 51
  else
    some 0

def gangwayref05_Check.f (a0 : api_Arp) : Option (Int) :=
  bif ((decide (a0.Op < 1)) || (decide (a0.Op > 2))) then
    gangwayref05_Check.k1 a0 true
  else
    (gangwayref02_Own.f a0.SMac).bind fun r3 =>
    gangwayref05_Check.k1 a0 (!r3)

end Go.Proofs.YtbbekdmndifkpaaGreatDoor

namespace Go.Proofs.YtbbekdmndifkpaaGreatDoor
open Go Eng
set_option linter.unusedVariables false
set_option linter.unusedSimpArgs false

/-! ### gangway/gangwayref05.Parse: function 49 -/
def gangwayref05_Parse.k1 (r6 : Int) (r10 : Int) (r14 : Int) (r18 : Int) (r22 : Int) (x30 : Bool) : Option (api_Arp × Int) :=
  bif x30 then
    some ((api_Arp.mk 0 0 0 0 0), 51)
  else
    some ((api_Arp.mk (i64 r6) r10 (u32 r14) r18 (u32 r22)), 0)

def gangwayref05_Parse.f (k : Nat) (a0 : ByteArray) : Option (api_Arp × Int) :=
  bif decide ((a0.size : Int) < 28) then
    some ((api_Arp.mk 0 0 0 0 0), 50)
  else
    (sliceS a0 6 8).bind fun t4 =>
    (gangwayref01_Num.f k t4).bind fun r6 =>
    (sliceS a0 8 14).bind fun t8 =>
    (gangwayref01_Num.f k t8).bind fun r10 =>
    (sliceS a0 14 18).bind fun t12 =>
    (gangwayref01_Num.f k t12).bind fun r14 =>
    (sliceS a0 18 24).bind fun t16 =>
    (gangwayref01_Num.f k t16).bind fun r18 =>
    (sliceS a0 24 28).bind fun t20 =>
    (gangwayref01_Num.f k t20).bind fun r22 =>
    (sliceS a0 0 6).bind fun t25 =>
    bif !(t25.toList == (⟨#[0, 1, 8, 0, 6, 4]⟩ : ByteArray).toList) then
      gangwayref05_Parse.k1 r6 r10 r14 r18 r22 true
    else
      (gangwayref05_Check.f (api_Arp.mk (i64 r6) r10 (u32 r14) r18 (u32 r22))).bind fun r28 =>
      gangwayref05_Parse.k1 r6 r10 r14 r18 r22 (r28 != 0)

end Go.Proofs.YtbbekdmndifkpaaGreatDoor

namespace Go.Proofs.YtbbekdmndifkpaaGreatDoor
open Go Eng
set_option linter.unusedVariables false
set_option linter.unusedSimpArgs false

/-! ### gangway/gangwayref05.Of: function 27 -/
def gangwayref05_Of.f (k : Nat) (a0 : api_Frame) : Option (api_Arp × Bool) :=
  (gangwayref05_Parse.f k a0.Body).bind fun (r2, r3) =>
  bif ((a0.Type_ != 2054) || (r3 != 0)) then
    some ((api_Arp.mk 0 0 0 0 0), false)
  else
    some (r2, true)

end Go.Proofs.YtbbekdmndifkpaaGreatDoor

namespace Go.Proofs.YtbbekdmndifkpaaGreatDoor
open Go Eng
set_option linter.unusedVariables false
set_option linter.unusedSimpArgs false

/-! ### gangway/gangwayref28.asked: function 28 -/
def gangwayref28_asked.l1 (a2 : Int) (a1 : (List api_Event)) (k : Nat) (a0 : (List api_Gate)) (t2 : api_Event) (r5 : Int) (a3 : api_Arp) : Nat → Bool → Int → Option (Bool)
  | 0, _, _ => none
  | n + 1, x10, x11 =>
    bif decide (x11 < a2) then
      (getL a1.length a1 x11).bind fun t13 =>
      (gangwayref28_Of.f k a0 t13).bind fun (r16, r17, r18) =>
      (gangwayref05_Of.f k r17).bind fun (r21, r22) =>
      bif ((((((((((t13.In && r18) && r22) && (t13.Gate == t2.Gate)) && (t13.Port == t2.Port)) && (r5 == r16)) && (r21.Op == 1)) && (r17.Dst == 281474976710655)) && (r21.SMac == a3.TMac)) && (r21.SIp == a3.TIp)) && (r21.TIp == a3.SIp)) then
        some true
      else
        gangwayref28_asked.l1 a2 a1 k a0 t2 r5 a3 n x10 (i64 (x11 + 1))
    else
      some false

def gangwayref28_asked.f (k : Nat) (a0 : (List api_Gate)) (a1 : (List api_Event)) (a2 : Int) (a3 : api_Arp) : Option (Bool) :=
  (getL a1.length a1 a2).bind fun t2 =>
  (gangwayref28_Of.f k a0 t2).bind fun (r5, r6, r7) =>
  gangwayref28_asked.l1 a2 a1 k a0 t2 r5 a3 k false 0

end Go.Proofs.YtbbekdmndifkpaaGreatDoor

namespace Go.Proofs.YtbbekdmndifkpaaGreatDoor
open Go Eng
set_option linter.unusedVariables false
set_option linter.unusedSimpArgs false

/-! ### gangway/gangwayref28.told: function 29 -/
def gangwayref28_told.k1 (r12 : api_Arp) (r8 : api_Frame) (a3 : api_Arp) (x2 : Bool) (x3 : Int) (rec_l2 : Bool → Int → Option (Bool)) (x25 : Bool) (x26 : Bool) : Option (Bool) :=
  bif (((x26 && (r12.SMac == r8.Src)) && (r12.SMac == a3.SMac)) && (r12.SIp == a3.SIp)) then
    some true
  else
    rec_l2 x2 (i64 (x3 + 1))

def gangwayref28_told.l2 (a2 : Int) (a1 : (List api_Event)) (k : Nat) (a0 : (List api_Gate)) (a3 : api_Arp) : Nat → Bool → Int → Option (Bool)
  | 0, _, _ => none
  | n + 1, x2, x3 =>
    bif decide (x3 < a2) then
      (getL a1.length a1 x3).bind fun t5 =>
      (gangwayref28_Of.f k a0 t5).bind fun (r7, r8, r9) =>
      (gangwayref05_Of.f k r8).bind fun (r12, r13) =>
      (getL a1.length a1 x3).bind fun t16 =>
      bif (t16.In && r13) then
        (getL a1.length a1 x3).bind fun t19 =>
        (getL a1.length a1 a2).bind fun t21 =>
        (gangwayref28_Same.f k a0 t19 t21).bind fun r23 =>
        gangwayref28_told.k1 r12 r8 a3 x2 x3 (gangwayref28_told.l2 a2 a1 k a0 a3 n) true r23
      else
        gangwayref28_told.k1 r12 r8 a3 x2 x3 (gangwayref28_told.l2 a2 a1 k a0 a3 n) false false
    else
      some false

def gangwayref28_told.f (k : Nat) (a0 : (List api_Gate)) (a1 : (List api_Event)) (a2 : Int) (a3 : api_Arp) : Option (Bool) :=
  gangwayref28_told.l2 a2 a1 k a0 a3 k false 0

end Go.Proofs.YtbbekdmndifkpaaGreatDoor

namespace Go.Proofs.YtbbekdmndifkpaaGreatDoor
open Go Eng
set_option linter.unusedVariables false
set_option linter.unusedSimpArgs false

/-! ### gangway/gangwayref28.May: function 9 -/
def gangwayref28_May.k4 (x34 : Bool) : Option (Bool) :=
  some x34

def gangwayref28_May.k2 (k : Nat) (a0 : (List api_Gate)) (t1 : api_Event) (a1 : (List api_Event)) (a2 : Int) (x17 : Bool) : Option (Bool) :=
  bif x17 then
    some true
  else
    (gangwayref28_Of.f k a0 t1).bind fun (r19, r20, r21) =>
    (gangwayref05_Of.f k r20).bind fun (r24, r25) =>
    bif (((((!r21) || (!r25)) || (r24.Op != 2)) || (r24.SMac != r20.Src)) || (r20.Dst != r24.TMac)) then
      some false
    else
      (gangwayref28_asked.f k a0 a1 a2 r24).bind fun r29 =>
      bif r29 then
        (gangwayref28_told.f k a0 a1 a2 r24).bind fun r32 =>
        gangwayref28_May.k4 r32
      else
        gangwayref28_May.k4 false

def gangwayref28_May.k3 (k : Nat) (a0 : (List api_Gate)) (t1 : api_Event) (a1 : (List api_Event)) (a2 : Int) (x13 : Bool) : Option (Bool) :=
  bif x13 then
    gangwayref28_May.k2 k a0 t1 a1 a2 true
  else
    (gangwayref28_carried.f k a0 a1 a2).bind fun r15 =>
    gangwayref28_May.k2 k a0 t1 a1 a2 r15

def gangwayref28_May.k1 (k : Nat) (a0 : (List api_Gate)) (t1 : api_Event) (a1 : (List api_Event)) (a2 : Int) (x12 : Bool) : Option (Bool) :=
  gangwayref28_May.k3 k a0 t1 a1 a2 x12

def gangwayref28_May.f (k : Nat) (a0 : (List api_Gate)) (a1 : (List api_Event)) (a2 : Int) : Option (Bool) :=
  (getL a1.length a1 a2).bind fun t1 =>
  (gangwayref04_Parse.f k t1.S).bind fun (r4, r5) =>
  bif t1.In then
    gangwayref28_May.k3 k a0 t1 a1 a2 true
  else
    bif (r5 == 0) then
      (gangwayref17_Mine.f r4).bind fun r10 =>
      gangwayref28_May.k1 k a0 t1 a1 a2 r10
    else
      gangwayref28_May.k1 k a0 t1 a1 a2 false

end Go.Proofs.YtbbekdmndifkpaaGreatDoor
