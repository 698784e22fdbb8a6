/- The walks of the functions that the laws reach: each shows that a call returns what its plain model says, wherever the model gives an answer. -/
import Derived.Test.YtbbekdmndifkpaaGreatDoorF1
import Derived.Test.YtbbekdmndifkpaaGreatDoorF3
import Derived.Test.YtbbekdmndifkpaaGreatDoorF2

namespace Go.Proofs.YtbbekdmndifkpaaGreatDoor
open Go Eng
set_option linter.unusedVariables false
set_option linter.unusedSimpArgs false

/-! ### gangway/arp.Tell: function 22 -/
def arp_Tell.k1 (k : Nat) (a1 : Int) (a0 : api_Arp) (x9 : Bool) : Option (api_Frame × Int) :=
  bif x9 then
    some ((api_Frame.mk 0 0 (api_Tag.mk false 0 false 0) 0 (⟨#[]⟩ : ByteArray)), 51)
  else
    (arp_laid.f k (api_Arp.mk 2 a1 a0.TIp a0.SMac a0.SIp)).bind fun r13 =>
    some ((api_Frame.mk a0.SMac a1 (api_Tag.mk false 0 false 0) 2054 r13), 0)

def arp_Tell.k2 (k : Nat) (a1 : Int) (a0 : api_Arp) (x5 : Bool) : Option (api_Frame × Int) :=
  bif x5 then
    arp_Tell.k1 k a1 a0 true
  else
    (addrs_Own.f a1).bind fun r7 =>
    arp_Tell.k1 k a1 a0 (!r7)

def arp_Tell.f (k : Nat) (a0 : api_Arp) (a1 : Int) : Option (api_Frame × Int) :=
  bif (a0.Op != 1) then
    arp_Tell.k2 k a1 a0 true
  else
    (arp_Check.f a0).bind fun r3 =>
    arp_Tell.k2 k a1 a0 (r3 != 0)

set_option maxRecDepth 100000 in
theorem arp_Tell_calls (k : Nat) (a0 : api_Arp) (a1 : Int) (r : api_Frame × Int) (h : arp_Tell.f k a0 a1 = some r) : Pure Tryz.prog Glob 22 #[api_Arp.v a0, .int .u64 a1] (.tuple #[api_Frame.v r.1, .int .i64 r.2]) := by
  intro w Z hS
  refine calls_of (args := [api_Arp.v a0, .int .u64 a1]) (L := [(0, api_Arp.v a0), (1, .int .u64 a1)]) (N := 35) (S := Sat w Z [] [] Glob) Tryz.func22 rfl rfl (Nat.le_of_ble_eq_true rfl) rfl hS ?_
  have hM := h
  clear h hS
  unfold arp_Tell.f at hM
  refine WP.seq ?_
  refine WP.rh [] (fun b1 => [(2, .pointer (some ⟨b1, 0, none⟩)), (4, .pointer (some ⟨(b1 + 1), 0, none⟩)), (5, .int .i64 0)]) (fun b1 => []) (fun b1 => [(b1, api_Arp.o a0), ((b1 + 1), .cells #[.int .u64 0, .int .u64 0, .bool false, .int .i64 0, .bool false, .int .i64 0, .int .i64 0, .string (⟨#[]⟩ : ByteArray)] 40 (0, 0))]) (fun b1 => ?_)
  refine WP.seq ?_
  refine WP.seq ?_
  refine WP.region ?_
  refine WL.rn 4 [0] [(10, .bool (a0.Op != 1))] ?_
  refine WL.join (σ := Bool) 4 (fun st => arp_Tell.k2 k a1 a0 st = some r) (fun st => [(1, .int .u64 a1), (2, .pointer (some ⟨b1, 0, none⟩)), (4, .pointer (some ⟨(b1 + 1), 0, none⟩)), (5, .int .i64 0), (14, .bool st)]) (fun st => Sat w Z [(b1, api_Arp.o a0), ((b1 + 1), .cells #[.int .u64 0, .int .u64 0, .bool false, .int .i64 0, .bool false, .int .i64 0, .int .i64 0, .string (⟨#[]⟩ : ByteArray)] 40 (0, 0))] [] Glob) (fun st hM => ?_) (fun K2 => ?_)
  ·
    obtain ⟨x5, rfl⟩ : ∃ y, y = st := ⟨st, rfl⟩
    replace hM : arp_Tell.k2 k a1 a0 x5 = some r := hM
    unfold arp_Tell.k2 at hM
    show WL _ _ _ _ _ [(1, .int .u64 a1), (2, .pointer (some ⟨b1, 0, none⟩)), (4, .pointer (some ⟨(b1 + 1), 0, none⟩)), (5, .int .i64 0), (14, .bool x5)] (Sat w Z [(b1, api_Arp.o a0), ((b1 + 1), .cells #[.int .u64 0, .int .u64 0, .bool false, .int .i64 0, .bool false, .int .i64 0, .int .i64 0, .string (⟨#[]⟩ : ByteArray)] 40 (0, 0))] [] Glob)
    refine WL.rn 1 [] [(15, .bool x5)] ?_
    refine WL.join (σ := Bool) 4 (fun st => arp_Tell.k1 k a1 a0 st = some r) (fun st => [(1, .int .u64 a1), (2, .pointer (some ⟨b1, 0, none⟩)), (4, .pointer (some ⟨(b1 + 1), 0, none⟩)), (5, .int .i64 0), (19, .bool st)]) (fun st => Sat w Z [(b1, api_Arp.o a0), ((b1 + 1), .cells #[.int .u64 0, .int .u64 0, .bool false, .int .i64 0, .bool false, .int .i64 0, .int .i64 0, .string (⟨#[]⟩ : ByteArray)] 40 (0, 0))] [] Glob) (fun st hM => ?_) (fun K1 => ?_)
    ·
      obtain ⟨x9, rfl⟩ : ∃ y, y = st := ⟨st, rfl⟩
      replace hM : arp_Tell.k1 k a1 a0 x9 = some r := hM
      unfold arp_Tell.k1 at hM
      show WL _ _ _ _ _ [(1, .int .u64 a1), (2, .pointer (some ⟨b1, 0, none⟩)), (4, .pointer (some ⟨(b1 + 1), 0, none⟩)), (5, .int .i64 0), (19, .bool x9)] (Sat w Z [(b1, api_Arp.o a0), ((b1 + 1), .cells #[.int .u64 0, .int .u64 0, .bool false, .int .i64 0, .bool false, .int .i64 0, .int .i64 0, .string (⟨#[]⟩ : ByteArray)] 40 (0, 0))] [] Glob)
      refine WP.done ?_
      refine WP.cond x9 rfl rfl (fun c10 => ?_) (fun c10 => ?_)
      · replace hM := cond_t hM c10
        refine WP.seq ?_
        refine WP.rn [1, 1, 1, 1, 1, 1, 1, 1] [(5, .int .i64 51)] ?_
        obtain rfl := Option.some.inj hM
        exact WP.ret [1, 1, 1, 1, 1, 1, 1, 1] [(b1 + 1), (b1 + 1), (b1 + 1), (b1 + 1), (b1 + 1), (b1 + 1), (b1 + 1), (b1 + 1)] (.tuple #[.agg #[.int .u64 0, .int .u64 0, .bool false, .int .i64 0, .bool false, .int .i64 0, .int .i64 0, .string (⟨#[]⟩ : ByteArray)], .int .i64 51]) (by kernel_rfl) (fun w' hw => ⟨rfl, hw.pick [] rfl⟩)
      · replace hM := cond_f hM c10
        refine WP.skip ?_
        refine WP.seq ?_
        refine WP.rh [0, 0, 0, 2, 2, 2, 2, 2] (fun b11 => [(6, .pointer (some ⟨b11, 0, none⟩))]) (fun b11 => []) (fun b11 => [(b11, .cells #[.int .i64 2, .int .u64 a1, .int .u32 a0.TIp, .int .u64 a0.SMac, .int .u32 a0.SIp] 51 (0, 0))]) (fun b11 => ?_)
        refine WP.seq ?_
        obtain ⟨r13, h14, hM⟩ := bind_some hM
        refine WP.sub [1, 2, 4, 5, 6] (L' := [(1, .int .u64 a1), (2, .pointer (some ⟨b1, 0, none⟩)), (4, .pointer (some ⟨(b1 + 1), 0, none⟩)), (5, .int .i64 0), (6, .pointer (some ⟨b11, 0, none⟩))]) (by kernel_rfl) ?_
        refine WP.mixed (X := Unit) 5 [.val (.pointer (some ⟨b1, 1, none⟩)), .val (.int .u64 a0.SMac), .val (.int .u64 a1), .val (.agg #[.int .i64 2, .int .u64 a1, .int .u32 a0.TIp, .int .u64 a0.SMac, .int .u32 a0.SIp]), .val (.string r13)] [(b1, api_Arp.o a0), ((b1 + 1), .cells #[.int .u64 0, .int .u64 0, .bool false, .int .i64 0, .bool false, .int .i64 0, .int .i64 0, .string (⟨#[]⟩ : ByteArray)] 40 (0, 0)), (b11, .cells #[.int .i64 2, .int .u64 a1, .int .u32 a0.TIp, .int .u64 a0.SMac, .int .u32 a0.SIp] 51 (0, 0))] [] (by kernel_rfl) (by kernel_rfl) (by kernel_rfl) (by kernel_rfl) (Heads.val (fun tt Ψ => OpV.run [] [] (by kernel_rfl) (fun _ => by kernel_rfl)) (Heads.val (fun tt Ψ => OpV.run [0] [b1] (by kernel_rfl) (fun _ => by kernel_rfl)) (Heads.val (fun tt Ψ => OpV.run [] [] (by kernel_rfl) (fun _ => by kernel_rfl)) (Heads.val (fun tt Ψ => OpV.run [2, 2, 2, 2, 2] [b11, b11, b11, b11, b11] (by kernel_rfl) (fun _ => by kernel_rfl)) (Heads.val (fun tt Ψ => OpV.callF [] [] (fun _ h => (List.mem_append_right _ h)) (arp_laid_calls k (api_Arp.mk 2 a1 a0.TIp a0.SMac a0.SIp) _ h14)  (fun _ => by kernel_rfl)) Heads.nil))))) (fun s12 tt => [(29, .pointer (some ⟨b1, 1, none⟩)), (30, .int .u64 a0.SMac), (31, .int .u64 a1), (32, .agg #[.int .i64 2, .int .u64 a1, .int .u32 a0.TIp, .int .u64 a0.SMac, .int .u32 a0.SIp]), (33, .string r13), (1, .int .u64 a1), (2, .pointer (some ⟨b1, 0, none⟩)), (4, .pointer (some ⟨(b1 + 1), 0, none⟩)), (5, .int .i64 0), (6, .pointer (some ⟨b11, 0, none⟩))]) (fun s12 tt => [(b1, api_Arp.o a0), ((b1 + 1), .cells #[.int .u64 0, .int .u64 0, .bool false, .int .i64 0, .bool false, .int .i64 0, .int .i64 0, .string (⟨#[]⟩ : ByteArray)] 40 (0, 0)), (b11, .cells #[.int .i64 2, .int .u64 a1, .int .u32 a0.TIp, .int .u64 a0.SMac, .int .u32 a0.SIp] 51 (0, 0))]) (fun tt => Glob) (fun _ _ => by kernel_rfl) (fun _ _ => by kernel_rfl) (fun _ => by kernel_rfl) (fun s12 tt => ?_)
        refine WL.rh 3 [1, 1, 1, 1, 1, 1, 1, 1] (fun _ => [(5, .int .i64 0)]) (fun _ => [(1, 0, [.int .u64 a0.SMac, .int .u64 a1]), (1, 6, [.int .i64 2054, .string r13])]) (fun _ => []) (fun _ => ?_)
        refine WP.done ?_
        refine WP.kp [false, true, false] ?_
        obtain rfl := Option.some.inj hM
        exact WP.ret [0, 0, 0, 0, 0, 0, 0, 0] [(b1 + 1), (b1 + 1), (b1 + 1), (b1 + 1), (b1 + 1), (b1 + 1), (b1 + 1), (b1 + 1)] (.tuple #[.agg #[.int .u64 a0.SMac, .int .u64 a1, .bool false, .int .i64 0, .bool false, .int .i64 0, .int .i64 2054, .string r13], .int .i64 0]) (by kernel_rfl) (fun w' hw => ⟨rfl, hw.pick [] rfl⟩)
    ·
      refine WL.sp 15 x5 (fun c6 => ?_) (fun c6 => ?_)
      · replace hM := cond_t hM c6
        refine WL.rn 4 [] [(19, .bool true)] ?_
        exact WL.sub [1, 2, 4, 5, 19] (by kernel_rfl) (WL.pick [0, 1] (by kernel_rfl) (by kernel_rfl) (K1 true hM))
      · replace hM := cond_f hM c6
        refine WL.rn 1 [] [(16, .int .u64 a1)] ?_
        obtain ⟨r7, h8, hM⟩ := bind_some hM
        refine WL.callP [] [] (addrs_Own_calls a1 _ h8) (fun _ h => h) (by kernel_rfl) (by kernel_rfl) rfl ?_
        refine WL.rn 2 [] [(19, .bool (!r7))] ?_
        exact WL.sub [1, 2, 4, 5, 19] (by kernel_rfl) (WL.pick [0, 1] (by kernel_rfl) (by kernel_rfl) (K1 (!r7) hM))
  ·
    refine WL.sp 10 (a0.Op != 1) (fun c2 => ?_) (fun c2 => ?_)
    · replace hM := cond_t hM c2
      refine WL.rn 4 [] [(14, .bool true)] ?_
      exact WL.sub [1, 2, 4, 5, 14] (by kernel_rfl) (WL.pick [0, 1] (by kernel_rfl) (by kernel_rfl) (K2 true hM))
    · replace hM := cond_f hM c2
      refine WL.rn 1 [0, 0, 0, 0, 0] [(11, api_Arp.v a0)] ?_
      obtain ⟨r3, h4, hM⟩ := bind_some hM
      refine WL.callP [] [] (arp_Check_calls a0 _ h4) (fun _ h => h) (by kernel_rfl) (by kernel_rfl) rfl ?_
      refine WL.rn 2 [] [(14, .bool (r3 != 0))] ?_
      exact WL.sub [1, 2, 4, 5, 14] (by kernel_rfl) (WL.pick [0, 1] (by kernel_rfl) (by kernel_rfl) (K2 (r3 != 0) hM))

end Go.Proofs.YtbbekdmndifkpaaGreatDoor

namespace Go.Proofs.YtbbekdmndifkpaaGreatDoor
open Go Eng
set_option linter.unusedVariables false
set_option linter.unusedSimpArgs false

/-! ### gangway/trace.Same: function 10 -/
def trace_Same.f (k : Nat) (a0 : (List api_Gate)) (a1 : api_Event) (a2 : api_Event) : Option (Bool) :=
  (trace_of.f k a0 a1).bind fun r2 =>
  (trace_of.f k a0 a2).bind fun r4 =>
  (trace_same.f k a0 r2 r4).bind fun r6 =>
  some r6

set_option maxRecDepth 100000 in
theorem trace_Same_calls (k : Nat) (A00 : SkL ((SkL (SkL Unit)) × (SkL Unit) × (SkL (SkL Unit)) × (SkL Unit))) (a0 : (List api_Gate)) (a1 : api_Event) (a2 : api_Event) (r : Bool) (h : trace_Same.f k a0 a1 a2 = some r) : Pure Tryz.prog ([Row 21 api_Gate.encS api_Gate.inK A00 a0] ++ Glob) 10 #[slcV A00 a0.length, api_Event.v a1, api_Event.v a2] (.bool r) := by
  intro w Z hS
  refine calls_of (args := [slcV A00 a0.length, api_Event.v a1, api_Event.v a2]) (L := [(0, slcV A00 a0.length), (1, api_Event.v a1), (2, api_Event.v a2)]) (N := 15) (S := Sat w Z [] [] ([Row 21 api_Gate.encS api_Gate.inK A00 a0] ++ Glob)) Tryz.func10 rfl rfl (Nat.le_of_ble_eq_true rfl) rfl hS ?_
  have hM := h
  clear h hS
  unfold trace_Same.f at hM
  refine WP.seq ?_
  refine WP.rh [] (fun b1 => [(4, .pointer (some ⟨b1, 0, none⟩)), (5, .pointer (some ⟨(b1 + 1), 0, none⟩)), (6, .bool false)]) (fun b1 => []) (fun b1 => [(b1, api_Event.o a1), ((b1 + 1), api_Event.o a2)]) (fun b1 => ?_)
  refine WP.seq ?_
  refine WP.quiet (by kernel_rfl) (by kernel_rfl) ?_
  refine QL.rn 3 [0, 0, 0, 0] [(7, slcV A00 a0.length), (8, slcV A00 a0.length), (9, api_Event.v a1)] ?_
  obtain ⟨r2, h3, hM⟩ := bind_some hM
  refine QL.callP [] [] (trace_of_calls k A00 a0 a1 _ h3) (sub_pick [0] (by kernel_rfl)) (by kernel_rfl) (by kernel_rfl) rfl ?_
  refine QL.rn 2 [1, 1, 1, 1] [(11, slcV A00 a0.length), (12, api_Event.v a2)] ?_
  obtain ⟨r4, h5, hM⟩ := bind_some hM
  refine QL.callP [] [] (trace_of_calls k A00 a0 a2 _ h5) (sub_pick [0] (by kernel_rfl)) (by kernel_rfl) (by kernel_rfl) rfl ?_
  obtain ⟨r6, h7, hM⟩ := bind_some hM
  refine QL.callP [] [] (trace_same_calls k A00 a0 r2 r4 _ h7) (sub_pick [0] (by kernel_rfl)) (by kernel_rfl) (by kernel_rfl) rfl ?_
  refine QL.rn 1 [] [(6, .bool r6)] ?_
  refine QL.done ?_
  refine WP.kp [false, false] ?_
  obtain rfl := Option.some.inj hM
  exact WP.ret [] [] (.bool r6) (by kernel_rfl) (fun w' hw => ⟨rfl, (hw.pick [] rfl).lessF [0] (by kernel_rfl)⟩)

end Go.Proofs.YtbbekdmndifkpaaGreatDoor

namespace Go.Proofs.YtbbekdmndifkpaaGreatDoor
open Go Eng
set_option linter.unusedVariables false
set_option linter.unusedSimpArgs false

/-! ### gangway/gangwaylaw28.fixed: function 8 -/
def gangwaylaw28_fixed.k1 (x62 : Bool) : Option (Bool) :=
  some x62

def gangwaylaw28_fixed.k2 (k : Nat) (r1 : (List api_Gate)) (r4 : ByteArray) (x58 : Bool) : Option (Bool) :=
  bif x58 then
    (trace_Same.f k r1 (api_Event.mk true 1 1 r4) (api_Event.mk false 3 0 (⟨#[]⟩ : ByteArray))).bind fun r60 =>
    gangwaylaw28_fixed.k1 (!r60)
  else
    gangwaylaw28_fixed.k1 false

def gangwaylaw28_fixed.k3 (k : Nat) (r1 : (List api_Gate)) (r4 : ByteArray) (x54 : Bool) : Option (Bool) :=
  bif x54 then
    (trace_Same.f k r1 (api_Event.mk true 1 1 r4) (api_Event.mk false 2 1 r4)).bind fun r56 =>
    gangwaylaw28_fixed.k2 k r1 r4 r56
  else
    gangwaylaw28_fixed.k2 k r1 r4 false

def gangwaylaw28_fixed.k4 (k : Nat) (r1 : (List api_Gate)) (r16 : ByteArray) (r29 : ByteArray) (r11 : ByteArray) (r4 : ByteArray) (x49 : Bool) : Option (Bool) :=
  bif x49 then
    (trace_First.f k r1 ([(api_Event.mk true 1 1 r16), (api_Event.mk false 1 1 r29), (api_Event.mk true 2 2 r11)] : List api_Event)).bind fun r52 =>
    gangwaylaw28_fixed.k3 k r1 r4 (r52 == 1)
  else
    gangwaylaw28_fixed.k3 k r1 r4 false

def gangwaylaw28_fixed.k5 (k : Nat) (r1 : (List api_Gate)) (r11 : ByteArray) (r16 : ByteArray) (r29 : ByteArray) (r4 : ByteArray) (x44 : Bool) : Option (Bool) :=
  bif x44 then
    (trace_First.f k r1 ([(api_Event.mk true 2 2 r11), (api_Event.mk true 1 1 r16), (api_Event.mk false 1 1 r29)] : List api_Event)).bind fun r47 =>
    gangwaylaw28_fixed.k4 k r1 r16 r29 r11 r4 (r47 == (-1))
  else
    gangwaylaw28_fixed.k4 k r1 r16 r29 r11 r4 false

def gangwaylaw28_fixed.k6 (k : Nat) (r1 : (List api_Gate)) (r4 : ByteArray) (r11 : ByteArray) (r16 : ByteArray) (r29 : ByteArray) (x39 : Bool) : Option (Bool) :=
  bif x39 then
    (trace_First.f k r1 ([(api_Event.mk true 1 1 r4), (api_Event.mk false 1 1 r4)] : List api_Event)).bind fun r42 =>
    gangwaylaw28_fixed.k5 k r1 r11 r16 r29 r4 (r42 == 1)
  else
    gangwaylaw28_fixed.k5 k r1 r11 r16 r29 r4 false

def gangwaylaw28_fixed.f (k : Nat) : Option (Bool) :=
  (gangwaylaw27_Pair.f).bind fun r1 =>
  (gangwaylaw28_bytes.f k (api_Frame.mk 281474976710655 6 (api_Tag.mk false 0 false 0) 2048 (⟨#[]⟩ : ByteArray))).bind fun r4 =>
  (arp_Ask.f k 10 100 9).bind fun r9 =>
  (gangwaylaw28_bytes.f k r9).bind fun r11 =>
  (arp_Ask.f k 6 50 100).bind fun r14 =>
  (gangwaylaw28_bytes.f k r14).bind fun r16 =>
  (arp_Ask.f k 6 50 100).bind fun r19 =>
  (arp_Of.f k r19).bind fun (r21, r22) =>
  (arp_Tell.f k r21 10).bind fun (r25, r26) =>
  (gangwaylaw28_bytes.f k r25).bind fun r29 =>
  (trace_First.f k r1 ([(api_Event.mk true 1 1 r4), (api_Event.mk false 2 1 r4)] : List api_Event)).bind fun r33 =>
  bif (r33 == (-1)) then
    (trace_First.f k r1 ([(api_Event.mk false 2 1 r4), (api_Event.mk true 1 1 r4)] : List api_Event)).bind fun r37 =>
    gangwaylaw28_fixed.k6 k r1 r4 r11 r16 r29 (r37 == 0)
  else
    gangwaylaw28_fixed.k6 k r1 r4 r11 r16 r29 false

set_option maxRecDepth 100000 in
theorem gangwaylaw28_fixed_calls (k : Nat) (r : Bool) (h : gangwaylaw28_fixed.f k = some r) : Pure Tryz.prog Glob 8 #[] (.bool r) := by
  intro w Z hS
  refine calls_of (args := []) (L := []) (N := 94) (S := Sat w Z [] [] Glob) Tryz.func8 rfl rfl (Nat.le_of_ble_eq_true rfl) rfl hS ?_
  have hM := h
  clear h hS
  unfold gangwaylaw28_fixed.f at hM
  refine WP.less (Φ' := [] ++ Glob) (fun _ h => h) ?_
  refine WP.seq ?_
  refine WP.rn [] [(0, .bool false)] ?_
  refine WP.seq ?_
  refine WP.region ?_
  obtain ⟨r1, h2, hM⟩ := bind_some hM
  refine WL.callX (F0 := []) [] [] [] (fun _ => _) [] (by kernel_rfl) (gangwaylaw27_Pair_calls _ h2) rfl rfl (by kernel_rfl) (by kernel_rfl) (fun _ => rfl) (fun A3 => ?_)
  refine WL.rn 1 [] [(1, slcV A3 r1.length)] ?_
  refine WP.done ?_
  refine WP.seq ?_
  refine WP.region ?_
  refine WL.rn 1 [] [(14, .agg #[.int .u64 281474976710655, .int .u64 6, .bool false, .int .i64 0, .bool false, .int .i64 0, .int .i64 2048, .string (⟨#[]⟩ : ByteArray)])] ?_
  obtain ⟨r4, h5, hM⟩ := bind_some hM
  refine WL.callP [] [] (gangwaylaw28_bytes_calls k (api_Frame.mk 281474976710655 6 (api_Tag.mk false 0 false 0) 2048 (⟨#[]⟩ : ByteArray)) _ h5) (fun _ h => List.mem_append_right _ h) (by kernel_rfl) (by kernel_rfl) rfl ?_
  refine WL.rn 1 [] [(2, .string r4)] ?_
  refine WP.done ?_
  refine WP.seq ?_
  refine WP.rh [0, 0, 0, 0] (fun b6 => [(3, .pointer (some ⟨b6, 0, none⟩))]) (fun b6 => []) (fun b6 => [(b6, .cells #[.bool true, .int .i64 1, .int .i64 1, .string r4] 28 (0, 0))]) (fun b6 => ?_)
  refine WP.seq ?_
  refine WP.rh [1, 1, 1, 1] (fun b7 => [(4, .pointer (some ⟨b7, 0, none⟩))]) (fun b7 => []) (fun b7 => [(b7, .cells #[.bool false, .int .i64 2, .int .i64 1, .string r4] 28 (0, 0))]) (fun b7 => ?_)
  refine WP.seq ?_
  refine WP.rh [2, 2, 2, 2] (fun b8 => [(5, .pointer (some ⟨b8, 0, none⟩))]) (fun b8 => []) (fun b8 => [(b8, .cells #[.bool false, .int .i64 1, .int .i64 1, .string r4] 28 (0, 0))]) (fun b8 => ?_)
  refine WP.seq ?_
  refine WP.region ?_
  obtain ⟨r9, h10, hM⟩ := bind_some hM
  refine WL.callP [] [] (arp_Ask_calls k 10 100 9 _ h10) (fun _ h => List.mem_append_right _ h) (by kernel_rfl) (by kernel_rfl) rfl ?_
  obtain ⟨r11, h12, hM⟩ := bind_some hM
  refine WL.callP [] [] (gangwaylaw28_bytes_calls k r9 _ h12) (fun _ h => List.mem_append_right _ h) (by kernel_rfl) (by kernel_rfl) rfl ?_
  refine WL.rh 3 [3, 3, 3, 3] (fun b13 => [(6, .pointer (some ⟨b13, 0, none⟩))]) (fun b13 => []) (fun b13 => [(b13, .cells #[.bool true, .int .i64 2, .int .i64 2, .string r11] 28 (0, 0))]) (fun b13 => ?_)
  refine WP.done ?_
  refine WP.seq ?_
  refine WP.region ?_
  obtain ⟨r14, h15, hM⟩ := bind_some hM
  refine WL.callP [] [] (arp_Ask_calls k 6 50 100 _ h15) (fun _ h => List.mem_append_right _ h) (by kernel_rfl) (by kernel_rfl) rfl ?_
  obtain ⟨r16, h17, hM⟩ := bind_some hM
  refine WL.callP [] [] (gangwaylaw28_bytes_calls k r14 _ h17) (fun _ h => List.mem_append_right _ h) (by kernel_rfl) (by kernel_rfl) rfl ?_
  refine WL.rh 3 [4, 4, 4, 4] (fun b18 => [(7, .pointer (some ⟨b18, 0, none⟩))]) (fun b18 => []) (fun b18 => [(b18, .cells #[.bool true, .int .i64 1, .int .i64 1, .string r16] 28 (0, 0))]) (fun b18 => ?_)
  refine WP.done ?_
  refine WP.seq ?_
  refine WP.region ?_
  obtain ⟨r19, h20, hM⟩ := bind_some hM
  refine WL.callP [] [] (arp_Ask_calls k 6 50 100 _ h20) (fun _ h => List.mem_append_right _ h) (by kernel_rfl) (by kernel_rfl) rfl ?_
  obtain ⟨⟨r21, r22⟩, h23, hM⟩ := bind_some hM
  dsimp only at hM
  refine WL.callP [] [] (arp_Of_calls k r19 _ h23) (fun _ h => List.mem_append_right _ h) (by kernel_rfl) (by kernel_rfl) rfl ?_
  refine WL.rh 6 [5, 5, 5, 5, 5] (fun b24 => [(8, .pointer (some ⟨b24, 0, none⟩))]) (fun b24 => []) (fun b24 => [(b24, api_Arp.o r21)]) (fun b24 => ?_)
  refine WP.done ?_
  refine WP.seq ?_
  refine WP.region ?_
  refine WL.rn 1 [5, 5, 5, 5, 5] [(34, api_Arp.v r21)] ?_
  obtain ⟨⟨r25, r26⟩, h27, hM⟩ := bind_some hM
  dsimp only at hM
  refine WL.callP [] [] (arp_Tell_calls k r21 10 _ h27) (fun _ h => List.mem_append_right _ h) (by kernel_rfl) (by kernel_rfl) rfl ?_
  refine WL.rh 6 [6, 6, 6, 6, 6, 6, 6, 6] (fun b28 => [(10, .pointer (some ⟨b28, 0, none⟩))]) (fun b28 => []) (fun b28 => [(b28, api_Frame.o r25)]) (fun b28 => ?_)
  refine WP.done ?_
  refine WP.kp [true, true, true, true, true, false, true] ?_
  refine WP.seq ?_
  refine WP.region ?_
  refine WL.rn 1 [5, 5, 5, 5, 5, 5, 5, 5] [(38, api_Frame.v r25)] ?_
  obtain ⟨r29, h30, hM⟩ := bind_some hM
  refine WL.callP [] [] (gangwaylaw28_bytes_calls k r25 _ h30) (fun _ h => List.mem_append_right _ h) (by kernel_rfl) (by kernel_rfl) rfl ?_
  refine WL.rh 3 [6, 6, 6, 6] (fun b31 => [(12, .pointer (some ⟨b31, 0, none⟩))]) (fun b31 => []) (fun b31 => [(b31, .cells #[.bool false, .int .i64 1, .int .i64 1, .string r29] 28 (0, 0))]) (fun b31 => ?_)
  refine WP.done ?_
  refine WP.kp [true, true, true, true, true, false, true] ?_
  refine WP.seq ?_
  refine WP.region ?_
  refine WL.rh 4 [0, 0, 0, 0, 1, 1, 1, 1] (fun b32 => [(41, slcV A3 r1.length), (44, .slice (some ⟨b32, 0, none⟩) 2 2)]) (fun b32 => []) (fun b32 => [(b32, .cells #[.bool true, .int .i64 1, .int .i64 1, .string r4, .bool false, .int .i64 2, .int .i64 1, .string r4] 28 (0, 0))]) (fun b32 => ?_)
  refine WL.ice (H' := [(b6, .cells #[.bool true, .int .i64 1, .int .i64 1, .string r4] 28 (0, 0)), (b7, .cells #[.bool false, .int .i64 2, .int .i64 1, .string r4] 28 (0, 0)), (b8, .cells #[.bool false, .int .i64 1, .int .i64 1, .string r4] 28 (0, 0)), (b13, .cells #[.bool true, .int .i64 2, .int .i64 2, .string r11] 28 (0, 0)), (b18, .cells #[.bool true, .int .i64 1, .int .i64 1, .string r16] 28 (0, 0)), (b31, .cells #[.bool false, .int .i64 1, .int .i64 1, .string r29] 28 (0, 0))]) (Row 4 (pl api_Event.enc) noK (SkL.at b32 2 (fun _ => ())) ([(api_Event.mk true 1 1 r4), (api_Event.mk false 2 1 r4)] : List api_Event)) 6 (b := b32) (ob := .cells #[.bool true, .int .i64 1, .int .i64 1, .string r4, .bool false, .int .i64 2, .int .i64 1, .string r4] 28 (0, 0)) (by kernel_rfl) [] [] (by kernel_rfl) (fun w hb hψ => row_of_block hb (fun _ _ => rfl) ⟨[], by kernel_rfl⟩ (Nat.le_of_ble_eq_true rfl) (InK.no _ _)) (by kernel_rfl) ?_
  obtain ⟨r33, h34, hM⟩ := bind_some hM
  refine WL.callP [] [] (trace_First_calls k A3 (SkL.at b32 2 (fun _ => ())) r1 ([(api_Event.mk true 1 1 r4), (api_Event.mk false 2 1 r4)] : List api_Event) _ h34) (sub_pick [1, 0] (by kernel_rfl)) (by kernel_rfl) (by kernel_rfl) rfl ?_
  refine WL.rn 2 [] [(47, .bool (r33 == (-1)))] ?_
  refine WL.join (σ := Bool) 7 (fun st => gangwaylaw28_fixed.k6 k r1 r4 r11 r16 r29 st = some r) (fun st => [(0, .bool false), (1, slcV A3 r1.length), (3, .pointer (some ⟨b6, 0, none⟩)), (4, .pointer (some ⟨b7, 0, none⟩)), (5, .pointer (some ⟨b8, 0, none⟩)), (6, .pointer (some ⟨b13, 0, none⟩)), (7, .pointer (some ⟨b18, 0, none⟩)), (12, .pointer (some ⟨b31, 0, none⟩)), (54, .bool st)]) (fun st => Sat w Z [(b6, .cells #[.bool true, .int .i64 1, .int .i64 1, .string r4] 28 (0, 0)), (b7, .cells #[.bool false, .int .i64 2, .int .i64 1, .string r4] 28 (0, 0)), (b8, .cells #[.bool false, .int .i64 1, .int .i64 1, .string r4] 28 (0, 0)), (b13, .cells #[.bool true, .int .i64 2, .int .i64 2, .string r11] 28 (0, 0)), (b18, .cells #[.bool true, .int .i64 1, .int .i64 1, .string r16] 28 (0, 0)), (b31, .cells #[.bool false, .int .i64 1, .int .i64 1, .string r29] 28 (0, 0))] [] ([Row 4 (pl api_Event.enc) noK (SkL.at b32 2 (fun _ => ())) ([(api_Event.mk true 1 1 r4), (api_Event.mk false 2 1 r4)] : List api_Event), Row 21 api_Gate.encS api_Gate.inK A3 r1] ++ Glob)) (fun st hM => ?_) (fun K6 => ?_)
  ·
    obtain ⟨x39, rfl⟩ : ∃ y, y = st := ⟨st, rfl⟩
    replace hM : gangwaylaw28_fixed.k6 k r1 r4 r11 r16 r29 x39 = some r := hM
    unfold gangwaylaw28_fixed.k6 at hM
    show WL _ _ _ _ _ [(0, .bool false), (1, slcV A3 r1.length), (3, .pointer (some ⟨b6, 0, none⟩)), (4, .pointer (some ⟨b7, 0, none⟩)), (5, .pointer (some ⟨b8, 0, none⟩)), (6, .pointer (some ⟨b13, 0, none⟩)), (7, .pointer (some ⟨b18, 0, none⟩)), (12, .pointer (some ⟨b31, 0, none⟩)), (54, .bool x39)] (Sat w Z [(b6, .cells #[.bool true, .int .i64 1, .int .i64 1, .string r4] 28 (0, 0)), (b7, .cells #[.bool false, .int .i64 2, .int .i64 1, .string r4] 28 (0, 0)), (b8, .cells #[.bool false, .int .i64 1, .int .i64 1, .string r4] 28 (0, 0)), (b13, .cells #[.bool true, .int .i64 2, .int .i64 2, .string r11] 28 (0, 0)), (b18, .cells #[.bool true, .int .i64 1, .int .i64 1, .string r16] 28 (0, 0)), (b31, .cells #[.bool false, .int .i64 1, .int .i64 1, .string r29] 28 (0, 0))] [] ([Row 4 (pl api_Event.enc) noK (SkL.at b32 2 (fun _ => ())) ([(api_Event.mk true 1 1 r4), (api_Event.mk false 2 1 r4)] : List api_Event), Row 21 api_Gate.encS api_Gate.inK A3 r1] ++ Glob))
    refine WL.rn 1 [] [(55, .bool x39)] ?_
    refine WL.join (σ := Bool) 7 (fun st => gangwaylaw28_fixed.k5 k r1 r11 r16 r29 r4 st = some r) (fun st => [(0, .bool false), (1, slcV A3 r1.length), (3, .pointer (some ⟨b6, 0, none⟩)), (4, .pointer (some ⟨b7, 0, none⟩)), (6, .pointer (some ⟨b13, 0, none⟩)), (7, .pointer (some ⟨b18, 0, none⟩)), (12, .pointer (some ⟨b31, 0, none⟩)), (62, .bool st)]) (fun st => Sat w Z [(b6, .cells #[.bool true, .int .i64 1, .int .i64 1, .string r4] 28 (0, 0)), (b7, .cells #[.bool false, .int .i64 2, .int .i64 1, .string r4] 28 (0, 0)), (b13, .cells #[.bool true, .int .i64 2, .int .i64 2, .string r11] 28 (0, 0)), (b18, .cells #[.bool true, .int .i64 1, .int .i64 1, .string r16] 28 (0, 0)), (b31, .cells #[.bool false, .int .i64 1, .int .i64 1, .string r29] 28 (0, 0))] [] ([Row 4 (pl api_Event.enc) noK (SkL.at b32 2 (fun _ => ())) ([(api_Event.mk true 1 1 r4), (api_Event.mk false 2 1 r4)] : List api_Event), Row 21 api_Gate.encS api_Gate.inK A3 r1] ++ Glob)) (fun st hM => ?_) (fun K5 => ?_)
    ·
      obtain ⟨x44, rfl⟩ : ∃ y, y = st := ⟨st, rfl⟩
      replace hM : gangwaylaw28_fixed.k5 k r1 r11 r16 r29 r4 x44 = some r := hM
      unfold gangwaylaw28_fixed.k5 at hM
      show WL _ _ _ _ _ [(0, .bool false), (1, slcV A3 r1.length), (3, .pointer (some ⟨b6, 0, none⟩)), (4, .pointer (some ⟨b7, 0, none⟩)), (6, .pointer (some ⟨b13, 0, none⟩)), (7, .pointer (some ⟨b18, 0, none⟩)), (12, .pointer (some ⟨b31, 0, none⟩)), (62, .bool x44)] (Sat w Z [(b6, .cells #[.bool true, .int .i64 1, .int .i64 1, .string r4] 28 (0, 0)), (b7, .cells #[.bool false, .int .i64 2, .int .i64 1, .string r4] 28 (0, 0)), (b13, .cells #[.bool true, .int .i64 2, .int .i64 2, .string r11] 28 (0, 0)), (b18, .cells #[.bool true, .int .i64 1, .int .i64 1, .string r16] 28 (0, 0)), (b31, .cells #[.bool false, .int .i64 1, .int .i64 1, .string r29] 28 (0, 0))] [] ([Row 4 (pl api_Event.enc) noK (SkL.at b32 2 (fun _ => ())) ([(api_Event.mk true 1 1 r4), (api_Event.mk false 2 1 r4)] : List api_Event), Row 21 api_Gate.encS api_Gate.inK A3 r1] ++ Glob))
      refine WL.rn 1 [] [(63, .bool x44)] ?_
      refine WL.join (σ := Bool) 8 (fun st => gangwaylaw28_fixed.k4 k r1 r16 r29 r11 r4 st = some r) (fun st => [(0, .bool false), (1, slcV A3 r1.length), (3, .pointer (some ⟨b6, 0, none⟩)), (4, .pointer (some ⟨b7, 0, none⟩)), (6, .pointer (some ⟨b13, 0, none⟩)), (7, .pointer (some ⟨b18, 0, none⟩)), (12, .pointer (some ⟨b31, 0, none⟩)), (71, .bool st)]) (fun st => Sat w Z [(b6, .cells #[.bool true, .int .i64 1, .int .i64 1, .string r4] 28 (0, 0)), (b7, .cells #[.bool false, .int .i64 2, .int .i64 1, .string r4] 28 (0, 0)), (b13, .cells #[.bool true, .int .i64 2, .int .i64 2, .string r11] 28 (0, 0)), (b18, .cells #[.bool true, .int .i64 1, .int .i64 1, .string r16] 28 (0, 0)), (b31, .cells #[.bool false, .int .i64 1, .int .i64 1, .string r29] 28 (0, 0))] [] ([Row 4 (pl api_Event.enc) noK (SkL.at b32 2 (fun _ => ())) ([(api_Event.mk true 1 1 r4), (api_Event.mk false 2 1 r4)] : List api_Event), Row 21 api_Gate.encS api_Gate.inK A3 r1] ++ Glob)) (fun st hM => ?_) (fun K4 => ?_)
      ·
        obtain ⟨x49, rfl⟩ : ∃ y, y = st := ⟨st, rfl⟩
        replace hM : gangwaylaw28_fixed.k4 k r1 r16 r29 r11 r4 x49 = some r := hM
        unfold gangwaylaw28_fixed.k4 at hM
        show WL _ _ _ _ _ [(0, .bool false), (1, slcV A3 r1.length), (3, .pointer (some ⟨b6, 0, none⟩)), (4, .pointer (some ⟨b7, 0, none⟩)), (6, .pointer (some ⟨b13, 0, none⟩)), (7, .pointer (some ⟨b18, 0, none⟩)), (12, .pointer (some ⟨b31, 0, none⟩)), (71, .bool x49)] (Sat w Z [(b6, .cells #[.bool true, .int .i64 1, .int .i64 1, .string r4] 28 (0, 0)), (b7, .cells #[.bool false, .int .i64 2, .int .i64 1, .string r4] 28 (0, 0)), (b13, .cells #[.bool true, .int .i64 2, .int .i64 2, .string r11] 28 (0, 0)), (b18, .cells #[.bool true, .int .i64 1, .int .i64 1, .string r16] 28 (0, 0)), (b31, .cells #[.bool false, .int .i64 1, .int .i64 1, .string r29] 28 (0, 0))] [] ([Row 4 (pl api_Event.enc) noK (SkL.at b32 2 (fun _ => ())) ([(api_Event.mk true 1 1 r4), (api_Event.mk false 2 1 r4)] : List api_Event), Row 21 api_Gate.encS api_Gate.inK A3 r1] ++ Glob))
        refine WL.rn 1 [] [(72, .bool x49)] ?_
        refine WL.join (σ := Bool) 8 (fun st => gangwaylaw28_fixed.k3 k r1 r4 st = some r) (fun st => [(0, .bool false), (1, slcV A3 r1.length), (3, .pointer (some ⟨b6, 0, none⟩)), (4, .pointer (some ⟨b7, 0, none⟩)), (80, .bool st)]) (fun st => Sat w Z [(b6, .cells #[.bool true, .int .i64 1, .int .i64 1, .string r4] 28 (0, 0)), (b7, .cells #[.bool false, .int .i64 2, .int .i64 1, .string r4] 28 (0, 0))] [] ([Row 4 (pl api_Event.enc) noK (SkL.at b32 2 (fun _ => ())) ([(api_Event.mk true 1 1 r4), (api_Event.mk false 2 1 r4)] : List api_Event), Row 21 api_Gate.encS api_Gate.inK A3 r1] ++ Glob)) (fun st hM => ?_) (fun K3 => ?_)
        ·
          obtain ⟨x54, rfl⟩ : ∃ y, y = st := ⟨st, rfl⟩
          replace hM : gangwaylaw28_fixed.k3 k r1 r4 x54 = some r := hM
          unfold gangwaylaw28_fixed.k3 at hM
          show WL _ _ _ _ _ [(0, .bool false), (1, slcV A3 r1.length), (3, .pointer (some ⟨b6, 0, none⟩)), (4, .pointer (some ⟨b7, 0, none⟩)), (80, .bool x54)] (Sat w Z [(b6, .cells #[.bool true, .int .i64 1, .int .i64 1, .string r4] 28 (0, 0)), (b7, .cells #[.bool false, .int .i64 2, .int .i64 1, .string r4] 28 (0, 0))] [] ([Row 4 (pl api_Event.enc) noK (SkL.at b32 2 (fun _ => ())) ([(api_Event.mk true 1 1 r4), (api_Event.mk false 2 1 r4)] : List api_Event), Row 21 api_Gate.encS api_Gate.inK A3 r1] ++ Glob))
          refine WL.rn 1 [] [(81, .bool x54)] ?_
          refine WL.join (σ := Bool) 5 (fun st => gangwaylaw28_fixed.k2 k r1 r4 st = some r) (fun st => [(0, .bool false), (1, slcV A3 r1.length), (3, .pointer (some ⟨b6, 0, none⟩)), (86, .bool st)]) (fun st => Sat w Z [(b6, .cells #[.bool true, .int .i64 1, .int .i64 1, .string r4] 28 (0, 0))] [] ([Row 4 (pl api_Event.enc) noK (SkL.at b32 2 (fun _ => ())) ([(api_Event.mk true 1 1 r4), (api_Event.mk false 2 1 r4)] : List api_Event), Row 21 api_Gate.encS api_Gate.inK A3 r1] ++ Glob)) (fun st hM => ?_) (fun K2 => ?_)
          ·
            obtain ⟨x58, rfl⟩ : ∃ y, y = st := ⟨st, rfl⟩
            replace hM : gangwaylaw28_fixed.k2 k r1 r4 x58 = some r := hM
            unfold gangwaylaw28_fixed.k2 at hM
            show WL _ _ _ _ _ [(0, .bool false), (1, slcV A3 r1.length), (3, .pointer (some ⟨b6, 0, none⟩)), (86, .bool x58)] (Sat w Z [(b6, .cells #[.bool true, .int .i64 1, .int .i64 1, .string r4] 28 (0, 0))] [] ([Row 4 (pl api_Event.enc) noK (SkL.at b32 2 (fun _ => ())) ([(api_Event.mk true 1 1 r4), (api_Event.mk false 2 1 r4)] : List api_Event), Row 21 api_Gate.encS api_Gate.inK A3 r1] ++ Glob))
            refine WL.rn 1 [] [(87, .bool x58)] ?_
            refine WL.join (σ := Bool) 6 (fun st => gangwaylaw28_fixed.k1 st = some r) (fun st => [(0, .bool false), (93, .bool st)]) (fun st => Sat w Z [] [] ([Row 4 (pl api_Event.enc) noK (SkL.at b32 2 (fun _ => ())) ([(api_Event.mk true 1 1 r4), (api_Event.mk false 2 1 r4)] : List api_Event), Row 21 api_Gate.encS api_Gate.inK A3 r1] ++ Glob)) (fun st hM => ?_) (fun K1 => ?_)
            ·
              obtain ⟨x62, rfl⟩ : ∃ y, y = st := ⟨st, rfl⟩
              replace hM : gangwaylaw28_fixed.k1 x62 = some r := hM
              unfold gangwaylaw28_fixed.k1 at hM
              show WL _ _ _ _ _ [(0, .bool false), (93, .bool x62)] (Sat w Z [] [] ([Row 4 (pl api_Event.enc) noK (SkL.at b32 2 (fun _ => ())) ([(api_Event.mk true 1 1 r4), (api_Event.mk false 2 1 r4)] : List api_Event), Row 21 api_Gate.encS api_Gate.inK A3 r1] ++ Glob))
              refine WL.rn 1 [] [(0, .bool x62)] ?_
              refine WP.done ?_
              obtain rfl := Option.some.inj hM
              exact WP.ret [] [] (.bool x62) (by kernel_rfl) (fun w' hw => ⟨rfl, (hw.pick [] rfl).less (fun _ h => List.mem_append_right _ h)⟩)
            ·
              refine WL.sp 87 x58 (fun c59 => ?_) (fun c59 => ?_)
              · replace hM := cond_t hM c59
                refine WL.rn 3 [0, 0, 0, 0] [(88, slcV A3 r1.length), (89, .agg #[.bool true, .int .i64 1, .int .i64 1, .string r4]), (90, .agg #[.bool false, .int .i64 3, .int .i64 0, .string (⟨#[]⟩ : ByteArray)])] ?_
                obtain ⟨r60, h61, hM⟩ := bind_some hM
                refine WL.callP [] [] (trace_Same_calls k A3 r1 (api_Event.mk true 1 1 r4) (api_Event.mk false 3 0 (⟨#[]⟩ : ByteArray)) _ h61) (sub_pick [1] (by kernel_rfl)) (by kernel_rfl) (by kernel_rfl) rfl ?_
                refine WL.rn 2 [] [(93, .bool (!r60))] ?_
                exact WL.sub [0, 93] (by kernel_rfl) (WL.pick [] (by kernel_rfl) (by kernel_rfl) (WL.lessF [0, 1] (by kernel_rfl) (K1 (!r60) hM)))
              · replace hM := cond_f hM c59
                refine WL.rn 6 [] [(93, .bool false)] ?_
                exact WL.sub [0, 93] (by kernel_rfl) (WL.pick [] (by kernel_rfl) (by kernel_rfl) (WL.lessF [0, 1] (by kernel_rfl) (K1 false hM)))
          ·
            refine WL.sp 81 x54 (fun c55 => ?_) (fun c55 => ?_)
            · replace hM := cond_t hM c55
              refine WL.rn 3 [0, 0, 0, 0, 1, 1, 1, 1] [(82, slcV A3 r1.length), (83, .agg #[.bool true, .int .i64 1, .int .i64 1, .string r4]), (84, .agg #[.bool false, .int .i64 2, .int .i64 1, .string r4])] ?_
              obtain ⟨r56, h57, hM⟩ := bind_some hM
              refine WL.callP [] [] (trace_Same_calls k A3 r1 (api_Event.mk true 1 1 r4) (api_Event.mk false 2 1 r4) _ h57) (sub_pick [1] (by kernel_rfl)) (by kernel_rfl) (by kernel_rfl) rfl ?_
              refine WL.rn 1 [] [(86, .bool r56)] ?_
              exact WL.sub [0, 1, 3, 86] (by kernel_rfl) (WL.pick [0] (by kernel_rfl) (by kernel_rfl) (WL.lessF [0, 1] (by kernel_rfl) (K2 r56 hM)))
            · replace hM := cond_f hM c55
              refine WL.rn 5 [] [(86, .bool false)] ?_
              exact WL.sub [0, 1, 3, 86] (by kernel_rfl) (WL.pick [0] (by kernel_rfl) (by kernel_rfl) (WL.lessF [0, 1] (by kernel_rfl) (K2 false hM)))
        ·
          refine WL.sp 72 x49 (fun c50 => ?_) (fun c50 => ?_)
          · replace hM := cond_t hM c50
            refine WL.rh 5 [3, 3, 3, 3, 4, 4, 4, 4, 2, 2, 2, 2] (fun b51 => [(73, slcV A3 r1.length), (77, .slice (some ⟨b51, 0, none⟩) 3 3)]) (fun b51 => []) (fun b51 => [(b51, .cells #[.bool true, .int .i64 1, .int .i64 1, .string r16, .bool false, .int .i64 1, .int .i64 1, .string r29, .bool true, .int .i64 2, .int .i64 2, .string r11] 28 (0, 0))]) (fun b51 => ?_)
            refine WL.ice (H' := [(b6, .cells #[.bool true, .int .i64 1, .int .i64 1, .string r4] 28 (0, 0)), (b7, .cells #[.bool false, .int .i64 2, .int .i64 1, .string r4] 28 (0, 0)), (b13, .cells #[.bool true, .int .i64 2, .int .i64 2, .string r11] 28 (0, 0)), (b18, .cells #[.bool true, .int .i64 1, .int .i64 1, .string r16] 28 (0, 0)), (b31, .cells #[.bool false, .int .i64 1, .int .i64 1, .string r29] 28 (0, 0))]) (Row 4 (pl api_Event.enc) noK (SkL.at b51 3 (fun _ => ())) ([(api_Event.mk true 1 1 r16), (api_Event.mk false 1 1 r29), (api_Event.mk true 2 2 r11)] : List api_Event)) 5 (b := b51) (ob := .cells #[.bool true, .int .i64 1, .int .i64 1, .string r16, .bool false, .int .i64 1, .int .i64 1, .string r29, .bool true, .int .i64 2, .int .i64 2, .string r11] 28 (0, 0)) (by kernel_rfl) [] [] (by kernel_rfl) (fun w hb hψ => row_of_block hb (fun _ _ => rfl) ⟨[], by kernel_rfl⟩ (Nat.le_of_ble_eq_true rfl) (InK.no _ _)) (by kernel_rfl) ?_
            obtain ⟨r52, h53, hM⟩ := bind_some hM
            refine WL.callP [] [] (trace_First_calls k A3 (SkL.at b51 3 (fun _ => ())) r1 ([(api_Event.mk true 1 1 r16), (api_Event.mk false 1 1 r29), (api_Event.mk true 2 2 r11)] : List api_Event) _ h53) (sub_pick [2, 0] (by kernel_rfl)) (by kernel_rfl) (by kernel_rfl) rfl ?_
            refine WL.rn 2 [] [(80, .bool (r52 == 1))] ?_
            exact WL.sub [0, 1, 3, 4, 80] (by kernel_rfl) (WL.pick [0, 1] (by kernel_rfl) (by kernel_rfl) (WL.lessF [1, 2] (by kernel_rfl) (K3 (r52 == 1) hM)))
          · replace hM := cond_f hM c50
            refine WL.rn 8 [] [(80, .bool false)] ?_
            exact WL.sub [0, 1, 3, 4, 80] (by kernel_rfl) (WL.pick [0, 1] (by kernel_rfl) (by kernel_rfl) (WL.lessF [0, 1] (by kernel_rfl) (K3 false hM)))
      ·
        refine WL.sp 63 x44 (fun c45 => ?_) (fun c45 => ?_)
        · replace hM := cond_t hM c45
          refine WL.rh 5 [2, 2, 2, 2, 3, 3, 3, 3, 4, 4, 4, 4] (fun b46 => [(64, slcV A3 r1.length), (68, .slice (some ⟨b46, 0, none⟩) 3 3)]) (fun b46 => []) (fun b46 => [(b46, .cells #[.bool true, .int .i64 2, .int .i64 2, .string r11, .bool true, .int .i64 1, .int .i64 1, .string r16, .bool false, .int .i64 1, .int .i64 1, .string r29] 28 (0, 0))]) (fun b46 => ?_)
          refine WL.ice (H' := [(b6, .cells #[.bool true, .int .i64 1, .int .i64 1, .string r4] 28 (0, 0)), (b7, .cells #[.bool false, .int .i64 2, .int .i64 1, .string r4] 28 (0, 0)), (b13, .cells #[.bool true, .int .i64 2, .int .i64 2, .string r11] 28 (0, 0)), (b18, .cells #[.bool true, .int .i64 1, .int .i64 1, .string r16] 28 (0, 0)), (b31, .cells #[.bool false, .int .i64 1, .int .i64 1, .string r29] 28 (0, 0))]) (Row 4 (pl api_Event.enc) noK (SkL.at b46 3 (fun _ => ())) ([(api_Event.mk true 2 2 r11), (api_Event.mk true 1 1 r16), (api_Event.mk false 1 1 r29)] : List api_Event)) 5 (b := b46) (ob := .cells #[.bool true, .int .i64 2, .int .i64 2, .string r11, .bool true, .int .i64 1, .int .i64 1, .string r16, .bool false, .int .i64 1, .int .i64 1, .string r29] 28 (0, 0)) (by kernel_rfl) [] [] (by kernel_rfl) (fun w hb hψ => row_of_block hb (fun _ _ => rfl) ⟨[], by kernel_rfl⟩ (Nat.le_of_ble_eq_true rfl) (InK.no _ _)) (by kernel_rfl) ?_
          obtain ⟨r47, h48, hM⟩ := bind_some hM
          refine WL.callP [] [] (trace_First_calls k A3 (SkL.at b46 3 (fun _ => ())) r1 ([(api_Event.mk true 2 2 r11), (api_Event.mk true 1 1 r16), (api_Event.mk false 1 1 r29)] : List api_Event) _ h48) (sub_pick [2, 0] (by kernel_rfl)) (by kernel_rfl) (by kernel_rfl) rfl ?_
          refine WL.rn 2 [] [(71, .bool (r47 == (-1)))] ?_
          exact WL.sub [0, 1, 3, 4, 6, 7, 12, 71] (by kernel_rfl) (WL.pick [0, 1, 2, 3, 4] (by kernel_rfl) (by kernel_rfl) (WL.lessF [1, 2] (by kernel_rfl) (K4 (r47 == (-1)) hM)))
        · replace hM := cond_f hM c45
          refine WL.rn 8 [] [(71, .bool false)] ?_
          exact WL.sub [0, 1, 3, 4, 6, 7, 12, 71] (by kernel_rfl) (WL.pick [0, 1, 2, 3, 4] (by kernel_rfl) (by kernel_rfl) (WL.lessF [0, 1] (by kernel_rfl) (K4 false hM)))
    ·
      refine WL.sp 55 x39 (fun c40 => ?_) (fun c40 => ?_)
      · replace hM := cond_t hM c40
        refine WL.rh 4 [0, 0, 0, 0, 2, 2, 2, 2] (fun b41 => [(56, slcV A3 r1.length), (59, .slice (some ⟨b41, 0, none⟩) 2 2)]) (fun b41 => []) (fun b41 => [(b41, .cells #[.bool true, .int .i64 1, .int .i64 1, .string r4, .bool false, .int .i64 1, .int .i64 1, .string r4] 28 (0, 0))]) (fun b41 => ?_)
        refine WL.ice (H' := [(b6, .cells #[.bool true, .int .i64 1, .int .i64 1, .string r4] 28 (0, 0)), (b7, .cells #[.bool false, .int .i64 2, .int .i64 1, .string r4] 28 (0, 0)), (b8, .cells #[.bool false, .int .i64 1, .int .i64 1, .string r4] 28 (0, 0)), (b13, .cells #[.bool true, .int .i64 2, .int .i64 2, .string r11] 28 (0, 0)), (b18, .cells #[.bool true, .int .i64 1, .int .i64 1, .string r16] 28 (0, 0)), (b31, .cells #[.bool false, .int .i64 1, .int .i64 1, .string r29] 28 (0, 0))]) (Row 4 (pl api_Event.enc) noK (SkL.at b41 2 (fun _ => ())) ([(api_Event.mk true 1 1 r4), (api_Event.mk false 1 1 r4)] : List api_Event)) 6 (b := b41) (ob := .cells #[.bool true, .int .i64 1, .int .i64 1, .string r4, .bool false, .int .i64 1, .int .i64 1, .string r4] 28 (0, 0)) (by kernel_rfl) [] [] (by kernel_rfl) (fun w hb hψ => row_of_block hb (fun _ _ => rfl) ⟨[], by kernel_rfl⟩ (Nat.le_of_ble_eq_true rfl) (InK.no _ _)) (by kernel_rfl) ?_
        obtain ⟨r42, h43, hM⟩ := bind_some hM
        refine WL.callP [] [] (trace_First_calls k A3 (SkL.at b41 2 (fun _ => ())) r1 ([(api_Event.mk true 1 1 r4), (api_Event.mk false 1 1 r4)] : List api_Event) _ h43) (sub_pick [2, 0] (by kernel_rfl)) (by kernel_rfl) (by kernel_rfl) rfl ?_
        refine WL.rn 2 [] [(62, .bool (r42 == 1))] ?_
        exact WL.sub [0, 1, 3, 4, 6, 7, 12, 62] (by kernel_rfl) (WL.pick [0, 1, 3, 4, 5] (by kernel_rfl) (by kernel_rfl) (WL.lessF [1, 2] (by kernel_rfl) (K5 (r42 == 1) hM)))
      · replace hM := cond_f hM c40
        refine WL.rn 7 [] [(62, .bool false)] ?_
        exact WL.sub [0, 1, 3, 4, 6, 7, 12, 62] (by kernel_rfl) (WL.pick [0, 1, 3, 4, 5] (by kernel_rfl) (by kernel_rfl) (WL.lessF [0, 1] (by kernel_rfl) (K5 false hM)))
  ·
    refine WL.sp 47 (r33 == (-1)) (fun c35 => ?_) (fun c35 => ?_)
    · replace hM := cond_t hM c35
      refine WL.rh 4 [1, 1, 1, 1, 0, 0, 0, 0] (fun b36 => [(48, slcV A3 r1.length), (51, .slice (some ⟨b36, 0, none⟩) 2 2)]) (fun b36 => []) (fun b36 => [(b36, .cells #[.bool false, .int .i64 2, .int .i64 1, .string r4, .bool true, .int .i64 1, .int .i64 1, .string r4] 28 (0, 0))]) (fun b36 => ?_)
      refine WL.ice (H' := [(b6, .cells #[.bool true, .int .i64 1, .int .i64 1, .string r4] 28 (0, 0)), (b7, .cells #[.bool false, .int .i64 2, .int .i64 1, .string r4] 28 (0, 0)), (b8, .cells #[.bool false, .int .i64 1, .int .i64 1, .string r4] 28 (0, 0)), (b13, .cells #[.bool true, .int .i64 2, .int .i64 2, .string r11] 28 (0, 0)), (b18, .cells #[.bool true, .int .i64 1, .int .i64 1, .string r16] 28 (0, 0)), (b31, .cells #[.bool false, .int .i64 1, .int .i64 1, .string r29] 28 (0, 0))]) (Row 4 (pl api_Event.enc) noK (SkL.at b36 2 (fun _ => ())) ([(api_Event.mk false 2 1 r4), (api_Event.mk true 1 1 r4)] : List api_Event)) 6 (b := b36) (ob := .cells #[.bool false, .int .i64 2, .int .i64 1, .string r4, .bool true, .int .i64 1, .int .i64 1, .string r4] 28 (0, 0)) (by kernel_rfl) [] [] (by kernel_rfl) (fun w hb hψ => row_of_block hb (fun _ _ => rfl) ⟨[], by kernel_rfl⟩ (Nat.le_of_ble_eq_true rfl) (InK.no _ _)) (by kernel_rfl) ?_
      obtain ⟨r37, h38, hM⟩ := bind_some hM
      refine WL.callP [] [] (trace_First_calls k A3 (SkL.at b36 2 (fun _ => ())) r1 ([(api_Event.mk false 2 1 r4), (api_Event.mk true 1 1 r4)] : List api_Event) _ h38) (sub_pick [2, 0] (by kernel_rfl)) (by kernel_rfl) (by kernel_rfl) rfl ?_
      refine WL.rn 2 [] [(54, .bool (r37 == 0))] ?_
      exact WL.sub [0, 1, 3, 4, 5, 6, 7, 12, 54] (by kernel_rfl) (WL.pick [0, 1, 2, 3, 4, 5] (by kernel_rfl) (by kernel_rfl) (WL.lessF [1, 2] (by kernel_rfl) (K6 (r37 == 0) hM)))
    · replace hM := cond_f hM c35
      refine WL.rn 7 [] [(54, .bool false)] ?_
      exact WL.sub [0, 1, 3, 4, 5, 6, 7, 12, 54] (by kernel_rfl) (WL.pick [0, 1, 2, 3, 4, 5] (by kernel_rfl) (by kernel_rfl) (WL.lessF [0, 1] (by kernel_rfl) (K6 false hM)))

end Go.Proofs.YtbbekdmndifkpaaGreatDoor

namespace Go.Proofs.YtbbekdmndifkpaaGreatDoor
open Go Eng
set_option linter.unusedVariables false
set_option linter.unusedSimpArgs false

/-! ### gangway/gangwayref01.Num: function 45 -/
def gangwayref01_Num.l1 (a0 : ByteArray) : Nat → Int → Int → Option (Int)
  | 0, _, _ => none
  | n + 1, x1, x2 =>
    bif decide (x2 < (a0.size : Int)) then
      (idxS a0 x2).bind fun t4 =>
      gangwayref01_Num.l1 a0 n (u64 ((u64 (x1 * 256)) + (u64 t4))) (i64 (x2 + 1))
    else
      some x1

def gangwayref01_Num.f (k : Nat) (a0 : ByteArray) : Option (Int) :=
  gangwayref01_Num.l1 a0 k 0 0

set_option maxRecDepth 100000 in
theorem gangwayref01_Num_calls (k : Nat) (a0 : ByteArray) (r : Int) (h : gangwayref01_Num.f k a0 = some r) : Pure Tryz.prog Glob 45 #[.string a0] (.int .u64 r) := by
  intro w Z hS
  refine calls_of (args := [.string a0]) (L := [(0, .string a0)]) (N := 19) (S := Sat w Z [] [] Glob) Tryz.func45 rfl rfl (Nat.le_of_ble_eq_true rfl) rfl hS ?_
  have hM := h
  clear h hS
  unfold gangwayref01_Num.f at hM
  refine WP.seq ?_
  refine WP.rn [] [(2, .int .u64 0)] ?_
  refine WP.seq ?_
  refine WP.rn [] [(3, .int .u64 0)] ?_
  refine WP.seq ?_
  refine WP.seq ?_
  refine WP.rn [] [(4, .int .i64 0)] ?_
  refine WP.block ?_
  refine WP.sub [0, 2, 3, 4] (L' := [(0, .string a0), (2, .int .u64 0), (3, .int .u64 0), (4, .int .i64 0)]) (by kernel_rfl) ?_
  refine WP.loop (σ := Int × Int) (fun n st => gangwayref01_Num.l1 a0 n st.1 st.2) r (fun st => [(0, .string a0), (2, .int .u64 0), (3, .int .u64 st.1), (4, .int .i64 st.2)]) (fun st => Sat w Z [] [] Glob) (st := (0, 0)) (fun n st hM => ?_) hM
  rcases n with _ | n
  · exact nomatch (show (none : Option _) = some r from hM)
  obtain ⟨x1, x2⟩ := st
  replace hM : gangwayref01_Num.l1 a0 (n + 1) x1 x2 = some r := hM
  rw [gangwayref01_Num.l1] at hM
  show WP _ _ _ _ _ [(0, .string a0), (2, .int .u64 0), (3, .int .u64 x1), (4, .int .i64 x2)] (Sat w Z [] [] Glob)
  refine WP.seq ?_
  refine WP.seq ?_
  refine WP.rn [] [(5, .int .i64 x2), (6, .string a0), (7, .int .i64 (a0.size : Int)), (8, .bool (decide (x2 < (a0.size : Int))))] ?_
  refine WP.cond (decide (x2 < (a0.size : Int))) rfl rfl (fun c3 => ?_) (fun c3 => ?_)
  · replace hM := cond_t hM c3
    refine WP.skip ?_
    refine WP.seq ?_
    refine WP.block ?_
    refine WP.region ?_
    refine WL.rn 4 [] [(11, .int .u64 x1), (12, .int .u64 (u64 (x1 * 256))), (13, .string a0), (14, .int .i64 x2)] ?_
    obtain ⟨t4, h5, hM⟩ := bind_some hM
    refine WL.val (fun _ => run_idxS (s := a0) (k := .i64) (i := x2) (by kernel_rfl) (by kernel_rfl) (by kernel_rfl) h5) (by kernel_rfl) (by kernel_rfl) rfl ?_
    refine WL.rn 3 [] [(3, .int .u64 (u64 ((u64 (x1 * 256)) + (u64 t4)))), (16, .int .u64 (u64 t4)), (17, .int .u64 (u64 ((u64 (x1 * 256)) + (u64 t4))))] ?_
    refine WP.done ?_
    refine WP.leave ?_
    refine WP.rn [] [(4, .int .i64 (i64 (x2 + 1))), (9, .int .i64 x2), (10, .int .i64 (i64 (x2 + 1)))] ?_
    exact WP.again' [0, 2, 3, 4] (u64 ((u64 (x1 * 256)) + (u64 t4)), i64 (x2 + 1)) hM (by kernel_rfl) (fun _ h => h.pick [] (by kernel_rfl))
  · replace hM := cond_f hM c3
    refine WP.exit rfl ?_
    refine WP.seq ?_
    refine WP.rn [] [(2, .int .u64 x1)] ?_
    obtain rfl := Option.some.inj hM
    exact WP.ret [] [] (.int .u64 x1) (by kernel_rfl) (fun w' hw => ⟨rfl, hw.pick [] rfl⟩)

end Go.Proofs.YtbbekdmndifkpaaGreatDoor

namespace Go.Proofs.YtbbekdmndifkpaaGreatDoor
open Go Eng
set_option linter.unusedVariables false
set_option linter.unusedSimpArgs false

/-! ### gangway/gangwayref04.word: function 46 -/
def gangwayref04_word.f (a0 : ByteArray) : Option (Int) :=
  (idxS a0 0).bind fun t1 =>
  (idxS a0 1).bind fun t3 =>
  some (i64 ((i64 ((i64 t1) * 256)) + (i64 t3)))

set_option maxRecDepth 100000 in
theorem gangwayref04_word_calls (a0 : ByteArray) (r : Int) (h : gangwayref04_word.f a0 = some r) : Pure Tryz.prog Glob 46 #[.string a0] (.int .i64 r) := by
  intro w Z hS
  refine calls_of (args := [.string a0]) (L := [(0, .string a0)]) (N := 11) (S := Sat w Z [] [] Glob) Tryz.func46 rfl rfl (Nat.le_of_ble_eq_true rfl) rfl hS ?_
  have hM := h
  clear h hS
  unfold gangwayref04_word.f at hM
  refine WP.seq ?_
  refine WP.rn [] [(2, .int .i64 0)] ?_
  refine WP.seq ?_
  refine WP.quiet (by kernel_rfl) (by kernel_rfl) ?_
  refine QL.rn 1 [] [(3, .string a0)] ?_
  obtain ⟨t1, h2, hM⟩ := bind_some hM
  refine QL.val (fun _ => run_idxS (s := a0) (k := .i64) (i := 0) (by kernel_rfl) (by kernel_rfl) (by kernel_rfl) h2) (by kernel_rfl) (by kernel_rfl) rfl ?_
  refine QL.rn 3 [] [(6, .int .i64 (i64 ((i64 t1) * 256))), (7, .string a0)] ?_
  obtain ⟨t3, h4, hM⟩ := bind_some hM
  refine QL.val (fun _ => run_idxS (s := a0) (k := .i64) (i := 1) (by kernel_rfl) (by kernel_rfl) (by kernel_rfl) h4) (by kernel_rfl) (by kernel_rfl) rfl ?_
  refine QL.rn 3 [] [(2, .int .i64 (i64 ((i64 ((i64 t1) * 256)) + (i64 t3))))] ?_
  refine QL.done ?_
  obtain rfl := Option.some.inj hM
  exact WP.ret [] [] (.int .i64 (i64 ((i64 ((i64 t1) * 256)) + (i64 t3)))) (by kernel_rfl) (fun w' hw => ⟨rfl, hw.pick [] rfl⟩)

end Go.Proofs.YtbbekdmndifkpaaGreatDoor

namespace Go.Proofs.YtbbekdmndifkpaaGreatDoor
open Go Eng
set_option linter.unusedVariables false
set_option linter.unusedSimpArgs false

/-! ### gangway/gangwayref04.Parse: function 23 -/
def gangwayref04_Parse.k1 (x32 : Int) (r7 : Int) (r11 : Int) (x34 : Bool) (x35 : Int) (x36 : Bool) (x37 : Int) (x33 : ByteArray) (x39 : Bool) : Option (api_Frame × Int) :=
  bif x39 then
    some ((api_Frame.mk 0 0 (api_Tag.mk false 0 false 0) 0 (⟨#[]⟩ : ByteArray)), 41)
  else
    bif decide (x32 > 1500) then
      some ((api_Frame.mk r7 r11 (api_Tag.mk x34 x35 x36 x37) x32 x33), 0)
    else
      bif decide (x32 > (x33.size : Int)) then
        some ((api_Frame.mk 0 0 (api_Tag.mk false 0 false 0) 0 (⟨#[]⟩ : ByteArray)), 40)
      else
        (sliceS x33 0 x32).bind fun t43 =>
        some ((api_Frame.mk r7 r11 (api_Tag.mk x34 x35 x36 x37) 0 t43), 0)

def gangwayref04_Parse.k2 (r7 : Int) (r11 : Int) (x32 : Int) (x33 : ByteArray) (x34 : Bool) (x35 : Int) (x36 : Bool) (x37 : Int) : Option (api_Frame × Int) :=
  bif (x32 == 33024) then
    gangwayref04_Parse.k1 x32 r7 r11 x34 x35 x36 x37 x33 true
  else
    gangwayref04_Parse.k1 x32 r7 r11 x34 x35 x36 x37 x33 ((decide (x32 > 1500)) && (decide (x32 < 1536)))

def gangwayref04_Parse.f (k : Nat) (a0 : ByteArray) : Option (api_Frame × Int) :=
  bif decide ((a0.size : Int) > 1600) then
    some ((api_Frame.mk 0 0 (api_Tag.mk false 0 false 0) 0 (⟨#[]⟩ : ByteArray)), 41)
  else
    bif decide ((a0.size : Int) < 14) then
      some ((api_Frame.mk 0 0 (api_Tag.mk false 0 false 0) 0 (⟨#[]⟩ : ByteArray)), 40)
    else
      (sliceS a0 0 6).bind fun t5 =>
      (gangwayref01_Num.f k t5).bind fun r7 =>
      (sliceS a0 6 12).bind fun t9 =>
      (gangwayref01_Num.f k t9).bind fun r11 =>
      (sliceS a0 12 14).bind fun t14 =>
      (gangwayref04_word.f t14).bind fun r16 =>
      (sliceS a0 14 (a0.size : Int)).bind fun t18 =>
      bif (r16 == 33024) then
        bif decide ((t18.size : Int) < 4) then
          some ((api_Frame.mk 0 0 (api_Tag.mk false 0 false 0) 0 (⟨#[]⟩ : ByteArray)), 40)
        else
          (sliceS t18 0 2).bind fun t22 =>
          (gangwayref04_word.f t22).bind fun r24 =>
          (sliceS t18 2 4).bind fun t26 =>
          (gangwayref04_word.f t26).bind fun r28 =>
          (sliceS t18 4 (t18.size : Int)).bind fun t30 =>
          gangwayref04_Parse.k2 r7 r11 r28 t30 true (i64 (Int.tdiv r24 8192)) ((Int.tmod (i64 (Int.tdiv r24 4096)) 2) == 1) (Int.tmod r24 4096)
      else
        gangwayref04_Parse.k2 r7 r11 r16 t18 false 0 false 0

set_option maxRecDepth 100000 in
theorem gangwayref04_Parse_calls (k : Nat) (a0 : ByteArray) (r : api_Frame × Int) (h : gangwayref04_Parse.f k a0 = some r) : Pure Tryz.prog Glob 23 #[.string a0] (.tuple #[api_Frame.v r.1, .int .i64 r.2]) := by
  intro w Z hS
  refine calls_of (args := [.string a0]) (L := [(0, .string a0)]) (N := 80) (S := Sat w Z [] [] Glob) Tryz.func23 rfl rfl (Nat.le_of_ble_eq_true rfl) rfl hS ?_
  have hM := h
  clear h hS
  unfold gangwayref04_Parse.f at hM
  refine WP.seq ?_
  refine WP.rh [] (fun b1 => [(2, .pointer (some ⟨b1, 0, none⟩)), (3, .int .i64 0)]) (fun b1 => []) (fun b1 => [(b1, .cells #[.int .u64 0, .int .u64 0, .bool false, .int .i64 0, .bool false, .int .i64 0, .int .i64 0, .string (⟨#[]⟩ : ByteArray)] 40 (0, 0))]) (fun b1 => ?_)
  refine WP.seq ?_
  refine WP.seq ?_
  refine WP.rn [] [(10, .bool (decide ((a0.size : Int) > 1600)))] ?_
  refine WP.cond (decide ((a0.size : Int) > 1600)) rfl rfl (fun c2 => ?_) (fun c2 => ?_)
  · replace hM := cond_t hM c2
    refine WP.seq ?_
    refine WP.rn [0, 0, 0, 0, 0, 0, 0, 0] [(3, .int .i64 41)] ?_
    obtain rfl := Option.some.inj hM
    exact WP.ret [0, 0, 0, 0, 0, 0, 0, 0] [b1, b1, b1, b1, b1, b1, b1, b1] (.tuple #[.agg #[.int .u64 0, .int .u64 0, .bool false, .int .i64 0, .bool false, .int .i64 0, .int .i64 0, .string (⟨#[]⟩ : ByteArray)], .int .i64 41]) (by kernel_rfl) (fun w' hw => ⟨rfl, hw.pick [] rfl⟩)
  · replace hM := cond_f hM c2
    refine WP.skip ?_
    refine WP.seq ?_
    refine WP.seq ?_
    refine WP.rn [] [(14, .bool (decide ((a0.size : Int) < 14)))] ?_
    refine WP.cond (decide ((a0.size : Int) < 14)) rfl rfl (fun c3 => ?_) (fun c3 => ?_)
    · replace hM := cond_t hM c3
      refine WP.seq ?_
      refine WP.rn [0, 0, 0, 0, 0, 0, 0, 0] [(3, .int .i64 40)] ?_
      obtain rfl := Option.some.inj hM
      exact WP.ret [0, 0, 0, 0, 0, 0, 0, 0] [b1, b1, b1, b1, b1, b1, b1, b1] (.tuple #[.agg #[.int .u64 0, .int .u64 0, .bool false, .int .i64 0, .bool false, .int .i64 0, .int .i64 0, .string (⟨#[]⟩ : ByteArray)], .int .i64 40]) (by kernel_rfl) (fun w' hw => ⟨rfl, hw.pick [] rfl⟩)
    · replace hM := cond_f hM c3
      refine WP.skip ?_
      refine WP.seq ?_
      obtain ⟨t5, h6, hM⟩ := bind_some hM
      obtain ⟨r7, h8, hM⟩ := bind_some hM
      obtain ⟨t9, h10, hM⟩ := bind_some hM
      obtain ⟨r11, h12, hM⟩ := bind_some hM
      refine WP.sub [0, 2, 3] (L' := [(0, .string a0), (2, .pointer (some ⟨b1, 0, none⟩)), (3, .int .i64 0)]) (by kernel_rfl) ?_
      refine WP.mixed (X := Unit) 8 [.val (.string a0), .val (.string t5), .val (.int .u64 r7), .val (.string a0), .val (.string t9), .val (.int .u64 r11), .val (.agg #[.int .u64 r7, .int .u64 r11, .bool false, .int .i64 0, .bool false, .int .i64 0, .int .i64 0, .string (⟨#[]⟩ : ByteArray)]), .alloc (.cells #[.int .u64 0, .int .u64 0, .bool false, .int .i64 0, .bool false, .int .i64 0, .int .i64 0, .string (⟨#[]⟩ : ByteArray)] 40 (0, 0)) (fun b => .pointer (some ⟨b, 0, none⟩))] [(b1, .cells #[.int .u64 0, .int .u64 0, .bool false, .int .i64 0, .bool false, .int .i64 0, .int .i64 0, .string (⟨#[]⟩ : ByteArray)] 40 (0, 0))] [] (by kernel_rfl) (by kernel_rfl) (by kernel_rfl) (by kernel_rfl) (Heads.val (fun tt Ψ => OpV.run [] [] (by kernel_rfl) (fun _ => by kernel_rfl)) (Heads.val (fun tt Ψ => OpV.val (fun _ => run_sliceS_hi (s := a0) (kh := .i64) (h := 6) (by kernel_rfl) (by kernel_rfl) (by kernel_rfl) h6) (by kernel_rfl)) (Heads.val (fun tt Ψ => OpV.callF [] [] (fun _ h => (List.mem_append_right _ h)) (gangwayref01_Num_calls k t5 _ h8)  (fun _ => by kernel_rfl)) (Heads.val (fun tt Ψ => OpV.run [] [] (by kernel_rfl) (fun _ => by kernel_rfl)) (Heads.val (fun tt Ψ => OpV.val (fun _ => run_sliceS (s := a0) (kl := .i64) (kh := .i64) (l := 6) (h := 12) (by kernel_rfl) (by kernel_rfl) (by kernel_rfl) (by kernel_rfl) h10) (by kernel_rfl)) (Heads.val (fun tt Ψ => OpV.callF [] [] (fun _ h => (List.mem_append_right _ h)) (gangwayref01_Num_calls k t9 _ h12)  (fun _ => by kernel_rfl)) (Heads.val (fun tt Ψ => OpV.run [] [] (by kernel_rfl) (fun _ => by kernel_rfl)) (Heads.alloc (fun _ => by kernel_rfl) (fun _ _ => by kernel_rfl) Heads.nil)))))))) (fun s4 tt => [(16, .string a0), (17, .string t5), (18, .int .u64 r7), (19, .string a0), (20, .string t9), (21, .int .u64 r11), (22, .agg #[.int .u64 r7, .int .u64 r11, .bool false, .int .i64 0, .bool false, .int .i64 0, .int .i64 0, .string (⟨#[]⟩ : ByteArray)]), (4, .pointer (some ⟨(s4 7), 0, none⟩)), (0, .string a0), (2, .pointer (some ⟨b1, 0, none⟩)), (3, .int .i64 0)]) (fun s4 tt => [(b1, .cells #[.int .u64 0, .int .u64 0, .bool false, .int .i64 0, .bool false, .int .i64 0, .int .i64 0, .string (⟨#[]⟩ : ByteArray)] 40 (0, 0)), ((s4 7), .cells #[.int .u64 0, .int .u64 0, .bool false, .int .i64 0, .bool false, .int .i64 0, .int .i64 0, .string (⟨#[]⟩ : ByteArray)] 40 (0, 0))]) (fun tt => Glob) (fun _ _ => by kernel_rfl) (fun _ _ => by kernel_rfl) (fun _ => by kernel_rfl) (fun s4 tt => ?_)
      generalize s4 7 = b13
      refine WL.rh 1 [1, 1, 1, 1, 1, 1, 1, 1] (fun _ => []) (fun _ => [(1, 0, [.int .u64 r7, .int .u64 r11])]) (fun _ => []) (fun _ => ?_)
      refine WP.done ?_
      refine WP.seq ?_
      refine WP.quiet (by kernel_rfl) (by kernel_rfl) ?_
      refine QL.rn 1 [] [(23, .string a0)] ?_
      obtain ⟨t14, h15, hM⟩ := bind_some hM
      refine QL.val (fun _ => run_sliceS (s := a0) (kl := .i64) (kh := .i64) (l := 12) (h := 14) (by kernel_rfl) (by kernel_rfl) (by kernel_rfl) (by kernel_rfl) h15) (by kernel_rfl) (by kernel_rfl) rfl ?_
      obtain ⟨r16, h17, hM⟩ := bind_some hM
      refine QL.callP [] [] (gangwayref04_word_calls t14 _ h17) (fun _ h => h) (by kernel_rfl) (by kernel_rfl) rfl ?_
      refine QL.rn 1 [] [(26, .string a0)] ?_
      obtain ⟨t18, h19, hM⟩ := bind_some hM
      refine QL.val (fun _ => run_sliceS_lo (s := a0) (kl := .i64) (l := 14) (by kernel_rfl) (by kernel_rfl) (by kernel_rfl) h19) (by kernel_rfl) (by kernel_rfl) rfl ?_
      refine QL.rn 2 [] [(5, .int .i64 r16), (6, .string t18)] ?_
      refine QL.done ?_
      refine WP.seqJoin (σ := Int × ByteArray × Bool × Int × Bool × Int) (fun st => gangwayref04_Parse.k2 r7 r11 st.1 st.2.1 st.2.2.1 st.2.2.2.1 st.2.2.2.2.1 st.2.2.2.2.2 = some r) (fun st => [(2, .pointer (some ⟨b1, 0, none⟩)), (3, .int .i64 0), (4, .pointer (some ⟨b13, 0, none⟩)), (5, .int .i64 st.1), (6, .string st.2.1)]) (fun st => Sat w Z [(b1, .cells #[.int .u64 0, .int .u64 0, .bool false, .int .i64 0, .bool false, .int .i64 0, .int .i64 0, .string (⟨#[]⟩ : ByteArray)] 40 (0, 0)), (b13, .cells #[.int .u64 r7, .int .u64 r11, .bool st.2.2.1, .int .i64 st.2.2.2.1, .bool st.2.2.2.2.1, .int .i64 st.2.2.2.2.2, .int .i64 0, .string (⟨#[]⟩ : ByteArray)] 40 (0, 0))] [] Glob) (fun st hM => ?_) (fun K2 => ?_)
      ·
        obtain ⟨x32, x33, x34, x35, x36, x37⟩ := st
        replace hM : gangwayref04_Parse.k2 r7 r11 x32 x33 x34 x35 x36 x37 = some r := hM
        unfold gangwayref04_Parse.k2 at hM
        show WP _ _ _ _ _ [(2, .pointer (some ⟨b1, 0, none⟩)), (3, .int .i64 0), (4, .pointer (some ⟨b13, 0, none⟩)), (5, .int .i64 x32), (6, .string x33)] (Sat w Z [(b1, .cells #[.int .u64 0, .int .u64 0, .bool false, .int .i64 0, .bool false, .int .i64 0, .int .i64 0, .string (⟨#[]⟩ : ByteArray)] 40 (0, 0)), (b13, .cells #[.int .u64 r7, .int .u64 r11, .bool x34, .int .i64 x35, .bool x36, .int .i64 x37, .int .i64 0, .string (⟨#[]⟩ : ByteArray)] 40 (0, 0))] [] Glob)
        refine WP.seq ?_
        refine WP.seq ?_
        refine WP.region ?_
        refine WL.rn 3 [] [(54, .bool (x32 == 33024))] ?_
        refine WL.join (σ := Bool) 7 (fun st => gangwayref04_Parse.k1 x32 r7 r11 x34 x35 x36 x37 x33 st = some r) (fun st => [(2, .pointer (some ⟨b1, 0, none⟩)), (3, .int .i64 0), (4, .pointer (some ⟨b13, 0, none⟩)), (5, .int .i64 x32), (6, .string x33), (61, .bool st)]) (fun st => Sat w Z [(b1, .cells #[.int .u64 0, .int .u64 0, .bool false, .int .i64 0, .bool false, .int .i64 0, .int .i64 0, .string (⟨#[]⟩ : ByteArray)] 40 (0, 0)), (b13, .cells #[.int .u64 r7, .int .u64 r11, .bool x34, .int .i64 x35, .bool x36, .int .i64 x37, .int .i64 0, .string (⟨#[]⟩ : ByteArray)] 40 (0, 0))] [] Glob) (fun st hM => ?_) (fun K1 => ?_)
        ·
          obtain ⟨x39, rfl⟩ : ∃ y, y = st := ⟨st, rfl⟩
          replace hM : gangwayref04_Parse.k1 x32 r7 r11 x34 x35 x36 x37 x33 x39 = some r := hM
          unfold gangwayref04_Parse.k1 at hM
          show WL _ _ _ _ _ [(2, .pointer (some ⟨b1, 0, none⟩)), (3, .int .i64 0), (4, .pointer (some ⟨b13, 0, none⟩)), (5, .int .i64 x32), (6, .string x33), (61, .bool x39)] (Sat w Z [(b1, .cells #[.int .u64 0, .int .u64 0, .bool false, .int .i64 0, .bool false, .int .i64 0, .int .i64 0, .string (⟨#[]⟩ : ByteArray)] 40 (0, 0)), (b13, .cells #[.int .u64 r7, .int .u64 r11, .bool x34, .int .i64 x35, .bool x36, .int .i64 x37, .int .i64 0, .string (⟨#[]⟩ : ByteArray)] 40 (0, 0))] [] Glob)
          refine WP.done ?_
          refine WP.cond x39 rfl rfl (fun c40 => ?_) (fun c40 => ?_)
          · replace hM := cond_t hM c40
            refine WP.seq ?_
            refine WP.rn [0, 0, 0, 0, 0, 0, 0, 0] [(3, .int .i64 41)] ?_
            obtain rfl := Option.some.inj hM
            exact WP.ret [0, 0, 0, 0, 0, 0, 0, 0] [b1, b1, b1, b1, b1, b1, b1, b1] (.tuple #[.agg #[.int .u64 0, .int .u64 0, .bool false, .int .i64 0, .bool false, .int .i64 0, .int .i64 0, .string (⟨#[]⟩ : ByteArray)], .int .i64 41]) (by kernel_rfl) (fun w' hw => ⟨rfl, hw.pick [] rfl⟩)
          · replace hM := cond_f hM c40
            refine WP.skip ?_
            refine WP.seq ?_
            refine WP.seq ?_
            refine WP.rn [] [(64, .bool (decide (x32 > 1500)))] ?_
            refine WP.cond (decide (x32 > 1500)) rfl rfl (fun c41 => ?_) (fun c41 => ?_)
            · replace hM := cond_t hM c41
              refine WP.seq ?_
              refine WP.rh [1] (fun _ => []) (fun _ => [(1, 6, [.int .i64 x32])]) (fun _ => []) (fun _ => ?_)
              refine WP.seq ?_
              refine WP.rh [1] (fun _ => []) (fun _ => [(1, 7, [.string x33])]) (fun _ => []) (fun _ => ?_)
              refine WP.seq ?_
              refine WP.rh [1, 1, 1, 1, 1, 1, 1, 1, 0, 0, 0, 0, 0, 0, 0, 0] (fun _ => [(3, .int .i64 0)]) (fun _ => [(0, 0, [.int .u64 r7, .int .u64 r11, .bool x34, .int .i64 x35, .bool x36, .int .i64 x37, .int .i64 x32, .string x33])]) (fun _ => []) (fun _ => ?_)
              obtain rfl := Option.some.inj hM
              exact WP.ret [0, 0, 0, 0, 0, 0, 0, 0] [b1, b1, b1, b1, b1, b1, b1, b1] (.tuple #[.agg #[.int .u64 r7, .int .u64 r11, .bool x34, .int .i64 x35, .bool x36, .int .i64 x37, .int .i64 x32, .string x33], .int .i64 0]) (by kernel_rfl) (fun w' hw => ⟨rfl, hw.pick [] rfl⟩)
            · replace hM := cond_f hM c41
              refine WP.skip ?_
              refine WP.seq ?_
              refine WP.seq ?_
              refine WP.rn [] [(73, .bool (decide (x32 > (x33.size : Int))))] ?_
              refine WP.cond (decide (x32 > (x33.size : Int))) rfl rfl (fun c42 => ?_) (fun c42 => ?_)
              · replace hM := cond_t hM c42
                refine WP.seq ?_
                refine WP.rn [0, 0, 0, 0, 0, 0, 0, 0] [(3, .int .i64 40)] ?_
                obtain rfl := Option.some.inj hM
                exact WP.ret [0, 0, 0, 0, 0, 0, 0, 0] [b1, b1, b1, b1, b1, b1, b1, b1] (.tuple #[.agg #[.int .u64 0, .int .u64 0, .bool false, .int .i64 0, .bool false, .int .i64 0, .int .i64 0, .string (⟨#[]⟩ : ByteArray)], .int .i64 40]) (by kernel_rfl) (fun w' hw => ⟨rfl, hw.pick [] rfl⟩)
              · replace hM := cond_f hM c42
                refine WP.skip ?_
                refine WP.seq ?_
                refine WP.region ?_
                refine WL.rn 2 [] [(75, .string x33), (76, .int .i64 x32)] ?_
                obtain ⟨t43, h44, hM⟩ := bind_some hM
                refine WL.val (fun _ => run_sliceS_hi (s := x33) (kh := .i64) (h := x32) (by kernel_rfl) (by kernel_rfl) (by kernel_rfl) h44) (by kernel_rfl) (by kernel_rfl) rfl ?_
                refine WL.rh 2 [1] (fun _ => []) (fun _ => [(1, 7, [.string t43])]) (fun _ => []) (fun _ => ?_)
                refine WP.done ?_
                refine WP.seq ?_
                refine WP.rh [1, 1, 1, 1, 1, 1, 1, 1, 0, 0, 0, 0, 0, 0, 0, 0] (fun _ => [(3, .int .i64 0)]) (fun _ => [(0, 0, [.int .u64 r7, .int .u64 r11, .bool x34, .int .i64 x35, .bool x36, .int .i64 x37]), (0, 7, [.string t43])]) (fun _ => []) (fun _ => ?_)
                refine WP.kp [true, false] ?_
                obtain rfl := Option.some.inj hM
                exact WP.ret [0, 0, 0, 0, 0, 0, 0, 0] [b1, b1, b1, b1, b1, b1, b1, b1] (.tuple #[.agg #[.int .u64 r7, .int .u64 r11, .bool x34, .int .i64 x35, .bool x36, .int .i64 x37, .int .i64 0, .string t43], .int .i64 0]) (by kernel_rfl) (fun w' hw => ⟨rfl, hw.pick [] rfl⟩)
        ·
          refine WL.sp 54 (x32 == 33024) (fun c38 => ?_) (fun c38 => ?_)
          · replace hM := cond_t hM c38
            refine WL.rn 7 [] [(61, .bool true)] ?_
            exact WL.sub [2, 3, 4, 5, 6, 61] (by kernel_rfl) (WL.pick [0, 1] (by kernel_rfl) (by kernel_rfl) (K1 true hM))
          · replace hM := cond_f hM c38
            refine WL.rn 3 [] [(57, .bool (decide (x32 > 1500)))] ?_
            refine WL.bo 57 (decide (x32 > 1500)) 3 [] [] (fun b' => [(60, .bool (b' && (decide (x32 < 1536))))]) ?_
            refine WL.rn 1 [] [(61, .bool ((decide (x32 > 1500)) && (decide (x32 < 1536))))] ?_
            exact WL.sub [2, 3, 4, 5, 6, 61] (by kernel_rfl) (WL.pick [0, 1] (by kernel_rfl) (by kernel_rfl) (K1 ((decide (x32 > 1500)) && (decide (x32 < 1536))) hM))
      ·
        refine WP.seq ?_
        refine WP.rn [] [(29, .bool (r16 == 33024))] ?_
        refine WP.cond (r16 == 33024) rfl rfl (fun c20 => ?_) (fun c20 => ?_)
        · replace hM := cond_t hM c20
          refine WP.seq ?_
          refine WP.seq ?_
          refine WP.rn [] [(32, .bool (decide ((t18.size : Int) < 4)))] ?_
          refine WP.cond (decide ((t18.size : Int) < 4)) rfl rfl (fun c21 => ?_) (fun c21 => ?_)
          · replace hM := cond_t hM c21
            refine WP.seq ?_
            refine WP.rn [0, 0, 0, 0, 0, 0, 0, 0] [(3, .int .i64 40)] ?_
            obtain rfl := Option.some.inj hM
            exact WP.ret [0, 0, 0, 0, 0, 0, 0, 0] [b1, b1, b1, b1, b1, b1, b1, b1] (.tuple #[.agg #[.int .u64 0, .int .u64 0, .bool false, .int .i64 0, .bool false, .int .i64 0, .int .i64 0, .string (⟨#[]⟩ : ByteArray)], .int .i64 40]) (by kernel_rfl) (fun w' hw => ⟨rfl, hw.pick [] rfl⟩)
          · replace hM := cond_f hM c21
            refine WP.skip ?_
            refine WP.seq ?_
            refine WP.region ?_
            refine WL.rn 1 [] [(34, .string t18)] ?_
            obtain ⟨t22, h23, hM⟩ := bind_some hM
            refine WL.val (fun _ => run_sliceS_hi (s := t18) (kh := .i64) (h := 2) (by kernel_rfl) (by kernel_rfl) (by kernel_rfl) h23) (by kernel_rfl) (by kernel_rfl) rfl ?_
            obtain ⟨r24, h25, hM⟩ := bind_some hM
            refine WL.callP [] [] (gangwayref04_word_calls t22 _ h25) (fun _ h => h) (by kernel_rfl) (by kernel_rfl) rfl ?_
            refine WL.rn 1 [] [(7, .int .i64 r24)] ?_
            refine WP.done ?_
            refine WP.seq ?_
            refine WP.rh [1, 1, 1, 1] (fun _ => []) (fun _ => [(1, 2, [.bool true, .int .i64 (i64 (Int.tdiv r24 8192)), .bool ((Int.tmod (i64 (Int.tdiv r24 4096)) 2) == 1), .int .i64 (Int.tmod r24 4096)])]) (fun _ => []) (fun _ => ?_)
            refine WP.seq ?_
            refine WP.region ?_
            refine WL.rn 1 [] [(47, .string t18)] ?_
            obtain ⟨t26, h27, hM⟩ := bind_some hM
            refine WL.val (fun _ => run_sliceS (s := t18) (kl := .i64) (kh := .i64) (l := 2) (h := 4) (by kernel_rfl) (by kernel_rfl) (by kernel_rfl) (by kernel_rfl) h27) (by kernel_rfl) (by kernel_rfl) rfl ?_
            obtain ⟨r28, h29, hM⟩ := bind_some hM
            refine WL.callP [] [] (gangwayref04_word_calls t26 _ h29) (fun _ h => h) (by kernel_rfl) (by kernel_rfl) rfl ?_
            refine WL.rn 1 [] [(5, .int .i64 r28)] ?_
            refine WP.done ?_
            refine WP.region ?_
            refine WL.rn 1 [] [(50, .string t18)] ?_
            obtain ⟨t30, h31, hM⟩ := bind_some hM
            refine WL.val (fun _ => run_sliceS_lo (s := t18) (kl := .i64) (l := 4) (by kernel_rfl) (by kernel_rfl) (by kernel_rfl) h31) (by kernel_rfl) (by kernel_rfl) rfl ?_
            refine WL.rn 1 [] [(6, .string t30)] ?_
            refine WP.done ?_
            exact WP.sub [2, 3, 4, 5, 6] (by kernel_rfl) (WP.pick [0, 1] (by kernel_rfl) (by kernel_rfl) (K2 (r28, t30, true, i64 (Int.tdiv r24 8192), ((Int.tmod (i64 (Int.tdiv r24 4096)) 2) == 1), Int.tmod r24 4096) hM))
        · replace hM := cond_f hM c20
          refine WP.skip ?_
          exact WP.sub [2, 3, 4, 5, 6] (by kernel_rfl) (WP.pick [0, 1] (by kernel_rfl) (by kernel_rfl) (K2 (r16, t18, false, 0, false, 0) hM))

end Go.Proofs.YtbbekdmndifkpaaGreatDoor

namespace Go.Proofs.YtbbekdmndifkpaaGreatDoor
open Go Eng
set_option linter.unusedVariables false
set_option linter.unusedSimpArgs false

/-! ### gangway/gangwayref17.Mine: function 24 -/
def gangwayref17_Mine.f (a0 : api_Frame) : Option (Bool) :=
  some ((u64 (Int.tdiv a0.Dst 16)) == 103282638848)

set_option maxRecDepth 100000 in
theorem gangwayref17_Mine_calls (a0 : api_Frame) (r : Bool) (h : gangwayref17_Mine.f a0 = some r) : Pure Tryz.prog Glob 24 #[api_Frame.v a0] (.bool r) := by
  intro w Z hS
  refine calls_of (args := [api_Frame.v a0]) (L := [(0, api_Frame.v a0)]) (N := 7) (S := Sat w Z [] [] Glob) Tryz.func24 rfl rfl (Nat.le_of_ble_eq_true rfl) rfl hS ?_
  have hM := h
  clear h hS
  unfold gangwayref17_Mine.f at hM
  refine WP.seq ?_
  refine WP.rh [] (fun b1 => [(1, .pointer (some ⟨b1, 0, none⟩)), (2, .bool false)]) (fun b1 => []) (fun b1 => [(b1, api_Frame.o a0)]) (fun b1 => ?_)
  refine WP.seq ?_
  refine WP.rn [0] [(2, .bool ((u64 (Int.tdiv a0.Dst 16)) == 103282638848))] ?_
  refine WP.kp [false] ?_
  obtain rfl := Option.some.inj hM
  exact WP.ret [] [] (.bool ((u64 (Int.tdiv a0.Dst 16)) == 103282638848)) (by kernel_rfl) (fun w' hw => ⟨rfl, hw.pick [] rfl⟩)

end Go.Proofs.YtbbekdmndifkpaaGreatDoor

namespace Go.Proofs.YtbbekdmndifkpaaGreatDoor
open Go Eng
set_option linter.unusedVariables false
set_option linter.unusedSimpArgs false

/-! ### gangway/gangwayref16.Has: function 82 -/
def gangwayref16_Has.k2 (x7 : Bool) : Option (Bool) :=
  some x7

def gangwayref16_Has.k1 (x6 : Bool) : Option (Bool) :=
  gangwayref16_Has.k2 x6

def gangwayref16_Has.f (k : Nat) (a0 : Bool) (a0_1 : Int) (a0_2 : (List Int)) (a1 : Int) : Option (Bool) :=
  bif ((!a0) && (a1 == a0_1)) then
    gangwayref16_Has.k2 true
  else
    bif a0 then
      (gangwayref16_among.f k a0_2 a1).bind fun r4 =>
      gangwayref16_Has.k1 r4
    else
      gangwayref16_Has.k1 false

set_option maxRecDepth 100000 in
theorem gangwayref16_Has_calls (k : Nat) (A00 : SkL Unit) (a0 : Bool) (a0_1 : Int) (a0_2 : (List Int)) (a1 : Int) (r : Bool) (h : gangwayref16_Has.f k a0 a0_1 a0_2 a1 = some r) : Pure Tryz.prog ([Row 1 (pl (encI .i64)) noK A00 a0_2] ++ Glob) 82 #[.agg #[.bool a0, .int .i64 a0_1, slcV A00 a0_2.length], .int .i64 a1] (.bool r) := by
  intro w Z hS
  refine calls_of (args := [.agg #[.bool a0, .int .i64 a0_1, slcV A00 a0_2.length], .int .i64 a1]) (L := [(0, .agg #[.bool a0, .int .i64 a0_1, slcV A00 a0_2.length]), (1, .int .i64 a1)]) (N := 24) (S := Sat w Z [] [] ([Row 1 (pl (encI .i64)) noK A00 a0_2] ++ Glob)) Tryz.func82 rfl rfl (Nat.le_of_ble_eq_true rfl) rfl hS ?_
  have hM := h
  clear h hS
  unfold gangwayref16_Has.f at hM
  refine WP.seq ?_
  refine WP.rh [] (fun b1 => [(2, .pointer (some ⟨b1, 0, none⟩)), (4, .bool false)]) (fun b1 => []) (fun b1 => [(b1, .cells #[.bool a0, .int .i64 a0_1, slcV A00 a0_2.length] 84 (0, 0))]) (fun b1 => ?_)
  refine WP.seq ?_
  refine WP.region ?_
  refine WL.rn 4 [0] [(8, .bool (!a0))] ?_
  refine WL.bo 8 (!a0) 5 [0] [] (fun b' => [(13, .bool (b' && (a1 == a0_1)))]) ?_
  refine WL.rn 1 [] [(14, .bool ((!a0) && (a1 == a0_1)))] ?_
  refine WL.join (σ := Bool) 9 (fun st => gangwayref16_Has.k2 st = some r) (fun st => [(4, .bool false), (23, .bool st)]) (fun st => Sat w Z [] [] ([Row 1 (pl (encI .i64)) noK A00 a0_2] ++ Glob)) (fun st hM => ?_) (fun K2 => ?_)
  ·
    obtain ⟨x7, rfl⟩ : ∃ y, y = st := ⟨st, rfl⟩
    replace hM : gangwayref16_Has.k2 x7 = some r := hM
    unfold gangwayref16_Has.k2 at hM
    show WL _ _ _ _ _ [(4, .bool false), (23, .bool x7)] (Sat w Z [] [] ([Row 1 (pl (encI .i64)) noK A00 a0_2] ++ Glob))
    refine WL.rn 1 [] [(4, .bool x7)] ?_
    refine WP.done ?_
    obtain rfl := Option.some.inj hM
    exact WP.ret [] [] (.bool x7) (by kernel_rfl) (fun w' hw => ⟨rfl, (hw.pick [] rfl).lessF [0] (by kernel_rfl)⟩)
  ·
    refine WL.sp 14 ((!a0) && (a1 == a0_1)) (fun c2 => ?_) (fun c2 => ?_)
    · replace hM := cond_t hM c2
      refine WL.rn 9 [] [(23, .bool true)] ?_
      exact WL.sub [4, 23] (by kernel_rfl) (WL.pick [] (by kernel_rfl) (by kernel_rfl) (WL.lessF [0] (by kernel_rfl) (K2 true hM)))
    · replace hM := cond_f hM c2
      refine WL.rn 3 [0] [(17, .bool a0)] ?_
      refine WL.join (σ := Bool) 5 (fun st => gangwayref16_Has.k1 st = some r) (fun st => [(4, .bool false), (14, .bool false), (22, .bool st)]) (fun st => Sat w Z [] [] ([Row 1 (pl (encI .i64)) noK A00 a0_2] ++ Glob)) (fun st hM => ?_) (fun K1 => ?_)
      ·
        obtain ⟨x6, rfl⟩ : ∃ y, y = st := ⟨st, rfl⟩
        replace hM : gangwayref16_Has.k1 x6 = some r := hM
        unfold gangwayref16_Has.k1 at hM
        show WL _ _ _ _ _ [(4, .bool false), (14, .bool false), (22, .bool x6)] (Sat w Z [] [] ([Row 1 (pl (encI .i64)) noK A00 a0_2] ++ Glob))
        refine WL.rn 1 [] [(23, .bool x6)] ?_
        exact WL.sub [4, 23] (by kernel_rfl) (WL.pick [] (by kernel_rfl) (by kernel_rfl) (WL.lessF [0] (by kernel_rfl) (K2 x6 hM)))
      ·
        refine WL.sp 17 a0 (fun c3 => ?_) (fun c3 => ?_)
        · replace hM := cond_t hM c3
          refine WL.rn 3 [0] [(19, slcV A00 a0_2.length), (20, .int .i64 a1)] ?_
          obtain ⟨r4, h5, hM⟩ := bind_some hM
          refine WL.callP [] [] (gangwayref16_among_calls k A00 a0_2 a1 _ h5) (sub_pick [0] (by kernel_rfl)) (by kernel_rfl) (by kernel_rfl) rfl ?_
          refine WL.rn 1 [] [(22, .bool r4)] ?_
          exact WL.sub [4, 14, 22] (by kernel_rfl) (WL.pick [] (by kernel_rfl) (by kernel_rfl) (WL.lessF [0] (by kernel_rfl) (K1 r4 hM)))
        · replace hM := cond_f hM c3
          refine WL.rn 5 [] [(22, .bool false)] ?_
          exact WL.sub [4, 14, 22] (by kernel_rfl) (WL.pick [] (by kernel_rfl) (by kernel_rfl) (WL.lessF [0] (by kernel_rfl) (K1 false hM)))

end Go.Proofs.YtbbekdmndifkpaaGreatDoor

namespace Go.Proofs.YtbbekdmndifkpaaGreatDoor
open Go Eng
set_option linter.unusedVariables false
set_option linter.unusedSimpArgs false

/-! ### gangway/gangwayref16.In: function 48 -/
def gangwayref16_In.k1 (k : Nat) (a0 : Bool) (a0_1 : Int) (a0_2 : (List Int)) (a1 : api_Frame) (x3 : Int) : Option (Int × api_Frame × Bool) :=
  (gangwayref16_Has.f k a0 a0_1 a0_2 x3).bind fun r4 =>
  bif !r4 then
    some (0, (api_Frame.mk 0 0 (api_Tag.mk false 0 false 0) 0 (⟨#[]⟩ : ByteArray)), false)
  else
    some (x3, (api_Frame.mk a1.Dst a1.Src (api_Tag.mk false 0 false 0) a1.Type_ a1.Body), true)

def gangwayref16_In.f (k : Nat) (a0 : Bool) (a0_1 : Int) (a0_2 : (List Int)) (a1 : api_Frame) : Option (Int × api_Frame × Bool) :=
  bif (a1.Tag.Has && (a1.Tag.Vid != 0)) then
    gangwayref16_In.k1 k a0 a0_1 a0_2 a1 a1.Tag.Vid
  else
    gangwayref16_In.k1 k a0 a0_1 a0_2 a1 a0_1

set_option maxRecDepth 100000 in
theorem gangwayref16_In_calls (k : Nat) (A00 : SkL Unit) (a0 : Bool) (a0_1 : Int) (a0_2 : (List Int)) (a1 : api_Frame) (r : Int × api_Frame × Bool) (h : gangwayref16_In.f k a0 a0_1 a0_2 a1 = some r) : Pure Tryz.prog ([Row 1 (pl (encI .i64)) noK A00 a0_2] ++ Glob) 48 #[.agg #[.bool a0, .int .i64 a0_1, slcV A00 a0_2.length], api_Frame.v a1] (.tuple #[.int .i64 r.1, api_Frame.v r.2.1, .bool r.2.2]) := by
  intro w Z hS
  refine calls_of (args := [.agg #[.bool a0, .int .i64 a0_1, slcV A00 a0_2.length], api_Frame.v a1]) (L := [(0, .agg #[.bool a0, .int .i64 a0_1, slcV A00 a0_2.length]), (1, api_Frame.v a1)]) (N := 31) (S := Sat w Z [] [] ([Row 1 (pl (encI .i64)) noK A00 a0_2] ++ Glob)) Tryz.func48 rfl rfl (Nat.le_of_ble_eq_true rfl) rfl hS ?_
  have hM := h
  clear h hS
  unfold gangwayref16_In.f at hM
  refine WP.seq ?_
  refine WP.rh [] (fun b1 => [(2, .pointer (some ⟨b1, 0, none⟩)), (3, .pointer (some ⟨(b1 + 1), 0, none⟩)), (4, .int .i64 0), (5, .pointer (some ⟨(b1 + 2), 0, none⟩)), (6, .bool false)]) (fun b1 => []) (fun b1 => [(b1, .cells #[.bool a0, .int .i64 a0_1, slcV A00 a0_2.length] 84 (0, 0)), ((b1 + 1), api_Frame.o a1), ((b1 + 2), .cells #[.int .u64 0, .int .u64 0, .bool false, .int .i64 0, .bool false, .int .i64 0, .int .i64 0, .string (⟨#[]⟩ : ByteArray)] 40 (0, 0))]) (fun b1 => ?_)
  refine WP.seq ?_
  refine WP.rn [0] [(7, .int .i64 a0_1)] ?_
  refine WP.seqJoin (σ := Int) (fun st => gangwayref16_In.k1 k a0 a0_1 a0_2 a1 st = some r) (fun st => [(2, .pointer (some ⟨b1, 0, none⟩)), (3, .pointer (some ⟨(b1 + 1), 0, none⟩)), (4, .int .i64 0), (5, .pointer (some ⟨(b1 + 2), 0, none⟩)), (6, .bool false), (7, .int .i64 st)]) (fun st => Sat w Z [(b1, .cells #[.bool a0, .int .i64 a0_1, slcV A00 a0_2.length] 84 (0, 0)), ((b1 + 1), api_Frame.o a1), ((b1 + 2), .cells #[.int .u64 0, .int .u64 0, .bool false, .int .i64 0, .bool false, .int .i64 0, .int .i64 0, .string (⟨#[]⟩ : ByteArray)] 40 (0, 0))] [] ([Row 1 (pl (encI .i64)) noK A00 a0_2] ++ Glob)) (fun st hM => ?_) (fun K1 => ?_)
  ·
    obtain ⟨x3, rfl⟩ : ∃ y, y = st := ⟨st, rfl⟩
    replace hM : gangwayref16_In.k1 k a0 a0_1 a0_2 a1 x3 = some r := hM
    unfold gangwayref16_In.k1 at hM
    show WP _ _ _ _ _ [(2, .pointer (some ⟨b1, 0, none⟩)), (3, .pointer (some ⟨(b1 + 1), 0, none⟩)), (4, .int .i64 0), (5, .pointer (some ⟨(b1 + 2), 0, none⟩)), (6, .bool false), (7, .int .i64 x3)] (Sat w Z [(b1, .cells #[.bool a0, .int .i64 a0_1, slcV A00 a0_2.length] 84 (0, 0)), ((b1 + 1), api_Frame.o a1), ((b1 + 2), .cells #[.int .u64 0, .int .u64 0, .bool false, .int .i64 0, .bool false, .int .i64 0, .int .i64 0, .string (⟨#[]⟩ : ByteArray)] 40 (0, 0))] [] ([Row 1 (pl (encI .i64)) noK A00 a0_2] ++ Glob))
    refine WP.seq ?_
    refine WP.seq ?_
    refine WP.region ?_
    refine WL.rn 2 [0, 0, 0] [(22, .agg #[.bool a0, .int .i64 a0_1, slcV A00 a0_2.length]), (23, .int .i64 x3)] ?_
    obtain ⟨r4, h5, hM⟩ := bind_some hM
    refine WL.callP [] [] (gangwayref16_Has_calls k A00 a0 a0_1 a0_2 x3 _ h5) (sub_pick [0] (by kernel_rfl)) (by kernel_rfl) (by kernel_rfl) rfl ?_
    refine WL.rn 1 [] [(25, .bool (!r4))] ?_
    refine WP.done ?_
    refine WP.kp [false, true, true] ?_
    refine WP.cond (!r4) rfl rfl (fun c6 => ?_) (fun c6 => ?_)
    · replace hM := cond_t hM c6
      refine WP.seq ?_
      refine WP.rn [1, 1, 1, 1, 1, 1, 1, 1] [(4, .int .i64 0), (6, .bool false)] ?_
      obtain rfl := Option.some.inj hM
      exact WP.ret [1, 1, 1, 1, 1, 1, 1, 1] [(b1 + 2), (b1 + 2), (b1 + 2), (b1 + 2), (b1 + 2), (b1 + 2), (b1 + 2), (b1 + 2)] (.tuple #[.int .i64 0, .agg #[.int .u64 0, .int .u64 0, .bool false, .int .i64 0, .bool false, .int .i64 0, .int .i64 0, .string (⟨#[]⟩ : ByteArray)], .bool false]) (by kernel_rfl) (fun w' hw => ⟨rfl, (hw.pick [] rfl).lessF [0] (by kernel_rfl)⟩)
    · replace hM := cond_f hM c6
      refine WP.skip ?_
      refine WP.seq ?_
      refine WP.rh [0, 0, 0, 0] (fun _ => []) (fun _ => [(0, 2, [.bool false, .int .i64 0, .bool false, .int .i64 0])]) (fun _ => []) (fun _ => ?_)
      refine WP.seq ?_
      refine WP.sub [3, 5, 6, 7] (L' := [(3, .pointer (some ⟨(b1 + 1), 0, none⟩)), (5, .pointer (some ⟨(b1 + 2), 0, none⟩)), (6, .bool false), (7, .int .i64 x3)]) (by kernel_rfl) ?_
      refine WP.mixed (X := Unit) 3 [.val (.int .i64 x3), .val (.agg #[.int .u64 a1.Dst, .int .u64 a1.Src, .bool false, .int .i64 0, .bool false, .int .i64 0, .int .i64 a1.Type_, .string a1.Body]), .val (.int .i64 x3)] [((b1 + 1), .cells #[.int .u64 a1.Dst, .int .u64 a1.Src, .bool false, .int .i64 0, .bool false, .int .i64 0, .int .i64 a1.Type_, .string a1.Body] 40 (0, 0)), ((b1 + 2), .cells #[.int .u64 0, .int .u64 0, .bool false, .int .i64 0, .bool false, .int .i64 0, .int .i64 0, .string (⟨#[]⟩ : ByteArray)] 40 (0, 0))] [] (by kernel_rfl) (by kernel_rfl) (by kernel_rfl) (by kernel_rfl) (Heads.val (fun tt Ψ => OpV.run [] [] (by kernel_rfl) (fun _ => by kernel_rfl)) (Heads.val (fun tt Ψ => OpV.run [0, 0, 0, 0, 0, 0, 0, 0] [(b1 + 1), (b1 + 1), (b1 + 1), (b1 + 1), (b1 + 1), (b1 + 1), (b1 + 1), (b1 + 1)] (by kernel_rfl) (fun _ => by kernel_rfl)) (Heads.val (fun tt Ψ => OpV.run [] [] (by kernel_rfl) (fun _ => by kernel_rfl)) Heads.nil))) (fun s7 tt => [(29, .int .i64 x3), (30, .agg #[.int .u64 a1.Dst, .int .u64 a1.Src, .bool false, .int .i64 0, .bool false, .int .i64 0, .int .i64 a1.Type_, .string a1.Body]), (4, .int .i64 x3), (3, .pointer (some ⟨(b1 + 1), 0, none⟩)), (5, .pointer (some ⟨(b1 + 2), 0, none⟩)), (6, .bool false), (7, .int .i64 x3)]) (fun s7 tt => [((b1 + 1), .cells #[.int .u64 a1.Dst, .int .u64 a1.Src, .bool false, .int .i64 0, .bool false, .int .i64 0, .int .i64 a1.Type_, .string a1.Body] 40 (0, 0)), ((b1 + 2), .cells #[.int .u64 0, .int .u64 0, .bool false, .int .i64 0, .bool false, .int .i64 0, .int .i64 0, .string (⟨#[]⟩ : ByteArray)] 40 (0, 0))]) (fun tt => ([] ++ [Row 1 (pl (encI .i64)) noK A00 a0_2]) ++ Glob) (fun _ _ => by kernel_rfl) (fun _ _ => by kernel_rfl) (fun _ => by kernel_rfl) (fun s7 tt => ?_)
      refine WL.rh 2 [1, 1, 1, 1, 1, 1, 1, 1] (fun _ => [(6, .bool true)]) (fun _ => [(1, 0, [.int .u64 a1.Dst, .int .u64 a1.Src]), (1, 6, [.int .i64 a1.Type_, .string a1.Body])]) (fun _ => []) (fun _ => ?_)
      refine WP.done ?_
      refine WP.kp [false, true] ?_
      obtain rfl := Option.some.inj hM
      exact WP.ret [0, 0, 0, 0, 0, 0, 0, 0] [(b1 + 2), (b1 + 2), (b1 + 2), (b1 + 2), (b1 + 2), (b1 + 2), (b1 + 2), (b1 + 2)] (.tuple #[.int .i64 x3, .agg #[.int .u64 a1.Dst, .int .u64 a1.Src, .bool false, .int .i64 0, .bool false, .int .i64 0, .int .i64 a1.Type_, .string a1.Body], .bool true]) (by kernel_rfl) (fun w' hw => ⟨rfl, (hw.pick [] rfl).lessF [0] (by kernel_rfl)⟩)
  ·
    refine WP.seq ?_
    refine WP.region ?_
    refine WL.rn 4 [1] [(13, .bool a1.Tag.Has)] ?_
    refine WL.bo 13 a1.Tag.Has 5 [1] [] (fun b' => [(18, .bool (b' && (a1.Tag.Vid != 0)))]) ?_
    refine WP.done ?_
    refine WP.cond (a1.Tag.Has && (a1.Tag.Vid != 0)) rfl rfl (fun c2 => ?_) (fun c2 => ?_)
    · replace hM := cond_t hM c2
      refine WP.rn [1] [(7, .int .i64 a1.Tag.Vid)] ?_
      exact WP.sub [2, 3, 4, 5, 6, 7] (by kernel_rfl) (WP.pick [0, 1, 2] (by kernel_rfl) (by kernel_rfl) (WP.lessF [0] (by kernel_rfl) (K1 a1.Tag.Vid hM)))
    · replace hM := cond_f hM c2
      refine WP.skip ?_
      exact WP.sub [2, 3, 4, 5, 6, 7] (by kernel_rfl) (WP.pick [0, 1, 2] (by kernel_rfl) (by kernel_rfl) (WP.lessF [0] (by kernel_rfl) (K1 a0_1 hM)))

end Go.Proofs.YtbbekdmndifkpaaGreatDoor

namespace Go.Proofs.YtbbekdmndifkpaaGreatDoor
open Go Eng
set_option linter.unusedVariables false
set_option linter.unusedSimpArgs false

/-! ### gangway/gangwayref28.Of: function 26 -/
def gangwayref28_Of.k1 (a0 : (List api_Gate)) (a1 : api_Event) (k : Nat) (r2 : api_Frame) (x9 : Bool) : Option (Int × api_Frame × Bool) :=
  bif x9 then
    some (0, (api_Frame.mk 0 0 (api_Tag.mk false 0 false 0) 0 (⟨#[]⟩ : ByteArray)), false)
  else
    (getL a0.length a0 (i64 (a1.Gate - 1))).bind fun t12 =>
    (getL t12.Ports.length t12.Ports (i64 (a1.Port - 1))).bind fun t14 =>
    (gangwayref16_In.f k t14.Trunk t14.Pvid t14.Vids r2).bind fun (r16, r17, r18) =>
    some (r16, r17, r18)

def gangwayref28_Of.f (k : Nat) (a0 : (List api_Gate)) (a1 : api_Event) : Option (Int × api_Frame × Bool) :=
  (gangwayref04_Parse.f k a1.S).bind fun (r2, r3) =>
  bif ((((r3 != 0) || (decide (a1.Gate < 1))) || (decide (a1.Gate > (a0.length : Int)))) || (decide (a1.Port < 1))) then
    gangwayref28_Of.k1 a0 a1 k r2 true
  else
    (getL a0.length a0 (i64 (a1.Gate - 1))).bind fun t7 =>
    gangwayref28_Of.k1 a0 a1 k r2 (decide (a1.Port > (t7.Ports.length : Int)))

set_option maxRecDepth 100000 in
theorem gangwayref28_Of_calls (k : Nat) (A00 : SkL ((SkL (SkL Unit)) × (SkL Unit) × (SkL (SkL Unit)) × (SkL Unit))) (a0 : (List api_Gate)) (a1 : api_Event) (r : Int × api_Frame × Bool) (h : gangwayref28_Of.f k a0 a1 = some r) : Pure Tryz.prog ([Row 21 api_Gate.encS api_Gate.inK A00 a0] ++ Glob) 26 #[slcV A00 a0.length, api_Event.v a1] (.tuple #[.int .i64 r.1, api_Frame.v r.2.1, .bool r.2.2]) := by
  intro w Z hS
  refine calls_of (args := [slcV A00 a0.length, api_Event.v a1]) (L := [(0, slcV A00 a0.length), (1, api_Event.v a1)]) (N := 65) (S := Sat w Z [] [] ([Row 21 api_Gate.encS api_Gate.inK A00 a0] ++ Glob)) Tryz.func26 rfl rfl (Nat.le_of_ble_eq_true rfl) rfl hS ?_
  have hM := h
  clear h hS
  unfold gangwayref28_Of.f at hM
  refine WP.seq ?_
  refine WP.rh [] (fun b1 => [(3, .pointer (some ⟨b1, 0, none⟩)), (4, .int .i64 0), (5, .pointer (some ⟨(b1 + 1), 0, none⟩)), (6, .bool false)]) (fun b1 => []) (fun b1 => [(b1, api_Event.o a1), ((b1 + 1), .cells #[.int .u64 0, .int .u64 0, .bool false, .int .i64 0, .bool false, .int .i64 0, .int .i64 0, .string (⟨#[]⟩ : ByteArray)] 40 (0, 0))]) (fun b1 => ?_)
  refine WP.seq ?_
  refine WP.region ?_
  refine WL.rn 2 [0] [(11, .string a1.S)] ?_
  obtain ⟨⟨r2, r3⟩, h4, hM⟩ := bind_some hM
  dsimp only at hM
  refine WL.callP [] [] (gangwayref04_Parse_calls k a1.S _ h4) (fun _ h => List.mem_append_right _ h) (by kernel_rfl) (by kernel_rfl) rfl ?_
  refine WL.rh 6 [2, 2, 2, 2, 2, 2, 2, 2] (fun b5 => [(7, .pointer (some ⟨b5, 0, none⟩)), (8, .int .i64 r3)]) (fun b5 => []) (fun b5 => [(b5, api_Frame.o r2)]) (fun b5 => ?_)
  refine WP.done ?_
  refine WP.seq ?_
  refine WP.seq ?_
  refine WP.quiet (by kernel_rfl) (by kernel_rfl) ?_
  refine QL.rn 3 [] [(17, .bool (r3 != 0))] ?_
  refine QL.bo 17 (r3 != 0) 4 [] [0] (fun b' => [(21, .bool (b' || (decide (a1.Gate < 1))))]) ?_
  refine QL.rn 1 [] [(22, .bool ((r3 != 0) || (decide (a1.Gate < 1))))] ?_
  refine QL.bo 22 ((r3 != 0) || (decide (a1.Gate < 1))) 6 [] [0] (fun b' => [(28, .bool (b' || (decide (a1.Gate > (a0.length : Int)))))]) ?_
  refine QL.rn 1 [] [(29, .bool (((r3 != 0) || (decide (a1.Gate < 1))) || (decide (a1.Gate > (a0.length : Int)))))] ?_
  refine QL.bo 29 (((r3 != 0) || (decide (a1.Gate < 1))) || (decide (a1.Gate > (a0.length : Int)))) 4 [] [0] (fun b' => [(33, .bool (b' || (decide (a1.Port < 1))))]) ?_
  refine QL.rn 1 [] [(34, .bool ((((r3 != 0) || (decide (a1.Gate < 1))) || (decide (a1.Gate > (a0.length : Int)))) || (decide (a1.Port < 1))))] ?_
  refine QL.join (σ := Bool) 12 (fun st => gangwayref28_Of.k1 a0 a1 k r2 st = some r) (fun st => [(0, slcV A00 a0.length), (3, .pointer (some ⟨b1, 0, none⟩)), (4, .int .i64 0), (5, .pointer (some ⟨(b1 + 1), 0, none⟩)), (6, .bool false), (7, .pointer (some ⟨b5, 0, none⟩)), (46, .bool st)]) (fun st hM => ?_) (fun K1 => ?_)
  ·
    obtain ⟨x9, rfl⟩ : ∃ y, y = st := ⟨st, rfl⟩
    replace hM : gangwayref28_Of.k1 a0 a1 k r2 x9 = some r := hM
    unfold gangwayref28_Of.k1 at hM
    show QL _ _ _ _ _ _ [(0, slcV A00 a0.length), (3, .pointer (some ⟨b1, 0, none⟩)), (4, .int .i64 0), (5, .pointer (some ⟨(b1 + 1), 0, none⟩)), (6, .bool false), (7, .pointer (some ⟨b5, 0, none⟩)), (46, .bool x9)]
    refine QL.done ?_
    refine WP.cond x9 rfl rfl (fun c10 => ?_) (fun c10 => ?_)
    · replace hM := cond_t hM c10
      refine WP.seq ?_
      refine WP.rn [1, 1, 1, 1, 1, 1, 1, 1] [(4, .int .i64 0), (6, .bool false)] ?_
      obtain rfl := Option.some.inj hM
      exact WP.ret [1, 1, 1, 1, 1, 1, 1, 1] [(b1 + 1), (b1 + 1), (b1 + 1), (b1 + 1), (b1 + 1), (b1 + 1), (b1 + 1), (b1 + 1)] (.tuple #[.int .i64 0, .agg #[.int .u64 0, .int .u64 0, .bool false, .int .i64 0, .bool false, .int .i64 0, .int .i64 0, .string (⟨#[]⟩ : ByteArray)], .bool false]) (by kernel_rfl) (fun w' hw => ⟨rfl, (hw.pick [] rfl).lessF [0] (by kernel_rfl)⟩)
    · replace hM := cond_f hM c10
      refine WP.skip ?_
      refine WP.seq ?_
      obtain ⟨t12, h13, hM⟩ := bind_some hM
      obtain ⟨t14, h15, hM⟩ := bind_some hM
      obtain ⟨⟨r16, r17, r18⟩, h19, hM⟩ := bind_some hM
      dsimp only at hM
      refine WP.sub [0, 3, 4, 5, 6, 7] (L' := [(0, slcV A00 a0.length), (3, .pointer (some ⟨b1, 0, none⟩)), (4, .int .i64 0), (5, .pointer (some ⟨(b1 + 1), 0, none⟩)), (6, .bool false), (7, .pointer (some ⟨b5, 0, none⟩))]) (by kernel_rfl) ?_
      refine WP.mixed (X := Unit) 17 [.val (slcV A00 a0.length), .val (.pointer (some ⟨b1, 1, none⟩)), .val (.int .i64 a1.Gate), .val (.int .i64 (i64 (a1.Gate - 1))), .val (ptrV A00 (Int.toNat (i64 (a1.Gate - 1)) * 21)), .val (ptrV A00 (Int.toNat (i64 (a1.Gate - 1)) * 21 + 3)), .val (slcV ((A00.s (Int.toNat (i64 (a1.Gate - 1)))).1) t12.Ports.length), .val (.pointer (some ⟨b1, 2, none⟩)), .val (.int .i64 a1.Port), .val (.int .i64 (i64 (a1.Port - 1))), .val (ptrV ((A00.s (Int.toNat (i64 (a1.Gate - 1)))).1) (Int.toNat (i64 (a1.Port - 1)) * 3)), .val (.agg #[.bool t14.Trunk, .int .i64 t14.Pvid, slcV (((A00.s (Int.toNat (i64 (a1.Gate - 1)))).1).s (Int.toNat (i64 (a1.Port - 1)))) t14.Vids.length]), .val (api_Frame.v r2), .val (.tuple #[.int .i64 r16, api_Frame.v r17, .bool r18]), .val (.int .i64 r16), .val (api_Frame.v r17), .val (.bool r18)] [(b1, api_Event.o a1), ((b1 + 1), .cells #[.int .u64 0, .int .u64 0, .bool false, .int .i64 0, .bool false, .int .i64 0, .int .i64 0, .string (⟨#[]⟩ : ByteArray)] 40 (0, 0)), (b5, api_Frame.o r2)] [] (by kernel_rfl) (by kernel_rfl) (by kernel_rfl) (by kernel_rfl) (Heads.val (fun tt Ψ => OpV.run [] [] (by kernel_rfl) (fun _ => by kernel_rfl)) (Heads.val (fun tt Ψ => OpV.run [] [] (by kernel_rfl) (fun _ => by kernel_rfl)) (Heads.val (fun tt Ψ => OpV.run [0] [b1] (by kernel_rfl) (fun _ => by kernel_rfl)) (Heads.val (fun tt Ψ => OpV.run [] [] (by kernel_rfl) (fun _ => by kernel_rfl)) (Heads.val (fun tt Ψ => OpV.valF (φ := Row 21 api_Gate.encS api_Gate.inK A00 a0) (List.mem_append_right _ (fact_at 0 rfl)) (fun w hR => run_indexRowF (A := A00) (xs := a0) (i := i64 (a1.Gate - 1)) (k := .i64) (e := 73) (m := 21) (by kernel_rfl) (by kernel_rfl) h13 (by kernel_rfl) (by kernel_rfl) hR) (by kernel_rfl)) (Heads.val (fun tt Ψ => OpV.valF (φ := Row 21 api_Gate.encS api_Gate.inK A00 a0) (List.mem_append_right _ (fact_at 0 rfl)) (fun w hR => run_fieldRowF (A := A00) (xs := a0) (i := i64 (a1.Gate - 1)) (n := Int.toNat (i64 (a1.Gate - 1)) * 21 + 0) (n' := Int.toNat (i64 (a1.Gate - 1)) * 21 + 3) h13 (by kernel_rfl) (fun _ _ => by kernel_rfl) hR) (by kernel_rfl)) (Heads.val (fun tt Ψ => OpV.valF (φ := Row 21 api_Gate.encS api_Gate.inK A00 a0) (List.mem_append_right _ (fact_at 0 rfl)) (fun w hR => run_loadRowF (A := A00) (xs := a0) (i := i64 (a1.Gate - 1)) (j := 3) (v := slcV ((A00.s (Int.toNat (i64 (a1.Gate - 1)))).1) t12.Ports.length) h13 (fun _ => by kernel_rfl) (by kernel_rfl) (by kernel_rfl) hR) (by kernel_rfl)) (Heads.val (fun tt Ψ => OpV.run [] [] (by kernel_rfl) (fun _ => by kernel_rfl)) (Heads.val (fun tt Ψ => OpV.run [0] [b1] (by kernel_rfl) (fun _ => by kernel_rfl)) (Heads.val (fun tt Ψ => OpV.run [] [] (by kernel_rfl) (fun _ => by kernel_rfl)) (Heads.val (fun tt Ψ => OpV.know (φ := Row 3 api_PortCfg.encS api_PortCfg.inK ((A00.s (Int.toNat (i64 (a1.Gate - 1)))).1) t12.Ports) [Row 21 api_Gate.encS api_Gate.inK A00 a0] (one_fact (List.mem_append_right _ (fact_at 0 rfl))) (fun w hψ => ((hψ _ (List.mem_singleton.2 rfl)).inner _ _ (getL_parts h13).2).1) (OpV.valF (φ := Row 3 api_PortCfg.encS api_PortCfg.inK ((A00.s (Int.toNat (i64 (a1.Gate - 1)))).1) t12.Ports) (List.mem_cons_self ..) (fun w hR => run_indexRowF (A := (A00.s (Int.toNat (i64 (a1.Gate - 1)))).1) (xs := t12.Ports) (i := i64 (a1.Port - 1)) (k := .i64) (e := 84) (m := 3) (by kernel_rfl) (by kernel_rfl) h15 (by kernel_rfl) (by kernel_rfl) hR) (by kernel_rfl))) (Heads.val (fun tt Ψ => OpV.know (φ := Row 3 api_PortCfg.encS api_PortCfg.inK ((A00.s (Int.toNat (i64 (a1.Gate - 1)))).1) t12.Ports) [Row 21 api_Gate.encS api_Gate.inK A00 a0] (one_fact (List.mem_append_right _ (fact_at 0 rfl))) (fun w hψ => ((hψ _ (List.mem_singleton.2 rfl)).inner _ _ (getL_parts h13).2).1) (OpV.valF (φ := Row 3 api_PortCfg.encS api_PortCfg.inK ((A00.s (Int.toNat (i64 (a1.Gate - 1)))).1) t12.Ports) (List.mem_cons_self ..) (fun w hR => run_loadRowFA (A := (A00.s (Int.toNat (i64 (a1.Gate - 1)))).1) (xs := t12.Ports) (i := i64 (a1.Port - 1)) (j := 0) (n := 3) (vs := [.bool t14.Trunk, .int .i64 t14.Pvid, slcV (((A00.s (Int.toNat (i64 (a1.Gate - 1)))).1).s (Int.toNat (i64 (a1.Port - 1)))) t14.Vids.length]) h15 (fun _ => by kernel_rfl) (by kernel_rfl) (by kernel_rfl) (by kernel_rfl) rfl hR) (by kernel_rfl))) (Heads.val (fun tt Ψ => OpV.run [2, 2, 2, 2, 2, 2, 2, 2] [b5, b5, b5, b5, b5, b5, b5, b5] (by kernel_rfl) (fun _ => by kernel_rfl)) (Heads.val (fun tt Ψ => OpV.know (φ := Row 3 api_PortCfg.encS api_PortCfg.inK ((A00.s (Int.toNat (i64 (a1.Gate - 1)))).1) t12.Ports) [Row 21 api_Gate.encS api_Gate.inK A00 a0] (one_fact (List.mem_append_right _ (fact_at 0 rfl))) (fun w hψ => ((hψ _ (List.mem_singleton.2 rfl)).inner _ _ (getL_parts h13).2).1) (OpV.know (φ := Row 1 (pl (encI .i64)) noK (((A00.s (Int.toNat (i64 (a1.Gate - 1)))).1).s (Int.toNat (i64 (a1.Port - 1)))) t14.Vids) [Row 3 api_PortCfg.encS api_PortCfg.inK ((A00.s (Int.toNat (i64 (a1.Gate - 1)))).1) t12.Ports] (one_fact (List.mem_cons_self ..)) (fun w hψ => ((hψ _ (List.mem_singleton.2 rfl)).inner _ _ (getL_parts h15).2)) (OpV.callF [] [] (app2 (mem2 (List.mem_cons_self ..) no_facts) (fun _ h => (List.mem_cons_of_mem _ (List.mem_cons_of_mem _ (List.mem_append_right _ (List.mem_append_right _ h)))))) (gangwayref16_In_calls k (((A00.s (Int.toNat (i64 (a1.Gate - 1)))).1).s (Int.toNat (i64 (a1.Port - 1)))) t14.Trunk t14.Pvid t14.Vids r2 _ h19)  (fun _ => by kernel_rfl)))) (Heads.val (fun tt Ψ => OpV.run [] [] (by kernel_rfl) (fun _ => by kernel_rfl)) (Heads.val (fun tt Ψ => OpV.run [] [] (by kernel_rfl) (fun _ => by kernel_rfl)) (Heads.val (fun tt Ψ => OpV.run [] [] (by kernel_rfl) (fun _ => by kernel_rfl)) Heads.nil))))))))))))))))) (fun s11 tt => [(48, slcV A00 a0.length), (49, .pointer (some ⟨b1, 1, none⟩)), (50, .int .i64 a1.Gate), (51, .int .i64 (i64 (a1.Gate - 1))), (52, ptrV A00 (Int.toNat (i64 (a1.Gate - 1)) * 21)), (53, ptrV A00 (Int.toNat (i64 (a1.Gate - 1)) * 21 + 3)), (54, slcV ((A00.s (Int.toNat (i64 (a1.Gate - 1)))).1) t12.Ports.length), (55, .pointer (some ⟨b1, 2, none⟩)), (56, .int .i64 a1.Port), (57, .int .i64 (i64 (a1.Port - 1))), (58, ptrV ((A00.s (Int.toNat (i64 (a1.Gate - 1)))).1) (Int.toNat (i64 (a1.Port - 1)) * 3)), (59, .agg #[.bool t14.Trunk, .int .i64 t14.Pvid, slcV (((A00.s (Int.toNat (i64 (a1.Gate - 1)))).1).s (Int.toNat (i64 (a1.Port - 1)))) t14.Vids.length]), (60, api_Frame.v r2), (61, .tuple #[.int .i64 r16, api_Frame.v r17, .bool r18]), (62, .int .i64 r16), (63, api_Frame.v r17), (64, .bool r18), (0, slcV A00 a0.length), (3, .pointer (some ⟨b1, 0, none⟩)), (4, .int .i64 0), (5, .pointer (some ⟨(b1 + 1), 0, none⟩)), (6, .bool false), (7, .pointer (some ⟨b5, 0, none⟩))]) (fun s11 tt => [(b1, api_Event.o a1), ((b1 + 1), .cells #[.int .u64 0, .int .u64 0, .bool false, .int .i64 0, .bool false, .int .i64 0, .int .i64 0, .string (⟨#[]⟩ : ByteArray)] 40 (0, 0)), (b5, api_Frame.o r2)]) (fun tt => ([] ++ [Row 21 api_Gate.encS api_Gate.inK A00 a0]) ++ Glob) (fun _ _ => by kernel_rfl) (fun _ _ => by kernel_rfl) (fun _ => by kernel_rfl) (fun s11 tt => ?_)
      refine WL.rh 3 [1, 1, 1, 1, 1, 1, 1, 1] (fun _ => [(4, .int .i64 r16), (6, .bool r18)]) (fun _ => [(1, 0, [.int .u64 r17.Dst, .int .u64 r17.Src, .bool r17.Tag.Has, .int .i64 r17.Tag.Pri, .bool r17.Tag.Dei, .int .i64 r17.Tag.Vid, .int .i64 r17.Type_, .string r17.Body])]) (fun _ => []) (fun _ => ?_)
      refine WP.done ?_
      refine WP.kp [false, true, false] ?_
      obtain rfl := Option.some.inj hM
      exact WP.ret [0, 0, 0, 0, 0, 0, 0, 0] [(b1 + 1), (b1 + 1), (b1 + 1), (b1 + 1), (b1 + 1), (b1 + 1), (b1 + 1), (b1 + 1)] (.tuple #[.int .i64 r16, api_Frame.v r17, .bool r18]) (by kernel_rfl) (fun w' hw => ⟨rfl, (hw.pick [] rfl).lessF [0] (by kernel_rfl)⟩)
  ·
    refine QL.sp 34 ((((r3 != 0) || (decide (a1.Gate < 1))) || (decide (a1.Gate > (a0.length : Int)))) || (decide (a1.Port < 1))) (fun c6 => ?_) (fun c6 => ?_)
    · replace hM := cond_t hM c6
      refine QL.rn 12 [] [(46, .bool true)] ?_
      exact QL.sub [0, 3, 4, 5, 6, 7, 46] (by kernel_rfl) (K1 true hM)
    · replace hM := cond_f hM c6
      refine QL.rn 6 [0, 0] [(36, .int .i64 a1.Port), (37, slcV A00 a0.length), (40, .int .i64 (i64 (a1.Gate - 1)))] ?_
      obtain ⟨t7, h8, hM⟩ := bind_some hM
      refine QL.valF (φ := Row 21 api_Gate.encS api_Gate.inK A00 a0) (fact_at 0 rfl) (fun w hR => run_indexRowF (A := A00) (xs := a0) (i := i64 (a1.Gate - 1)) (k := .i64) (e := 73) (m := 21) (by kernel_rfl) (by kernel_rfl) h8 (by kernel_rfl) (by kernel_rfl) hR) (by kernel_rfl) (by kernel_rfl) rfl ?_
      refine QL.valF (φ := Row 21 api_Gate.encS api_Gate.inK A00 a0) (fact_at 0 rfl) (fun w hR => run_fieldRowF (A := A00) (xs := a0) (i := i64 (a1.Gate - 1)) (n := Int.toNat (i64 (a1.Gate - 1)) * 21 + 0) (n' := Int.toNat (i64 (a1.Gate - 1)) * 21 + 3) h8 (by kernel_rfl) (fun _ _ => by kernel_rfl) hR) (by kernel_rfl) (by kernel_rfl) rfl ?_
      refine QL.valF (φ := Row 21 api_Gate.encS api_Gate.inK A00 a0) (fact_at 0 rfl) (fun w hR => run_loadRowF (A := A00) (xs := a0) (i := i64 (a1.Gate - 1)) (j := 3) (v := slcV ((A00.s (Int.toNat (i64 (a1.Gate - 1)))).1) t7.Ports.length) h8 (fun _ => by kernel_rfl) (by kernel_rfl) (by kernel_rfl) hR) (by kernel_rfl) (by kernel_rfl) rfl ?_
      refine QL.rn 3 [] [(46, .bool (decide (a1.Port > (t7.Ports.length : Int))))] ?_
      exact QL.sub [0, 3, 4, 5, 6, 7, 46] (by kernel_rfl) (K1 (decide (a1.Port > (t7.Ports.length : Int))) hM)

end Go.Proofs.YtbbekdmndifkpaaGreatDoor

namespace Go.Proofs.YtbbekdmndifkpaaGreatDoor
open Go Eng
set_option linter.unusedVariables false
set_option linter.unusedSimpArgs false

/-! ### gangway/gangwayref21.Of: function 81 -/
def gangwayref21_Of.l1 (a0 : (List api_Seg)) (a1 : Int) : Nat → Bool → Int → Option (api_Seg × Bool)
  | 0, _, _ => none
  | n + 1, x2, x3 =>
    bif decide (x3 < (a0.length : Int)) then
      (getL a0.length a0 x3).bind fun t5 =>
      bif (t5.Vid == a1) then
        (getL a0.length a0 x3).bind fun t8 =>
        some (t8, true)
      else
        gangwayref21_Of.l1 a0 a1 n x2 (i64 (x3 + 1))
    else
      some ((api_Seg.mk 0 0 ([] : List Int)), false)

def gangwayref21_Of.f (k : Nat) (a0 : (List api_Seg)) (a1 : Int) : Option (api_Seg × Bool) :=
  gangwayref21_Of.l1 a0 a1 k false 0

set_option maxRecDepth 100000 in
theorem gangwayref21_Of_calls (k : Nat) (A00 : SkL (SkL Unit)) (a0 : (List api_Seg)) (a1 : Int) (r : api_Seg × Bool) (h : gangwayref21_Of.f k a0 a1 = some r) : Does Tryz.prog 81 #[slcV A00 a0.length, .int .i64 a1] [] ([Row 3 api_Seg.encS api_Seg.inK A00 a0] ++ Glob) (fun x : (SkL Unit) => .tuple #[.agg #[.int .i64 r.1.Vid, .int .i64 r.1.Vni, slcV x r.1.Peers.length], .bool r.2]) (fun x => []) (fun _ => []) (fun x => [Row 1 (pl (encI .u32)) noK x r.1.Peers] ++ ([Row 3 api_Seg.encS api_Seg.inK A00 a0] ++ Glob)) := by
  intro w Z hS
  refine calls_of (args := [slcV A00 a0.length, .int .i64 a1]) (L := [(0, slcV A00 a0.length), (1, .int .i64 a1)]) (N := 25) (S := Sat w Z [] [] ([Row 3 api_Seg.encS api_Seg.inK A00 a0] ++ Glob)) Tryz.func81 rfl rfl (Nat.le_of_ble_eq_true rfl) rfl hS ?_
  have hM := h
  clear h hS
  unfold gangwayref21_Of.f at hM
  refine WP.seq ?_
  refine WP.rh [] (fun b1 => [(4, .pointer (some ⟨b1, 0, none⟩)), (5, .bool false)]) (fun b1 => []) (fun b1 => [(b1, .cells #[.int .i64 0, .int .i64 0, .slice none 0 0] 93 (0, 0))]) (fun b1 => ?_)
  refine WP.seq ?_
  refine WP.seq ?_
  refine WP.rn [] [(6, .int .i64 0)] ?_
  refine WP.block ?_
  refine WP.sub [0, 1, 4, 5, 6] (L' := [(0, slcV A00 a0.length), (1, .int .i64 a1), (4, .pointer (some ⟨b1, 0, none⟩)), (5, .bool false), (6, .int .i64 0)]) (by kernel_rfl) ?_
  refine WP.lessF [0] (F' := [Row 3 api_Seg.encS api_Seg.inK A00 a0]) (by kernel_rfl) ?_
  refine WP.loop (σ := Bool × Int) (fun n st => gangwayref21_Of.l1 a0 a1 n st.1 st.2) r (fun st => [(0, slcV A00 a0.length), (1, .int .i64 a1), (4, .pointer (some ⟨b1, 0, none⟩)), (5, .bool st.1), (6, .int .i64 st.2)]) (fun st => Sat w Z [(b1, .cells #[.int .i64 0, .int .i64 0, .slice none 0 0] 93 (0, 0))] [] ([Row 3 api_Seg.encS api_Seg.inK A00 a0] ++ Glob)) (st := (false, 0)) (fun n st hM => ?_) hM
  rcases n with _ | n
  · exact nomatch (show (none : Option _) = some r from hM)
  obtain ⟨x2, x3⟩ := st
  replace hM : gangwayref21_Of.l1 a0 a1 (n + 1) x2 x3 = some r := hM
  rw [gangwayref21_Of.l1] at hM
  show WP _ _ _ _ _ [(0, slcV A00 a0.length), (1, .int .i64 a1), (4, .pointer (some ⟨b1, 0, none⟩)), (5, .bool x2), (6, .int .i64 x3)] (Sat w Z [(b1, .cells #[.int .i64 0, .int .i64 0, .slice none 0 0] 93 (0, 0))] [] ([Row 3 api_Seg.encS api_Seg.inK A00 a0] ++ Glob))
  refine WP.seq ?_
  refine WP.seq ?_
  refine WP.rn [] [(7, .int .i64 x3), (8, slcV A00 a0.length), (9, .int .i64 (a0.length : Int)), (10, .bool (decide (x3 < (a0.length : Int))))] ?_
  refine WP.cond (decide (x3 < (a0.length : Int))) rfl rfl (fun c4 => ?_) (fun c4 => ?_)
  · replace hM := cond_t hM c4
    refine WP.skip ?_
    refine WP.seq ?_
    refine WP.block ?_
    refine WP.seq ?_
    refine WP.region ?_
    refine WL.rn 2 [] [(13, slcV A00 a0.length), (14, .int .i64 x3)] ?_
    obtain ⟨t5, h6, hM⟩ := bind_some hM
    refine WL.valF (φ := Row 3 api_Seg.encS api_Seg.inK A00 a0) (fact_at 0 rfl) (fun w hR => run_indexRowF (A := A00) (xs := a0) (i := x3) (k := .i64) (e := 93) (m := 3) (by kernel_rfl) (by kernel_rfl) h6 (by kernel_rfl) (by kernel_rfl) hR) (by kernel_rfl) (by kernel_rfl) rfl ?_
    refine WL.valF (φ := Row 3 api_Seg.encS api_Seg.inK A00 a0) (fact_at 0 rfl) (fun w hR => run_fieldRowF (A := A00) (xs := a0) (i := x3) (n := Int.toNat x3 * 3 + 0) (n' := Int.toNat x3 * 3 + 0) h6 (by kernel_rfl) (fun _ _ => by kernel_rfl) hR) (by kernel_rfl) (by kernel_rfl) rfl ?_
    refine WL.valF (φ := Row 3 api_Seg.encS api_Seg.inK A00 a0) (fact_at 0 rfl) (fun w hR => run_loadRowF (A := A00) (xs := a0) (i := x3) (j := 0) (v := .int .i64 t5.Vid) h6 (fun _ => by kernel_rfl) (by kernel_rfl) (by kernel_rfl) hR) (by kernel_rfl) (by kernel_rfl) rfl ?_
    refine WL.rn 2 [] [(18, .int .i64 a1), (19, .bool (t5.Vid == a1))] ?_
    refine WP.done ?_
    refine WP.cond (t5.Vid == a1) rfl rfl (fun c7 => ?_) (fun c7 => ?_)
    · replace hM := cond_t hM c7
      refine WP.seq ?_
      refine WP.region ?_
      refine WL.rn 2 [] [(20, slcV A00 a0.length), (21, .int .i64 x3)] ?_
      obtain ⟨t8, h9, hM⟩ := bind_some hM
      refine WL.valF (φ := Row 3 api_Seg.encS api_Seg.inK A00 a0) (fact_at 0 rfl) (fun w hR => run_indexRowF (A := A00) (xs := a0) (i := x3) (k := .i64) (e := 93) (m := 3) (by kernel_rfl) (by kernel_rfl) h9 (by kernel_rfl) (by kernel_rfl) hR) (by kernel_rfl) (by kernel_rfl) rfl ?_
      refine WL.valF (φ := Row 3 api_Seg.encS api_Seg.inK A00 a0) (fact_at 0 rfl) (fun w hR => run_loadRowFA (A := A00) (xs := a0) (i := x3) (j := 0) (n := 3) (vs := [.int .i64 t8.Vid, .int .i64 t8.Vni, slcV (A00.s (Int.toNat x3)) t8.Peers.length]) h9 (fun _ => by kernel_rfl) (by kernel_rfl) (by kernel_rfl) (by kernel_rfl) rfl hR) (by kernel_rfl) (by kernel_rfl) rfl ?_
      refine WL.know (Row 1 (pl (encI .u32)) noK (A00.s (Int.toNat x3)) t8.Peers) [0] [Row 3 api_Seg.encS api_Seg.inK A00 a0] (by kernel_rfl) (fun w hψ => ((hψ _ (List.mem_singleton.2 rfl)).inner _ _ (getL_parts h9).2)) ?_
      refine WL.rh 2 [0, 0, 0] (fun _ => [(5, .bool true)]) (fun _ => [(0, 0, [.int .i64 t8.Vid, .int .i64 t8.Vni, slcV (A00.s (Int.toNat x3)) t8.Peers.length])]) (fun _ => []) (fun _ => ?_)
      refine WP.done ?_
      obtain rfl := Option.some.inj hM
      exact WP.ret [0, 0, 0] [b1, b1, b1] (.tuple #[.agg #[.int .i64 t8.Vid, .int .i64 t8.Vni, slcV (A00.s (Int.toNat x3)) t8.Peers.length], .bool true]) (by kernel_rfl) (fun w' hw => ⟨(A00.s (Int.toNat x3)), rfl, (hw.pick [] (by kernel_rfl)).less (sub_ret [0] [1] (by kernel_rfl) (by kernel_rfl))⟩)
    · replace hM := cond_f hM c7
      refine WP.skip ?_
      refine WP.leave ?_
      refine WP.rn [] [(6, .int .i64 (i64 (x3 + 1))), (11, .int .i64 x3), (12, .int .i64 (i64 (x3 + 1)))] ?_
      exact WP.again' [0, 1, 4, 5, 6] (x2, i64 (x3 + 1)) hM (by kernel_rfl) (fun _ h => (h.pick [0] (by kernel_rfl)).lessF [0] (by kernel_rfl))
  · replace hM := cond_f hM c4
    refine WP.exit rfl ?_
    refine WP.seq ?_
    refine WP.rn [0, 0, 0] [(5, .bool false)] ?_
    refine WP.know (Row 1 (pl (encI .u32)) noK (SkL.nil (fun _ => ())) ([] : List Int)) [] [] (by kernel_rfl) (fun w _ => RowP.empty (fun _ => rfl)) ?_
    obtain rfl := Option.some.inj hM
    exact WP.ret [0, 0, 0] [b1, b1, b1] (.tuple #[.agg #[.int .i64 0, .int .i64 0, slcV (SkL.nil (fun _ => ())) ([] : List Int).length], .bool false]) (by kernel_rfl) (fun w' hw => ⟨(SkL.nil (fun _ => ())), rfl, (hw.pick [] (by kernel_rfl)).less (sub_ret [0] [1] (by kernel_rfl) (by kernel_rfl))⟩)

end Go.Proofs.YtbbekdmndifkpaaGreatDoor

namespace Go.Proofs.YtbbekdmndifkpaaGreatDoor
open Go Eng
set_option linter.unusedVariables false
set_option linter.unusedSimpArgs false

/-! ### gangway/gangwayref28.Same: function 47 -/
def gangwayref28_Same.k1 (x28 : Bool) : Option (Bool) :=
  some x28

def gangwayref28_Same.f (k : Nat) (a0 : (List api_Gate)) (a1 : api_Event) (a2 : api_Event) : Option (Bool) :=
  (gangwayref28_Of.f k a0 a1).bind fun (r2, r3, r4) =>
  (gangwayref28_Of.f k a0 a2).bind fun (r7, r8, r9) =>
  bif ((!r4) || (!r9)) then
    some false
  else
    (getL a0.length a0 (i64 (a1.Gate - 1))).bind fun t13 =>
    (gangwayref21_Of.f k t13.Segs r2).bind fun (r15, r16) =>
    (getL a0.length a0 (i64 (a2.Gate - 1))).bind fun t20 =>
    (gangwayref21_Of.f k t20.Segs r7).bind fun (r22, r23) =>
    bif ((a1.Gate == a2.Gate) && (r2 == r7)) then
      gangwayref28_Same.k1 true
    else
      gangwayref28_Same.k1 ((r16 && r23) && (r15.Vni == r22.Vni))

set_option maxRecDepth 100000 in
theorem gangwayref28_Same_calls (k : Nat) (A00 : SkL ((SkL (SkL Unit)) × (SkL Unit) × (SkL (SkL Unit)) × (SkL Unit))) (a0 : (List api_Gate)) (a1 : api_Event) (a2 : api_Event) (r : Bool) (h : gangwayref28_Same.f k a0 a1 a2 = some r) : Pure Tryz.prog ([Row 21 api_Gate.encS api_Gate.inK A00 a0] ++ Glob) 47 #[slcV A00 a0.length, api_Event.v a1, api_Event.v a2] (.bool r) := by
  intro w Z hS
  refine calls_of (args := [slcV A00 a0.length, api_Event.v a1, api_Event.v a2]) (L := [(0, slcV A00 a0.length), (1, api_Event.v a1), (2, api_Event.v a2)]) (N := 84) (S := Sat w Z [] [] ([Row 21 api_Gate.encS api_Gate.inK A00 a0] ++ Glob)) Tryz.func47 rfl rfl (Nat.le_of_ble_eq_true rfl) rfl hS ?_
  have hM := h
  clear h hS
  unfold gangwayref28_Same.f at hM
  refine WP.seq ?_
  refine WP.rh [] (fun b1 => [(4, .pointer (some ⟨b1, 0, none⟩)), (5, .pointer (some ⟨(b1 + 1), 0, none⟩)), (6, .bool false)]) (fun b1 => []) (fun b1 => [(b1, api_Event.o a1), ((b1 + 1), api_Event.o a2)]) (fun b1 => ?_)
  refine WP.seq ?_
  refine WP.region ?_
  refine WL.rn 2 [0, 0, 0, 0] [(18, slcV A00 a0.length), (19, api_Event.v a1)] ?_
  obtain ⟨⟨r2, r3, r4⟩, h5, hM⟩ := bind_some hM
  dsimp only at hM
  refine WL.callP [] [] (gangwayref28_Of_calls k A00 a0 a1 _ h5) (sub_pick [0] (by kernel_rfl)) (by kernel_rfl) (by kernel_rfl) rfl ?_
  refine WL.rh 8 [2, 2, 2, 2, 2, 2, 2, 2] (fun b6 => [(7, .int .i64 r2), (9, .bool r4)]) (fun b6 => []) (fun b6 => [(b6, api_Frame.o r3)]) (fun b6 => ?_)
  refine WP.done ?_
  refine WP.kp [true, true, false] ?_
  refine WP.seq ?_
  refine WP.region ?_
  refine WL.rn 2 [1, 1, 1, 1] [(25, slcV A00 a0.length), (26, api_Event.v a2)] ?_
  obtain ⟨⟨r7, r8, r9⟩, h10, hM⟩ := bind_some hM
  dsimp only at hM
  refine WL.callP [] [] (gangwayref28_Of_calls k A00 a0 a2 _ h10) (sub_pick [0] (by kernel_rfl)) (by kernel_rfl) (by kernel_rfl) rfl ?_
  refine WL.rh 8 [2, 2, 2, 2, 2, 2, 2, 2] (fun b11 => [(10, .int .i64 r7), (12, .bool r9)]) (fun b11 => []) (fun b11 => [(b11, api_Frame.o r8)]) (fun b11 => ?_)
  refine WP.done ?_
  refine WP.kp [true, true, false] ?_
  refine WP.seq ?_
  refine WP.seq ?_
  refine WP.region ?_
  refine WL.rn 3 [] [(33, .bool (!r4))] ?_
  refine WL.bo 33 (!r4) 3 [] [] (fun b' => [(36, .bool (b' || (!r9)))]) ?_
  refine WP.done ?_
  refine WP.cond ((!r4) || (!r9)) rfl rfl (fun c12 => ?_) (fun c12 => ?_)
  · replace hM := cond_t hM c12
    refine WP.seq ?_
    refine WP.rn [] [(6, .bool false)] ?_
    obtain rfl := Option.some.inj hM
    exact WP.ret [] [] (.bool false) (by kernel_rfl) (fun w' hw => ⟨rfl, (hw.pick [] rfl).lessF [0] (by kernel_rfl)⟩)
  · replace hM := cond_f hM c12
    refine WP.skip ?_
    refine WP.seq ?_
    refine WP.region ?_
    refine WL.rn 4 [0] [(38, slcV A00 a0.length), (41, .int .i64 (i64 (a1.Gate - 1)))] ?_
    obtain ⟨t13, h14, hM⟩ := bind_some hM
    refine WL.valF (φ := Row 21 api_Gate.encS api_Gate.inK A00 a0) (fact_at 0 rfl) (fun w hR => run_indexRowF (A := A00) (xs := a0) (i := i64 (a1.Gate - 1)) (k := .i64) (e := 73) (m := 21) (by kernel_rfl) (by kernel_rfl) h14 (by kernel_rfl) (by kernel_rfl) hR) (by kernel_rfl) (by kernel_rfl) rfl ?_
    refine WL.valF (φ := Row 21 api_Gate.encS api_Gate.inK A00 a0) (fact_at 0 rfl) (fun w hR => run_fieldRowF (A := A00) (xs := a0) (i := i64 (a1.Gate - 1)) (n := Int.toNat (i64 (a1.Gate - 1)) * 21 + 0) (n' := Int.toNat (i64 (a1.Gate - 1)) * 21 + 17) h14 (by kernel_rfl) (fun _ _ => by kernel_rfl) hR) (by kernel_rfl) (by kernel_rfl) rfl ?_
    refine WL.valF (φ := Row 21 api_Gate.encS api_Gate.inK A00 a0) (fact_at 0 rfl) (fun w hR => run_loadRowF (A := A00) (xs := a0) (i := i64 (a1.Gate - 1)) (j := 17) (v := slcV ((A00.s (Int.toNat (i64 (a1.Gate - 1)))).2.2.1) t13.Segs.length) h14 (fun _ => by kernel_rfl) (by kernel_rfl) (by kernel_rfl) hR) (by kernel_rfl) (by kernel_rfl) rfl ?_
    refine WL.know (Row 3 api_Seg.encS api_Seg.inK ((A00.s (Int.toNat (i64 (a1.Gate - 1)))).2.2.1) t13.Segs) [0] [Row 21 api_Gate.encS api_Gate.inK A00 a0] (by kernel_rfl) (fun w hψ => ((hψ _ (List.mem_singleton.2 rfl)).inner _ _ (getL_parts h14).2).2.2.1) ?_
    refine WL.rn 1 [] [(45, .int .i64 r2)] ?_
    obtain ⟨⟨r15, r16⟩, h17, hM⟩ := bind_some hM
    dsimp only at hM
    refine WL.callX (F0 := [Row 3 api_Seg.encS api_Seg.inK ((A00.s (Int.toNat (i64 (a1.Gate - 1)))).2.2.1) t13.Segs]) [] [] [false, false] (fun _ => _) [0] (by kernel_rfl) (gangwayref21_Of_calls k ((A00.s (Int.toNat (i64 (a1.Gate - 1)))).2.2.1) t13.Segs r2 _ h17) rfl rfl (by kernel_rfl) (by kernel_rfl) (fun _ => rfl) (fun A18 => ?_)
    refine WL.rh 6 [2, 2, 2] (fun b19 => [(13, .pointer (some ⟨b19, 0, none⟩)), (14, .bool r16)]) (fun b19 => []) (fun b19 => [(b19, .cells #[.int .i64 r15.Vid, .int .i64 r15.Vni, slcV A18 r15.Peers.length] 93 (0, 0))]) (fun b19 => ?_)
    refine WP.done ?_
    refine WP.seq ?_
    refine WP.region ?_
    refine WL.rn 4 [1] [(50, slcV A00 a0.length), (53, .int .i64 (i64 (a2.Gate - 1)))] ?_
    obtain ⟨t20, h21, hM⟩ := bind_some hM
    refine WL.valF (φ := Row 21 api_Gate.encS api_Gate.inK A00 a0) (fact_at 2 rfl) (fun w hR => run_indexRowF (A := A00) (xs := a0) (i := i64 (a2.Gate - 1)) (k := .i64) (e := 73) (m := 21) (by kernel_rfl) (by kernel_rfl) h21 (by kernel_rfl) (by kernel_rfl) hR) (by kernel_rfl) (by kernel_rfl) rfl ?_
    refine WL.valF (φ := Row 21 api_Gate.encS api_Gate.inK A00 a0) (fact_at 2 rfl) (fun w hR => run_fieldRowF (A := A00) (xs := a0) (i := i64 (a2.Gate - 1)) (n := Int.toNat (i64 (a2.Gate - 1)) * 21 + 0) (n' := Int.toNat (i64 (a2.Gate - 1)) * 21 + 17) h21 (by kernel_rfl) (fun _ _ => by kernel_rfl) hR) (by kernel_rfl) (by kernel_rfl) rfl ?_
    refine WL.valF (φ := Row 21 api_Gate.encS api_Gate.inK A00 a0) (fact_at 2 rfl) (fun w hR => run_loadRowF (A := A00) (xs := a0) (i := i64 (a2.Gate - 1)) (j := 17) (v := slcV ((A00.s (Int.toNat (i64 (a2.Gate - 1)))).2.2.1) t20.Segs.length) h21 (fun _ => by kernel_rfl) (by kernel_rfl) (by kernel_rfl) hR) (by kernel_rfl) (by kernel_rfl) rfl ?_
    refine WL.know (Row 3 api_Seg.encS api_Seg.inK ((A00.s (Int.toNat (i64 (a2.Gate - 1)))).2.2.1) t20.Segs) [2] [Row 21 api_Gate.encS api_Gate.inK A00 a0] (by kernel_rfl) (fun w hψ => ((hψ _ (List.mem_singleton.2 rfl)).inner _ _ (getL_parts h21).2).2.2.1) ?_
    refine WL.rn 1 [] [(57, .int .i64 r7)] ?_
    obtain ⟨⟨r22, r23⟩, h24, hM⟩ := bind_some hM
    dsimp only at hM
    refine WL.callX (F0 := [Row 3 api_Seg.encS api_Seg.inK ((A00.s (Int.toNat (i64 (a2.Gate - 1)))).2.2.1) t20.Segs]) [] [] [false, false, false] (fun _ => _) [0] (by kernel_rfl) (gangwayref21_Of_calls k ((A00.s (Int.toNat (i64 (a2.Gate - 1)))).2.2.1) t20.Segs r7 _ h24) rfl rfl (by kernel_rfl) (by kernel_rfl) (fun _ => rfl) (fun A25 => ?_)
    refine WL.rh 6 [3, 3, 3] (fun b26 => [(15, .pointer (some ⟨b26, 0, none⟩)), (16, .bool r23)]) (fun b26 => []) (fun b26 => [(b26, .cells #[.int .i64 r22.Vid, .int .i64 r22.Vni, slcV A25 r22.Peers.length] 93 (0, 0))]) (fun b26 => ?_)
    refine WP.done ?_
    refine WP.seq ?_
    refine WP.region ?_
    refine WL.rn 6 [0, 1] [(66, .bool (a1.Gate == a2.Gate))] ?_
    refine WL.bo 66 (a1.Gate == a2.Gate) 4 [] [] (fun b' => [(70, .bool (b' && (r2 == r7)))]) ?_
    refine WL.rn 1 [] [(71, .bool ((a1.Gate == a2.Gate) && (r2 == r7)))] ?_
    refine WL.join (σ := Bool) 12 (fun st => gangwayref28_Same.k1 st = some r) (fun st => [(6, .bool false), (83, .bool st)]) (fun st => Sat w Z [] [] ([Row 1 (pl (encI .u32)) noK A25 r22.Peers, Row 3 api_Seg.encS api_Seg.inK ((A00.s (Int.toNat (i64 (a2.Gate - 1)))).2.2.1) t20.Segs, Row 1 (pl (encI .u32)) noK A18 r15.Peers, Row 3 api_Seg.encS api_Seg.inK ((A00.s (Int.toNat (i64 (a1.Gate - 1)))).2.2.1) t13.Segs, Row 21 api_Gate.encS api_Gate.inK A00 a0] ++ Glob)) (fun st hM => ?_) (fun K1 => ?_)
    ·
      obtain ⟨x28, rfl⟩ : ∃ y, y = st := ⟨st, rfl⟩
      replace hM : gangwayref28_Same.k1 x28 = some r := hM
      unfold gangwayref28_Same.k1 at hM
      show WL _ _ _ _ _ [(6, .bool false), (83, .bool x28)] (Sat w Z [] [] ([Row 1 (pl (encI .u32)) noK A25 r22.Peers, Row 3 api_Seg.encS api_Seg.inK ((A00.s (Int.toNat (i64 (a2.Gate - 1)))).2.2.1) t20.Segs, Row 1 (pl (encI .u32)) noK A18 r15.Peers, Row 3 api_Seg.encS api_Seg.inK ((A00.s (Int.toNat (i64 (a1.Gate - 1)))).2.2.1) t13.Segs, Row 21 api_Gate.encS api_Gate.inK A00 a0] ++ Glob))
      refine WL.rn 1 [] [(6, .bool x28)] ?_
      refine WP.done ?_
      obtain rfl := Option.some.inj hM
      exact WP.ret [] [] (.bool x28) (by kernel_rfl) (fun w' hw => ⟨rfl, (hw.pick [] rfl).lessF [4] (by kernel_rfl)⟩)
    ·
      refine WL.sp 71 ((a1.Gate == a2.Gate) && (r2 == r7)) (fun c27 => ?_) (fun c27 => ?_)
      · replace hM := cond_t hM c27
        refine WL.rn 12 [] [(83, .bool true)] ?_
        exact WL.sub [6, 83] (by kernel_rfl) (WL.pick [] (by kernel_rfl) (by kernel_rfl) (WL.lessF [0, 1, 2, 3, 4] (by kernel_rfl) (K1 true hM)))
      · replace hM := cond_f hM c27
        refine WL.rn 2 [] [(73, .bool r16)] ?_
        refine WL.bo 73 r16 2 [] [] (fun b' => [(75, .bool (b' && r23))]) ?_
        refine WL.rn 1 [] [(76, .bool (r16 && r23))] ?_
        refine WL.bo 76 (r16 && r23) 6 [2, 3] [] (fun b' => [(82, .bool (b' && (r15.Vni == r22.Vni)))]) ?_
        refine WL.rn 1 [] [(83, .bool ((r16 && r23) && (r15.Vni == r22.Vni)))] ?_
        exact WL.sub [6, 83] (by kernel_rfl) (WL.pick [] (by kernel_rfl) (by kernel_rfl) (WL.lessF [0, 1, 2, 3, 4] (by kernel_rfl) (K1 ((r16 && r23) && (r15.Vni == r22.Vni)) hM)))

end Go.Proofs.YtbbekdmndifkpaaGreatDoor

namespace Go.Proofs.YtbbekdmndifkpaaGreatDoor
open Go Eng
set_option linter.unusedVariables false
set_option linter.unusedSimpArgs false

/-! ### gangway/gangwayref28.carried: function 25 -/
def gangwayref28_carried.k1 (x8 : Bool) (x9 : Int) (rec_l4 : Bool → Int → Option (Bool)) (x41 : Bool) (x42 : Bool) : Option (Bool) :=
  bif x42 then
    some true
  else
    rec_l4 x8 (i64 (x9 + 1))

def gangwayref28_carried.k2 (x8 : Bool) (x9 : Int) (r4 : api_Frame) (r14 : api_Frame) (rec_l4 : Bool → Int → Option (Bool)) (x38 : Bool) (x39 : Bool) : Option (Bool) :=
  bif x39 then
    gangwayref28_carried.k1 x8 x9 rec_l4 true ((r4.Dst == r14.Dst) && ((r4.Src == r14.Src) && (((r4.Tag.Has == r14.Tag.Has) && ((r4.Tag.Pri == r14.Tag.Pri) && ((r4.Tag.Dei == r14.Tag.Dei) && ((r4.Tag.Vid == r14.Tag.Vid) && true)))) && ((r4.Type_ == r14.Type_) && ((r4.Body == r14.Body) && true)))))
  else
    gangwayref28_carried.k1 x8 x9 rec_l4 false false

def gangwayref28_carried.k3 (a1 : (List api_Event)) (x9 : Int) (a2 : Int) (k : Nat) (a0 : (List api_Gate)) (x8 : Bool) (r4 : api_Frame) (r14 : api_Frame) (rec_l4 : Bool → Int → Option (Bool)) (x27 : Bool) (x28 : Bool) : Option (Bool) :=
  (getL a1.length a1 x9).bind fun t29 =>
  bif (t29.In && x28) then
    (getL a1.length a1 x9).bind fun t32 =>
    (getL a1.length a1 a2).bind fun t34 =>
    (gangwayref28_Same.f k a0 t32 t34).bind fun r36 =>
    gangwayref28_carried.k2 x8 x9 r4 r14 rec_l4 true r36
  else
    gangwayref28_carried.k2 x8 x9 r4 r14 rec_l4 false false

def gangwayref28_carried.l4 (a2 : Int) (a1 : (List api_Event)) (k : Nat) (a0 : (List api_Gate)) (r4 : api_Frame) : Nat → Bool → Int → Option (Bool)
  | 0, _, _ => none
  | n + 1, x8, x9 =>
    bif decide (x9 < a2) then
      (getL a1.length a1 x9).bind fun t11 =>
      (gangwayref28_Of.f k a0 t11).bind fun (r13, r14, r15) =>
      (getL a1.length a1 x9).bind fun t18 =>
      (getL a1.length a1 a2).bind fun t20 =>
      bif (t18.Gate != t20.Gate) then
        gangwayref28_carried.k3 a1 x9 a2 k a0 x8 r4 r14 (gangwayref28_carried.l4 a2 a1 k a0 r4 n) true true
      else
        (getL a1.length a1 x9).bind fun t23 =>
        (getL a1.length a1 a2).bind fun t25 =>
        gangwayref28_carried.k3 a1 x9 a2 k a0 x8 r4 r14 (gangwayref28_carried.l4 a2 a1 k a0 r4 n) false (t23.Port != t25.Port)
    else
      some false

def gangwayref28_carried.f (k : Nat) (a0 : (List api_Gate)) (a1 : (List api_Event)) (a2 : Int) : Option (Bool) :=
  (getL a1.length a1 a2).bind fun t1 =>
  (gangwayref28_Of.f k a0 t1).bind fun (r3, r4, r5) =>
  gangwayref28_carried.l4 a2 a1 k a0 r4 k false 0

set_option maxRecDepth 100000 in
theorem gangwayref28_carried_calls (k : Nat) (A00 : SkL ((SkL (SkL Unit)) × (SkL Unit) × (SkL (SkL Unit)) × (SkL Unit))) (A01 : SkL Unit) (a0 : (List api_Gate)) (a1 : (List api_Event)) (a2 : Int) (r : Bool) (h : gangwayref28_carried.f k a0 a1 a2 = some r) : Pure Tryz.prog ([Row 21 api_Gate.encS api_Gate.inK A00 a0, Row 4 (pl api_Event.enc) noK A01 a1] ++ Glob) 25 #[slcV A00 a0.length, slcV A01 a1.length, .int .i64 a2] (.bool r) := by
  intro w Z hS
  refine calls_of (args := [slcV A00 a0.length, slcV A01 a1.length, .int .i64 a2]) (L := [(0, slcV A00 a0.length), (1, slcV A01 a1.length), (2, .int .i64 a2)]) (N := 89) (S := Sat w Z [] [] ([Row 21 api_Gate.encS api_Gate.inK A00 a0, Row 4 (pl api_Event.enc) noK A01 a1] ++ Glob)) Tryz.func25 rfl rfl (Nat.le_of_ble_eq_true rfl) rfl hS ?_
  have hM := h
  clear h hS
  unfold gangwayref28_carried.f at hM
  refine WP.seq ?_
  refine WP.rn [] [(6, .bool false)] ?_
  refine WP.seq ?_
  refine WP.region ?_
  refine WL.rn 3 [] [(16, slcV A00 a0.length), (17, slcV A01 a1.length), (18, .int .i64 a2)] ?_
  obtain ⟨t1, h2, hM⟩ := bind_some hM
  refine WL.valF (φ := Row 4 (pl api_Event.enc) noK A01 a1) (fact_at 1 rfl) (fun w hR => run_indexRowF (A := A01) (xs := a1) (i := a2) (k := .i64) (e := 28) (m := 4) (by kernel_rfl) (by kernel_rfl) h2 (by kernel_rfl) (by kernel_rfl) hR) (by kernel_rfl) (by kernel_rfl) rfl ?_
  refine WL.valF (φ := Row 4 (pl api_Event.enc) noK A01 a1) (fact_at 1 rfl) (fun w hR => run_loadRowFA (A := A01) (xs := a1) (i := a2) (j := 0) (n := 4) (vs := [.bool t1.In, .int .i64 t1.Gate, .int .i64 t1.Port, .string t1.S]) h2 (fun _ => by kernel_rfl) (by kernel_rfl) (by kernel_rfl) (by kernel_rfl) rfl hR) (by kernel_rfl) (by kernel_rfl) rfl ?_
  obtain ⟨⟨r3, r4, r5⟩, h6, hM⟩ := bind_some hM
  dsimp only at hM
  refine WL.callP [] [] (gangwayref28_Of_calls k A00 a0 t1 _ h6) (sub_pick [0] (by kernel_rfl)) (by kernel_rfl) (by kernel_rfl) rfl ?_
  refine WL.rh 8 [0, 0, 0, 0, 0, 0, 0, 0] (fun b7 => [(8, .pointer (some ⟨b7, 0, none⟩))]) (fun b7 => []) (fun b7 => [(b7, api_Frame.o r4)]) (fun b7 => ?_)
  refine WP.done ?_
  refine WP.seq ?_
  refine WP.seq ?_
  refine WP.rn [] [(10, .int .i64 0)] ?_
  refine WP.block ?_
  refine WP.sub [0, 1, 2, 6, 8, 10] (L' := [(0, slcV A00 a0.length), (1, slcV A01 a1.length), (2, .int .i64 a2), (6, .bool false), (8, .pointer (some ⟨b7, 0, none⟩)), (10, .int .i64 0)]) (by kernel_rfl) ?_
  refine WP.lessF [0, 1] (F' := [Row 21 api_Gate.encS api_Gate.inK A00 a0, Row 4 (pl api_Event.enc) noK A01 a1]) (by kernel_rfl) ?_
  refine WP.loop (σ := Bool × Int) (fun n st => gangwayref28_carried.l4 a2 a1 k a0 r4 n st.1 st.2) r (fun st => [(0, slcV A00 a0.length), (1, slcV A01 a1.length), (2, .int .i64 a2), (6, .bool st.1), (8, .pointer (some ⟨b7, 0, none⟩)), (10, .int .i64 st.2)]) (fun st => Sat w Z [(b7, api_Frame.o r4)] [] ([Row 21 api_Gate.encS api_Gate.inK A00 a0, Row 4 (pl api_Event.enc) noK A01 a1] ++ Glob)) (st := (false, 0)) (fun n st hM => ?_) hM
  rcases n with _ | n
  · exact nomatch (show (none : Option _) = some r from hM)
  obtain ⟨x8, x9⟩ := st
  replace hM : gangwayref28_carried.l4 a2 a1 k a0 r4 (n + 1) x8 x9 = some r := hM
  rw [gangwayref28_carried.l4] at hM
  show WP _ _ _ _ _ [(0, slcV A00 a0.length), (1, slcV A01 a1.length), (2, .int .i64 a2), (6, .bool x8), (8, .pointer (some ⟨b7, 0, none⟩)), (10, .int .i64 x9)] (Sat w Z [(b7, api_Frame.o r4)] [] ([Row 21 api_Gate.encS api_Gate.inK A00 a0, Row 4 (pl api_Event.enc) noK A01 a1] ++ Glob))
  refine WP.seq ?_
  refine WP.seq ?_
  refine WP.rn [] [(25, .int .i64 x9), (26, .int .i64 a2), (27, .bool (decide (x9 < a2)))] ?_
  refine WP.cond (decide (x9 < a2)) rfl rfl (fun c10 => ?_) (fun c10 => ?_)
  · replace hM := cond_t hM c10
    refine WP.skip ?_
    refine WP.seq ?_
    refine WP.block ?_
    refine WP.seq ?_
    refine WP.region ?_
    refine WL.rn 3 [] [(31, slcV A00 a0.length), (32, slcV A01 a1.length), (33, .int .i64 x9)] ?_
    obtain ⟨t11, h12, hM⟩ := bind_some hM
    refine WL.valF (φ := Row 4 (pl api_Event.enc) noK A01 a1) (fact_at 1 rfl) (fun w hR => run_indexRowF (A := A01) (xs := a1) (i := x9) (k := .i64) (e := 28) (m := 4) (by kernel_rfl) (by kernel_rfl) h12 (by kernel_rfl) (by kernel_rfl) hR) (by kernel_rfl) (by kernel_rfl) rfl ?_
    refine WL.valF (φ := Row 4 (pl api_Event.enc) noK A01 a1) (fact_at 1 rfl) (fun w hR => run_loadRowFA (A := A01) (xs := a1) (i := x9) (j := 0) (n := 4) (vs := [.bool t11.In, .int .i64 t11.Gate, .int .i64 t11.Port, .string t11.S]) h12 (fun _ => by kernel_rfl) (by kernel_rfl) (by kernel_rfl) (by kernel_rfl) rfl hR) (by kernel_rfl) (by kernel_rfl) rfl ?_
    obtain ⟨⟨r13, r14, r15⟩, h16, hM⟩ := bind_some hM
    dsimp only at hM
    refine WL.callP [] [] (gangwayref28_Of_calls k A00 a0 t11 _ h16) (sub_pick [0] (by kernel_rfl)) (by kernel_rfl) (by kernel_rfl) rfl ?_
    refine WL.rh 8 [1, 1, 1, 1, 1, 1, 1, 1] (fun b17 => [(12, .pointer (some ⟨b17, 0, none⟩)), (30, .tuple #[.int .i64 r13, api_Frame.v r14, .bool r15]), (37, .int .i64 r13), (38, api_Frame.v r14), (39, .bool r15)]) (fun b17 => []) (fun b17 => [(b17, api_Frame.o r14)]) (fun b17 => ?_)
    refine WP.done ?_
    refine WP.seq ?_
    refine WP.quiet (by kernel_rfl) (by kernel_rfl) ?_
    refine QL.rn 2 [] [(40, slcV A01 a1.length), (41, .int .i64 x9)] ?_
    obtain ⟨t18, h19, hM⟩ := bind_some hM
    refine QL.valF (φ := Row 4 (pl api_Event.enc) noK A01 a1) (fact_at 1 rfl) (fun w hR => run_indexRowF (A := A01) (xs := a1) (i := x9) (k := .i64) (e := 28) (m := 4) (by kernel_rfl) (by kernel_rfl) h19 (by kernel_rfl) (by kernel_rfl) hR) (by kernel_rfl) (by kernel_rfl) rfl ?_
    refine QL.valF (φ := Row 4 (pl api_Event.enc) noK A01 a1) (fact_at 1 rfl) (fun w hR => run_fieldRowF (A := A01) (xs := a1) (i := x9) (n := Int.toNat x9 * 4 + 0) (n' := Int.toNat x9 * 4 + 1) h19 (by kernel_rfl) (fun _ _ => by kernel_rfl) hR) (by kernel_rfl) (by kernel_rfl) rfl ?_
    refine QL.valF (φ := Row 4 (pl api_Event.enc) noK A01 a1) (fact_at 1 rfl) (fun w hR => run_loadRowF (A := A01) (xs := a1) (i := x9) (j := 1) (v := .int .i64 t18.Gate) h19 (fun _ => by kernel_rfl) (by kernel_rfl) (by kernel_rfl) hR) (by kernel_rfl) (by kernel_rfl) rfl ?_
    refine QL.rn 2 [] [(45, slcV A01 a1.length), (46, .int .i64 a2)] ?_
    obtain ⟨t20, h21, hM⟩ := bind_some hM
    refine QL.valF (φ := Row 4 (pl api_Event.enc) noK A01 a1) (fact_at 1 rfl) (fun w hR => run_indexRowF (A := A01) (xs := a1) (i := a2) (k := .i64) (e := 28) (m := 4) (by kernel_rfl) (by kernel_rfl) h21 (by kernel_rfl) (by kernel_rfl) hR) (by kernel_rfl) (by kernel_rfl) rfl ?_
    refine QL.valF (φ := Row 4 (pl api_Event.enc) noK A01 a1) (fact_at 1 rfl) (fun w hR => run_fieldRowF (A := A01) (xs := a1) (i := a2) (n := Int.toNat a2 * 4 + 0) (n' := Int.toNat a2 * 4 + 1) h21 (by kernel_rfl) (fun _ _ => by kernel_rfl) hR) (by kernel_rfl) (by kernel_rfl) rfl ?_
    refine QL.valF (φ := Row 4 (pl api_Event.enc) noK A01 a1) (fact_at 1 rfl) (fun w hR => run_loadRowF (A := A01) (xs := a1) (i := a2) (j := 1) (v := .int .i64 t20.Gate) h21 (fun _ => by kernel_rfl) (by kernel_rfl) (by kernel_rfl) hR) (by kernel_rfl) (by kernel_rfl) rfl ?_
    refine QL.rn 2 [] [(50, .bool (t18.Gate != t20.Gate)), (51, .bool (t18.Gate != t20.Gate))] ?_
    refine QL.join (σ := Bool × Bool) 12 (fun st => gangwayref28_carried.k3 a1 x9 a2 k a0 x8 r4 r14 (gangwayref28_carried.l4 a2 a1 k a0 r4 n) st.1 st.2 = some r) (fun st => [(0, slcV A00 a0.length), (1, slcV A01 a1.length), (2, .int .i64 a2), (6, .bool x8), (8, .pointer (some ⟨b7, 0, none⟩)), (10, .int .i64 x9), (12, .pointer (some ⟨b17, 0, none⟩)), (25, .int .i64 x9), (26, .int .i64 a2), (27, .bool (decide (x9 < a2))), (30, .tuple #[.int .i64 r13, api_Frame.v r14, .bool r15]), (31, slcV A00 a0.length), (32, slcV A01 a1.length), (33, .int .i64 x9), (34, ptrV A01 (Int.toNat x9 * 4)), (35, api_Event.v t11), (36, .tuple #[.int .i64 r13, api_Frame.v r14, .bool r15]), (37, .int .i64 r13), (38, api_Frame.v r14), (39, .bool r15), (40, slcV A01 a1.length), (41, .int .i64 x9), (42, ptrV A01 (Int.toNat x9 * 4)), (43, ptrV A01 (Int.toNat x9 * 4 + 1)), (44, .int .i64 t18.Gate), (45, slcV A01 a1.length), (46, .int .i64 a2), (47, ptrV A01 (Int.toNat a2 * 4)), (48, ptrV A01 (Int.toNat a2 * 4 + 1)), (49, .int .i64 t20.Gate), (50, .bool (t18.Gate != t20.Gate)), (51, .bool st.1), (63, .bool st.2)]) (fun st hM => ?_) (fun K3 => ?_)
    ·
      obtain ⟨x27, x28⟩ := st
      replace hM : gangwayref28_carried.k3 a1 x9 a2 k a0 x8 r4 r14 (gangwayref28_carried.l4 a2 a1 k a0 r4 n) x27 x28 = some r := hM
      unfold gangwayref28_carried.k3 at hM
      show QL _ _ _ _ _ _ [(0, slcV A00 a0.length), (1, slcV A01 a1.length), (2, .int .i64 a2), (6, .bool x8), (8, .pointer (some ⟨b7, 0, none⟩)), (10, .int .i64 x9), (12, .pointer (some ⟨b17, 0, none⟩)), (25, .int .i64 x9), (26, .int .i64 a2), (27, .bool (decide (x9 < a2))), (30, .tuple #[.int .i64 r13, api_Frame.v r14, .bool r15]), (31, slcV A00 a0.length), (32, slcV A01 a1.length), (33, .int .i64 x9), (34, ptrV A01 (Int.toNat x9 * 4)), (35, api_Event.v t11), (36, .tuple #[.int .i64 r13, api_Frame.v r14, .bool r15]), (37, .int .i64 r13), (38, api_Frame.v r14), (39, .bool r15), (40, slcV A01 a1.length), (41, .int .i64 x9), (42, ptrV A01 (Int.toNat x9 * 4)), (43, ptrV A01 (Int.toNat x9 * 4 + 1)), (44, .int .i64 t18.Gate), (45, slcV A01 a1.length), (46, .int .i64 a2), (47, ptrV A01 (Int.toNat a2 * 4)), (48, ptrV A01 (Int.toNat a2 * 4 + 1)), (49, .int .i64 t20.Gate), (50, .bool (t18.Gate != t20.Gate)), (51, .bool x27), (63, .bool x28)]
      refine QL.rn 1 [] [(14, .bool x28)] ?_
      refine QL.done ?_
      refine WP.seq ?_
      refine WP.quiet (by kernel_rfl) (by kernel_rfl) ?_
      refine QL.rn 2 [] [(64, slcV A01 a1.length), (65, .int .i64 x9)] ?_
      obtain ⟨t29, h30, hM⟩ := bind_some hM
      refine QL.valF (φ := Row 4 (pl api_Event.enc) noK A01 a1) (fact_at 1 rfl) (fun w hR => run_indexRowF (A := A01) (xs := a1) (i := x9) (k := .i64) (e := 28) (m := 4) (by kernel_rfl) (by kernel_rfl) h30 (by kernel_rfl) (by kernel_rfl) hR) (by kernel_rfl) (by kernel_rfl) rfl ?_
      refine QL.valF (φ := Row 4 (pl api_Event.enc) noK A01 a1) (fact_at 1 rfl) (fun w hR => run_fieldRowF (A := A01) (xs := a1) (i := x9) (n := Int.toNat x9 * 4 + 0) (n' := Int.toNat x9 * 4 + 0) h30 (by kernel_rfl) (fun _ _ => by kernel_rfl) hR) (by kernel_rfl) (by kernel_rfl) rfl ?_
      refine QL.valF (φ := Row 4 (pl api_Event.enc) noK A01 a1) (fact_at 1 rfl) (fun w hR => run_loadRowF (A := A01) (xs := a1) (i := x9) (j := 0) (v := .bool t29.In) h30 (fun _ => by kernel_rfl) (by kernel_rfl) (by kernel_rfl) hR) (by kernel_rfl) (by kernel_rfl) rfl ?_
      refine QL.rn 1 [] [(69, .bool t29.In)] ?_
      refine QL.bo 69 t29.In 2 [] [] (fun b' => [(71, .bool (b' && x28))]) ?_
      refine QL.rn 1 [] [(72, .bool (t29.In && x28))] ?_
      refine QL.join (σ := Bool × Bool) 11 (fun st => gangwayref28_carried.k2 x8 x9 r4 r14 (gangwayref28_carried.l4 a2 a1 k a0 r4 n) st.1 st.2 = some r) (fun st => [(0, slcV A00 a0.length), (1, slcV A01 a1.length), (2, .int .i64 a2), (6, .bool x8), (8, .pointer (some ⟨b7, 0, none⟩)), (10, .int .i64 x9), (12, .pointer (some ⟨b17, 0, none⟩)), (14, .bool x28), (25, .int .i64 x9), (26, .int .i64 a2), (27, .bool (decide (x9 < a2))), (30, .tuple #[.int .i64 r13, api_Frame.v r14, .bool r15]), (31, slcV A00 a0.length), (32, slcV A01 a1.length), (33, .int .i64 x9), (34, ptrV A01 (Int.toNat x9 * 4)), (35, api_Event.v t11), (36, .tuple #[.int .i64 r13, api_Frame.v r14, .bool r15]), (37, .int .i64 r13), (38, api_Frame.v r14), (39, .bool r15), (40, slcV A01 a1.length), (41, .int .i64 x9), (42, ptrV A01 (Int.toNat x9 * 4)), (43, ptrV A01 (Int.toNat x9 * 4 + 1)), (44, .int .i64 t18.Gate), (45, slcV A01 a1.length), (46, .int .i64 a2), (47, ptrV A01 (Int.toNat a2 * 4)), (48, ptrV A01 (Int.toNat a2 * 4 + 1)), (49, .int .i64 t20.Gate), (50, .bool (t18.Gate != t20.Gate)), (51, .bool x27), (63, .bool x28), (64, slcV A01 a1.length), (65, .int .i64 x9), (66, ptrV A01 (Int.toNat x9 * 4)), (67, ptrV A01 (Int.toNat x9 * 4)), (68, .bool t29.In), (69, .bool t29.In), (71, .bool (t29.In && x28)), (72, .bool st.1), (83, .bool st.2)]) (fun st hM => ?_) (fun K2 => ?_)
      ·
        obtain ⟨x38, x39⟩ := st
        replace hM : gangwayref28_carried.k2 x8 x9 r4 r14 (gangwayref28_carried.l4 a2 a1 k a0 r4 n) x38 x39 = some r := hM
        unfold gangwayref28_carried.k2 at hM
        show QL _ _ _ _ _ _ [(0, slcV A00 a0.length), (1, slcV A01 a1.length), (2, .int .i64 a2), (6, .bool x8), (8, .pointer (some ⟨b7, 0, none⟩)), (10, .int .i64 x9), (12, .pointer (some ⟨b17, 0, none⟩)), (14, .bool x28), (25, .int .i64 x9), (26, .int .i64 a2), (27, .bool (decide (x9 < a2))), (30, .tuple #[.int .i64 r13, api_Frame.v r14, .bool r15]), (31, slcV A00 a0.length), (32, slcV A01 a1.length), (33, .int .i64 x9), (34, ptrV A01 (Int.toNat x9 * 4)), (35, api_Event.v t11), (36, .tuple #[.int .i64 r13, api_Frame.v r14, .bool r15]), (37, .int .i64 r13), (38, api_Frame.v r14), (39, .bool r15), (40, slcV A01 a1.length), (41, .int .i64 x9), (42, ptrV A01 (Int.toNat x9 * 4)), (43, ptrV A01 (Int.toNat x9 * 4 + 1)), (44, .int .i64 t18.Gate), (45, slcV A01 a1.length), (46, .int .i64 a2), (47, ptrV A01 (Int.toNat a2 * 4)), (48, ptrV A01 (Int.toNat a2 * 4 + 1)), (49, .int .i64 t20.Gate), (50, .bool (t18.Gate != t20.Gate)), (51, .bool x27), (63, .bool x28), (64, slcV A01 a1.length), (65, .int .i64 x9), (66, ptrV A01 (Int.toNat x9 * 4)), (67, ptrV A01 (Int.toNat x9 * 4)), (68, .bool t29.In), (69, .bool t29.In), (71, .bool (t29.In && x28)), (72, .bool x38), (83, .bool x39)]
        refine QL.rn 1 [] [(84, .bool x39)] ?_
        refine QL.join (σ := Bool × Bool) 4 (fun st => gangwayref28_carried.k1 x8 x9 (gangwayref28_carried.l4 a2 a1 k a0 r4 n) st.1 st.2 = some r) (fun st => [(0, slcV A00 a0.length), (1, slcV A01 a1.length), (2, .int .i64 a2), (6, .bool x8), (8, .pointer (some ⟨b7, 0, none⟩)), (10, .int .i64 x9), (12, .pointer (some ⟨b17, 0, none⟩)), (14, .bool x28), (25, .int .i64 x9), (26, .int .i64 a2), (27, .bool (decide (x9 < a2))), (30, .tuple #[.int .i64 r13, api_Frame.v r14, .bool r15]), (31, slcV A00 a0.length), (32, slcV A01 a1.length), (33, .int .i64 x9), (34, ptrV A01 (Int.toNat x9 * 4)), (35, api_Event.v t11), (36, .tuple #[.int .i64 r13, api_Frame.v r14, .bool r15]), (37, .int .i64 r13), (38, api_Frame.v r14), (39, .bool r15), (40, slcV A01 a1.length), (41, .int .i64 x9), (42, ptrV A01 (Int.toNat x9 * 4)), (43, ptrV A01 (Int.toNat x9 * 4 + 1)), (44, .int .i64 t18.Gate), (45, slcV A01 a1.length), (46, .int .i64 a2), (47, ptrV A01 (Int.toNat a2 * 4)), (48, ptrV A01 (Int.toNat a2 * 4 + 1)), (49, .int .i64 t20.Gate), (50, .bool (t18.Gate != t20.Gate)), (51, .bool x27), (63, .bool x28), (64, slcV A01 a1.length), (65, .int .i64 x9), (66, ptrV A01 (Int.toNat x9 * 4)), (67, ptrV A01 (Int.toNat x9 * 4)), (68, .bool t29.In), (69, .bool t29.In), (71, .bool (t29.In && x28)), (72, .bool x38), (83, .bool x39), (84, .bool st.1), (88, .bool st.2)]) (fun st hM => ?_) (fun K1 => ?_)
        ·
          obtain ⟨x41, x42⟩ := st
          replace hM : gangwayref28_carried.k1 x8 x9 (gangwayref28_carried.l4 a2 a1 k a0 r4 n) x41 x42 = some r := hM
          unfold gangwayref28_carried.k1 at hM
          show QL _ _ _ _ _ _ [(0, slcV A00 a0.length), (1, slcV A01 a1.length), (2, .int .i64 a2), (6, .bool x8), (8, .pointer (some ⟨b7, 0, none⟩)), (10, .int .i64 x9), (12, .pointer (some ⟨b17, 0, none⟩)), (14, .bool x28), (25, .int .i64 x9), (26, .int .i64 a2), (27, .bool (decide (x9 < a2))), (30, .tuple #[.int .i64 r13, api_Frame.v r14, .bool r15]), (31, slcV A00 a0.length), (32, slcV A01 a1.length), (33, .int .i64 x9), (34, ptrV A01 (Int.toNat x9 * 4)), (35, api_Event.v t11), (36, .tuple #[.int .i64 r13, api_Frame.v r14, .bool r15]), (37, .int .i64 r13), (38, api_Frame.v r14), (39, .bool r15), (40, slcV A01 a1.length), (41, .int .i64 x9), (42, ptrV A01 (Int.toNat x9 * 4)), (43, ptrV A01 (Int.toNat x9 * 4 + 1)), (44, .int .i64 t18.Gate), (45, slcV A01 a1.length), (46, .int .i64 a2), (47, ptrV A01 (Int.toNat a2 * 4)), (48, ptrV A01 (Int.toNat a2 * 4 + 1)), (49, .int .i64 t20.Gate), (50, .bool (t18.Gate != t20.Gate)), (51, .bool x27), (63, .bool x28), (64, slcV A01 a1.length), (65, .int .i64 x9), (66, ptrV A01 (Int.toNat x9 * 4)), (67, ptrV A01 (Int.toNat x9 * 4)), (68, .bool t29.In), (69, .bool t29.In), (71, .bool (t29.In && x28)), (72, .bool x38), (83, .bool x39), (84, .bool x41), (88, .bool x42)]
          refine QL.done ?_
          refine WP.cond x42 rfl rfl (fun c43 => ?_) (fun c43 => ?_)
          · replace hM := cond_t hM c43
            refine WP.seq ?_
            refine WP.rn [] [(6, .bool true)] ?_
            obtain rfl := Option.some.inj hM
            exact WP.ret [] [] (.bool true) (by kernel_rfl) (fun w' hw => ⟨rfl, (hw.pick [] rfl).lessF [0, 1] (by kernel_rfl)⟩)
          · replace hM := cond_f hM c43
            refine WP.skip ?_
            refine WP.leave ?_
            refine WP.rn [] [(10, .int .i64 (i64 (x9 + 1))), (28, .int .i64 x9), (29, .int .i64 (i64 (x9 + 1)))] ?_
            exact WP.again' [0, 1, 2, 6, 8, 10] (x8, i64 (x9 + 1)) hM (by kernel_rfl) (fun _ h => (h.pick [0] (by kernel_rfl)).lessF [0, 1] (by kernel_rfl))
        ·
          refine QL.sp 84 x39 (fun c40 => ?_) (fun c40 => ?_)
          · replace hM := cond_t hM c40
            refine QL.rn 2 [0, 0, 0, 0, 0, 0, 0, 0, 1, 1, 1, 1, 1, 1, 1, 1] [(85, api_Frame.v r4), (86, api_Frame.v r14)] ?_
            refine QL.val (fun _ => run_structEq (xs := #[.int .u64 r4.Dst, .int .u64 r4.Src, .bool r4.Tag.Has, .int .i64 r4.Tag.Pri, .bool r4.Tag.Dei, .int .i64 r4.Tag.Vid, .int .i64 r4.Type_, .string r4.Body]) (ys := #[.int .u64 r14.Dst, .int .u64 r14.Src, .bool r14.Tag.Has, .int .i64 r14.Tag.Pri, .bool r14.Tag.Dei, .int .i64 r14.Tag.Vid, .int .i64 r14.Type_, .string r14.Body]) (b := ((r4.Dst == r14.Dst) && ((r4.Src == r14.Src) && (((r4.Tag.Has == r14.Tag.Has) && ((r4.Tag.Pri == r14.Tag.Pri) && ((r4.Tag.Dei == r14.Tag.Dei) && ((r4.Tag.Vid == r14.Tag.Vid) && true)))) && ((r4.Type_ == r14.Type_) && ((r4.Body == r14.Body) && true)))))) (by kernel_rfl) (by kernel_rfl) (by kernel_rfl) (by kernel_rfl)) (by kernel_rfl) (by kernel_rfl) rfl ?_
            refine QL.rn 1 [] [(88, .bool ((r4.Dst == r14.Dst) && ((r4.Src == r14.Src) && (((r4.Tag.Has == r14.Tag.Has) && ((r4.Tag.Pri == r14.Tag.Pri) && ((r4.Tag.Dei == r14.Tag.Dei) && ((r4.Tag.Vid == r14.Tag.Vid) && true)))) && ((r4.Type_ == r14.Type_) && ((r4.Body == r14.Body) && true))))))] ?_
            exact QL.sub [0, 1, 2, 6, 8, 10, 12, 14, 25, 26, 27, 30, 31, 32, 33, 34, 35, 36, 37, 38, 39, 40, 41, 42, 43, 44, 45, 46, 47, 48, 49, 50, 51, 63, 64, 65, 66, 67, 68, 69, 71, 72, 83, 84, 88] (by kernel_rfl) (K1 (true, ((r4.Dst == r14.Dst) && ((r4.Src == r14.Src) && (((r4.Tag.Has == r14.Tag.Has) && ((r4.Tag.Pri == r14.Tag.Pri) && ((r4.Tag.Dei == r14.Tag.Dei) && ((r4.Tag.Vid == r14.Tag.Vid) && true)))) && ((r4.Type_ == r14.Type_) && ((r4.Body == r14.Body) && true)))))) hM)
          · replace hM := cond_f hM c40
            refine QL.rn 4 [] [(85, .tuple #[]), (86, .tuple #[]), (87, .tuple #[]), (88, .bool false)] ?_
            exact QL.sub [0, 1, 2, 6, 8, 10, 12, 14, 25, 26, 27, 30, 31, 32, 33, 34, 35, 36, 37, 38, 39, 40, 41, 42, 43, 44, 45, 46, 47, 48, 49, 50, 51, 63, 64, 65, 66, 67, 68, 69, 71, 72, 83, 84, 88] (by kernel_rfl) (K1 (false, false) hM)
      ·
        refine QL.sp 72 (t29.In && x28) (fun c31 => ?_) (fun c31 => ?_)
        · replace hM := cond_t hM c31
          refine QL.rn 3 [] [(73, slcV A00 a0.length), (74, slcV A01 a1.length), (75, .int .i64 x9)] ?_
          obtain ⟨t32, h33, hM⟩ := bind_some hM
          refine QL.valF (φ := Row 4 (pl api_Event.enc) noK A01 a1) (fact_at 1 rfl) (fun w hR => run_indexRowF (A := A01) (xs := a1) (i := x9) (k := .i64) (e := 28) (m := 4) (by kernel_rfl) (by kernel_rfl) h33 (by kernel_rfl) (by kernel_rfl) hR) (by kernel_rfl) (by kernel_rfl) rfl ?_
          refine QL.valF (φ := Row 4 (pl api_Event.enc) noK A01 a1) (fact_at 1 rfl) (fun w hR => run_loadRowFA (A := A01) (xs := a1) (i := x9) (j := 0) (n := 4) (vs := [.bool t32.In, .int .i64 t32.Gate, .int .i64 t32.Port, .string t32.S]) h33 (fun _ => by kernel_rfl) (by kernel_rfl) (by kernel_rfl) (by kernel_rfl) rfl hR) (by kernel_rfl) (by kernel_rfl) rfl ?_
          refine QL.rn 2 [] [(78, slcV A01 a1.length), (79, .int .i64 a2)] ?_
          obtain ⟨t34, h35, hM⟩ := bind_some hM
          refine QL.valF (φ := Row 4 (pl api_Event.enc) noK A01 a1) (fact_at 1 rfl) (fun w hR => run_indexRowF (A := A01) (xs := a1) (i := a2) (k := .i64) (e := 28) (m := 4) (by kernel_rfl) (by kernel_rfl) h35 (by kernel_rfl) (by kernel_rfl) hR) (by kernel_rfl) (by kernel_rfl) rfl ?_
          refine QL.valF (φ := Row 4 (pl api_Event.enc) noK A01 a1) (fact_at 1 rfl) (fun w hR => run_loadRowFA (A := A01) (xs := a1) (i := a2) (j := 0) (n := 4) (vs := [.bool t34.In, .int .i64 t34.Gate, .int .i64 t34.Port, .string t34.S]) h35 (fun _ => by kernel_rfl) (by kernel_rfl) (by kernel_rfl) (by kernel_rfl) rfl hR) (by kernel_rfl) (by kernel_rfl) rfl ?_
          obtain ⟨r36, h37, hM⟩ := bind_some hM
          refine QL.callP [] [] (gangwayref28_Same_calls k A00 a0 t32 t34 _ h37) (sub_pick [0] (by kernel_rfl)) (by kernel_rfl) (by kernel_rfl) rfl ?_
          refine QL.rn 1 [] [(83, .bool r36)] ?_
          exact QL.sub [0, 1, 2, 6, 8, 10, 12, 14, 25, 26, 27, 30, 31, 32, 33, 34, 35, 36, 37, 38, 39, 40, 41, 42, 43, 44, 45, 46, 47, 48, 49, 50, 51, 63, 64, 65, 66, 67, 68, 69, 71, 72, 83] (by kernel_rfl) (K2 (true, r36) hM)
        · replace hM := cond_f hM c31
          refine QL.rn 11 [] [(73, .tuple #[]), (74, .tuple #[]), (75, .tuple #[]), (76, .tuple #[]), (77, .tuple #[]), (78, .tuple #[]), (79, .tuple #[]), (80, .tuple #[]), (81, .tuple #[]), (82, .tuple #[]), (83, .bool false)] ?_
          exact QL.sub [0, 1, 2, 6, 8, 10, 12, 14, 25, 26, 27, 30, 31, 32, 33, 34, 35, 36, 37, 38, 39, 40, 41, 42, 43, 44, 45, 46, 47, 48, 49, 50, 51, 63, 64, 65, 66, 67, 68, 69, 71, 72, 83] (by kernel_rfl) (K2 (false, false) hM)
    ·
      refine QL.sp 51 (t18.Gate != t20.Gate) (fun c22 => ?_) (fun c22 => ?_)
      · replace hM := cond_t hM c22
        refine QL.rn 12 [] [(52, .tuple #[]), (53, .tuple #[]), (54, .tuple #[]), (55, .tuple #[]), (56, .tuple #[]), (57, .tuple #[]), (58, .tuple #[]), (59, .tuple #[]), (60, .tuple #[]), (61, .tuple #[]), (62, .tuple #[]), (63, .bool true)] ?_
        exact QL.sub [0, 1, 2, 6, 8, 10, 12, 25, 26, 27, 30, 31, 32, 33, 34, 35, 36, 37, 38, 39, 40, 41, 42, 43, 44, 45, 46, 47, 48, 49, 50, 51, 63] (by kernel_rfl) (K3 (true, true) hM)
      · replace hM := cond_f hM c22
        refine QL.rn 2 [] [(52, slcV A01 a1.length), (53, .int .i64 x9)] ?_
        obtain ⟨t23, h24, hM⟩ := bind_some hM
        refine QL.valF (φ := Row 4 (pl api_Event.enc) noK A01 a1) (fact_at 1 rfl) (fun w hR => run_indexRowF (A := A01) (xs := a1) (i := x9) (k := .i64) (e := 28) (m := 4) (by kernel_rfl) (by kernel_rfl) h24 (by kernel_rfl) (by kernel_rfl) hR) (by kernel_rfl) (by kernel_rfl) rfl ?_
        refine QL.valF (φ := Row 4 (pl api_Event.enc) noK A01 a1) (fact_at 1 rfl) (fun w hR => run_fieldRowF (A := A01) (xs := a1) (i := x9) (n := Int.toNat x9 * 4 + 0) (n' := Int.toNat x9 * 4 + 2) h24 (by kernel_rfl) (fun _ _ => by kernel_rfl) hR) (by kernel_rfl) (by kernel_rfl) rfl ?_
        refine QL.valF (φ := Row 4 (pl api_Event.enc) noK A01 a1) (fact_at 1 rfl) (fun w hR => run_loadRowF (A := A01) (xs := a1) (i := x9) (j := 2) (v := .int .i64 t23.Port) h24 (fun _ => by kernel_rfl) (by kernel_rfl) (by kernel_rfl) hR) (by kernel_rfl) (by kernel_rfl) rfl ?_
        refine QL.rn 2 [] [(57, slcV A01 a1.length), (58, .int .i64 a2)] ?_
        obtain ⟨t25, h26, hM⟩ := bind_some hM
        refine QL.valF (φ := Row 4 (pl api_Event.enc) noK A01 a1) (fact_at 1 rfl) (fun w hR => run_indexRowF (A := A01) (xs := a1) (i := a2) (k := .i64) (e := 28) (m := 4) (by kernel_rfl) (by kernel_rfl) h26 (by kernel_rfl) (by kernel_rfl) hR) (by kernel_rfl) (by kernel_rfl) rfl ?_
        refine QL.valF (φ := Row 4 (pl api_Event.enc) noK A01 a1) (fact_at 1 rfl) (fun w hR => run_fieldRowF (A := A01) (xs := a1) (i := a2) (n := Int.toNat a2 * 4 + 0) (n' := Int.toNat a2 * 4 + 2) h26 (by kernel_rfl) (fun _ _ => by kernel_rfl) hR) (by kernel_rfl) (by kernel_rfl) rfl ?_
        refine QL.valF (φ := Row 4 (pl api_Event.enc) noK A01 a1) (fact_at 1 rfl) (fun w hR => run_loadRowF (A := A01) (xs := a1) (i := a2) (j := 2) (v := .int .i64 t25.Port) h26 (fun _ => by kernel_rfl) (by kernel_rfl) (by kernel_rfl) hR) (by kernel_rfl) (by kernel_rfl) rfl ?_
        refine QL.rn 2 [] [(62, .bool (t23.Port != t25.Port)), (63, .bool (t23.Port != t25.Port))] ?_
        exact QL.sub [0, 1, 2, 6, 8, 10, 12, 25, 26, 27, 30, 31, 32, 33, 34, 35, 36, 37, 38, 39, 40, 41, 42, 43, 44, 45, 46, 47, 48, 49, 50, 51, 63] (by kernel_rfl) (K3 (false, (t23.Port != t25.Port)) hM)
  · replace hM := cond_f hM c10
    refine WP.exit rfl ?_
    refine WP.seq ?_
    refine WP.rn [] [(6, .bool false)] ?_
    refine WP.kp [false] ?_
    obtain rfl := Option.some.inj hM
    exact WP.ret [] [] (.bool false) (by kernel_rfl) (fun w' hw => ⟨rfl, (hw.pick [] rfl).lessF [0, 1] (by kernel_rfl)⟩)

end Go.Proofs.YtbbekdmndifkpaaGreatDoor

namespace Go.Proofs.YtbbekdmndifkpaaGreatDoor
open Go Eng
set_option linter.unusedVariables false
set_option linter.unusedSimpArgs false

/-! ### gangway/gangwayref05.Check: function 83 -/
def gangwayref05_Check.k1 (a0 : api_Arp) (x5 : Bool) : Option (Int) :=
  bif (x5 || ((Int.fdiv a0.TMac 281474976710656) != 0)) then
    some 51
  else
    some 0

def gangwayref05_Check.f (a0 : api_Arp) : Option (Int) :=
  bif ((decide (a0.Op < 1)) || (decide (a0.Op > 2))) then
    gangwayref05_Check.k1 a0 true
  else
    (gangwayref02_Own.f a0.SMac).bind fun r3 =>
    gangwayref05_Check.k1 a0 (!r3)

set_option maxRecDepth 100000 in
theorem gangwayref05_Check_calls (a0 : api_Arp) (r : Int) (h : gangwayref05_Check.f a0 = some r) : Pure Tryz.prog Glob 83 #[api_Arp.v a0] (.int .i64 r) := by
  intro w Z hS
  refine calls_of (args := [api_Arp.v a0]) (L := [(0, api_Arp.v a0)]) (N := 23) (S := Sat w Z [] [] Glob) Tryz.func83 rfl rfl (Nat.le_of_ble_eq_true rfl) rfl hS ?_
  have hM := h
  clear h hS
  unfold gangwayref05_Check.f at hM
  refine WP.seq ?_
  refine WP.rh [] (fun b1 => [(1, .pointer (some ⟨b1, 0, none⟩)), (2, .int .i64 0)]) (fun b1 => []) (fun b1 => [(b1, api_Arp.o a0)]) (fun b1 => ?_)
  refine WP.seq ?_
  refine WP.seq ?_
  refine WP.region ?_
  refine WL.rn 4 [0] [(6, .bool (decide (a0.Op < 1)))] ?_
  refine WL.bo 6 (decide (a0.Op < 1)) 4 [] [0] (fun b' => [(10, .bool (b' || (decide (a0.Op > 2))))]) ?_
  refine WL.rn 1 [] [(11, .bool ((decide (a0.Op < 1)) || (decide (a0.Op > 2))))] ?_
  refine WL.join (σ := Bool) 5 (fun st => gangwayref05_Check.k1 a0 st = some r) (fun st => [(1, .pointer (some ⟨b1, 0, none⟩)), (2, .int .i64 0), (16, .bool st)]) (fun st => Sat w Z [(b1, api_Arp.o a0)] [] Glob) (fun st hM => ?_) (fun K1 => ?_)
  ·
    obtain ⟨x5, rfl⟩ : ∃ y, y = st := ⟨st, rfl⟩
    replace hM : gangwayref05_Check.k1 a0 x5 = some r := hM
    unfold gangwayref05_Check.k1 at hM
    show WL _ _ _ _ _ [(1, .pointer (some ⟨b1, 0, none⟩)), (2, .int .i64 0), (16, .bool x5)] (Sat w Z [(b1, api_Arp.o a0)] [] Glob)
    refine WL.rn 1 [] [(17, .bool x5)] ?_
    refine WL.bo 17 x5 5 [] [0] (fun b' => [(22, .bool (b' || ((Int.fdiv a0.TMac 281474976710656) != 0)))]) ?_
    refine WP.done ?_
    refine WP.kp [false] ?_
    refine WP.cond (x5 || ((Int.fdiv a0.TMac 281474976710656) != 0)) rfl rfl (fun c6 => ?_) (fun c6 => ?_)
    · replace hM := cond_t hM c6
      refine WP.seq ?_
      refine WP.rn [] [(2, .int .i64 51)] ?_
      obtain rfl := Option.some.inj hM
      exact WP.ret [] [] (.int .i64 51) (by kernel_rfl) (fun w' hw => ⟨rfl, hw.pick [] rfl⟩)
    · replace hM := cond_f hM c6
      refine WP.skip ?_
      refine WP.seq ?_
      refine WP.rn [] [(2, .int .i64 0)] ?_
      obtain rfl := Option.some.inj hM
      exact WP.ret [] [] (.int .i64 0) (by kernel_rfl) (fun w' hw => ⟨rfl, hw.pick [] rfl⟩)
  ·
    refine WL.sp 11 ((decide (a0.Op < 1)) || (decide (a0.Op > 2))) (fun c2 => ?_) (fun c2 => ?_)
    · replace hM := cond_t hM c2
      refine WL.rn 5 [] [(16, .bool true)] ?_
      exact WL.sub [1, 2, 16] (by kernel_rfl) (WL.pick [0] (by kernel_rfl) (by kernel_rfl) (K1 true hM))
    · replace hM := cond_f hM c2
      refine WL.rn 2 [0] [(13, .int .u64 a0.SMac)] ?_
      obtain ⟨r3, h4, hM⟩ := bind_some hM
      refine WL.callP [] [] (gangwayref02_Own_calls a0.SMac _ h4) (fun _ h => h) (by kernel_rfl) (by kernel_rfl) rfl ?_
      refine WL.rn 2 [] [(16, .bool (!r3))] ?_
      exact WL.sub [1, 2, 16] (by kernel_rfl) (WL.pick [0] (by kernel_rfl) (by kernel_rfl) (K1 (!r3) hM))

end Go.Proofs.YtbbekdmndifkpaaGreatDoor

namespace Go.Proofs.YtbbekdmndifkpaaGreatDoor
open Go Eng
set_option linter.unusedVariables false
set_option linter.unusedSimpArgs false

/-! ### gangway/gangwayref05.Parse: function 49 -/
def gangwayref05_Parse.k1 (r6 : Int) (r10 : Int) (r14 : Int) (r18 : Int) (r22 : Int) (x30 : Bool) : Option (api_Arp × Int) :=
  bif x30 then
    some ((api_Arp.mk 0 0 0 0 0), 51)
  else
    some ((api_Arp.mk (i64 r6) r10 (u32 r14) r18 (u32 r22)), 0)

def gangwayref05_Parse.f (k : Nat) (a0 : ByteArray) : Option (api_Arp × Int) :=
  bif decide ((a0.size : Int) < 28) then
    some ((api_Arp.mk 0 0 0 0 0), 50)
  else
    (sliceS a0 6 8).bind fun t4 =>
    (gangwayref01_Num.f k t4).bind fun r6 =>
    (sliceS a0 8 14).bind fun t8 =>
    (gangwayref01_Num.f k t8).bind fun r10 =>
    (sliceS a0 14 18).bind fun t12 =>
    (gangwayref01_Num.f k t12).bind fun r14 =>
    (sliceS a0 18 24).bind fun t16 =>
    (gangwayref01_Num.f k t16).bind fun r18 =>
    (sliceS a0 24 28).bind fun t20 =>
    (gangwayref01_Num.f k t20).bind fun r22 =>
    (sliceS a0 0 6).bind fun t25 =>
    bif !(t25.toList == (⟨#[0, 1, 8, 0, 6, 4]⟩ : ByteArray).toList) then
      gangwayref05_Parse.k1 r6 r10 r14 r18 r22 true
    else
      (gangwayref05_Check.f (api_Arp.mk (i64 r6) r10 (u32 r14) r18 (u32 r22))).bind fun r28 =>
      gangwayref05_Parse.k1 r6 r10 r14 r18 r22 (r28 != 0)

set_option maxRecDepth 100000 in
theorem gangwayref05_Parse_calls (k : Nat) (a0 : ByteArray) (r : api_Arp × Int) (h : gangwayref05_Parse.f k a0 = some r) : Pure Tryz.prog Glob 49 #[.string a0] (.tuple #[api_Arp.v r.1, .int .i64 r.2]) := by
  intro w Z hS
  refine calls_of (args := [.string a0]) (L := [(0, .string a0)]) (N := 38) (S := Sat w Z [] [] Glob) Tryz.func49 rfl rfl (Nat.le_of_ble_eq_true rfl) rfl hS ?_
  have hM := h
  clear h hS
  unfold gangwayref05_Parse.f at hM
  refine WP.seq ?_
  refine WP.rh [] (fun b1 => [(2, .pointer (some ⟨b1, 0, none⟩)), (3, .int .i64 0)]) (fun b1 => []) (fun b1 => [(b1, .cells #[.int .i64 0, .int .u64 0, .int .u32 0, .int .u64 0, .int .u32 0] 51 (0, 0))]) (fun b1 => ?_)
  refine WP.seq ?_
  refine WP.seq ?_
  refine WP.rn [] [(7, .bool (decide ((a0.size : Int) < 28)))] ?_
  refine WP.cond (decide ((a0.size : Int) < 28)) rfl rfl (fun c2 => ?_) (fun c2 => ?_)
  · replace hM := cond_t hM c2
    refine WP.seq ?_
    refine WP.rn [0, 0, 0, 0, 0] [(3, .int .i64 50)] ?_
    obtain rfl := Option.some.inj hM
    exact WP.ret [0, 0, 0, 0, 0] [b1, b1, b1, b1, b1] (.tuple #[.agg #[.int .i64 0, .int .u64 0, .int .u32 0, .int .u64 0, .int .u32 0], .int .i64 50]) (by kernel_rfl) (fun w' hw => ⟨rfl, hw.pick [] rfl⟩)
  · replace hM := cond_f hM c2
    refine WP.skip ?_
    refine WP.seq ?_
    obtain ⟨t4, h5, hM⟩ := bind_some hM
    obtain ⟨r6, h7, hM⟩ := bind_some hM
    obtain ⟨t8, h9, hM⟩ := bind_some hM
    obtain ⟨r10, h11, hM⟩ := bind_some hM
    obtain ⟨t12, h13, hM⟩ := bind_some hM
    obtain ⟨r14, h15, hM⟩ := bind_some hM
    obtain ⟨t16, h17, hM⟩ := bind_some hM
    obtain ⟨r18, h19, hM⟩ := bind_some hM
    obtain ⟨t20, h21, hM⟩ := bind_some hM
    obtain ⟨r22, h23, hM⟩ := bind_some hM
    refine WP.sub [0, 2, 3] (L' := [(0, .string a0), (2, .pointer (some ⟨b1, 0, none⟩)), (3, .int .i64 0)]) (by kernel_rfl) ?_
    refine WP.mixed (X := Unit) 20 [.val (.string a0), .val (.string t4), .val (.int .u64 r6), .val (.int .i64 (i64 r6)), .val (.string a0), .val (.string t8), .val (.int .u64 r10), .val (.string a0), .val (.string t12), .val (.int .u64 r14), .val (.int .u32 (u32 r14)), .val (.string a0), .val (.string t16), .val (.int .u64 r18), .val (.string a0), .val (.string t20), .val (.int .u64 r22), .val (.int .u32 (u32 r22)), .val (.agg #[.int .i64 (i64 r6), .int .u64 r10, .int .u32 (u32 r14), .int .u64 r18, .int .u32 (u32 r22)]), .alloc (.cells #[.int .i64 0, .int .u64 0, .int .u32 0, .int .u64 0, .int .u32 0] 51 (0, 0)) (fun b => .pointer (some ⟨b, 0, none⟩))] [(b1, .cells #[.int .i64 0, .int .u64 0, .int .u32 0, .int .u64 0, .int .u32 0] 51 (0, 0))] [] (by kernel_rfl) (by kernel_rfl) (by kernel_rfl) (by kernel_rfl) (Heads.val (fun tt Ψ => OpV.run [] [] (by kernel_rfl) (fun _ => by kernel_rfl)) (Heads.val (fun tt Ψ => OpV.val (fun _ => run_sliceS (s := a0) (kl := .i64) (kh := .i64) (l := 6) (h := 8) (by kernel_rfl) (by kernel_rfl) (by kernel_rfl) (by kernel_rfl) h5) (by kernel_rfl)) (Heads.val (fun tt Ψ => OpV.callF [] [] (fun _ h => (List.mem_append_right _ h)) (gangwayref01_Num_calls k t4 _ h7)  (fun _ => by kernel_rfl)) (Heads.val (fun tt Ψ => OpV.run [] [] (by kernel_rfl) (fun _ => by kernel_rfl)) (Heads.val (fun tt Ψ => OpV.run [] [] (by kernel_rfl) (fun _ => by kernel_rfl)) (Heads.val (fun tt Ψ => OpV.val (fun _ => run_sliceS (s := a0) (kl := .i64) (kh := .i64) (l := 8) (h := 14) (by kernel_rfl) (by kernel_rfl) (by kernel_rfl) (by kernel_rfl) h9) (by kernel_rfl)) (Heads.val (fun tt Ψ => OpV.callF [] [] (fun _ h => (List.mem_append_right _ h)) (gangwayref01_Num_calls k t8 _ h11)  (fun _ => by kernel_rfl)) (Heads.val (fun tt Ψ => OpV.run [] [] (by kernel_rfl) (fun _ => by kernel_rfl)) (Heads.val (fun tt Ψ => OpV.val (fun _ => run_sliceS (s := a0) (kl := .i64) (kh := .i64) (l := 14) (h := 18) (by kernel_rfl) (by kernel_rfl) (by kernel_rfl) (by kernel_rfl) h13) (by kernel_rfl)) (Heads.val (fun tt Ψ => OpV.callF [] [] (fun _ h => (List.mem_append_right _ h)) (gangwayref01_Num_calls k t12 _ h15)  (fun _ => by kernel_rfl)) (Heads.val (fun tt Ψ => OpV.run [] [] (by kernel_rfl) (fun _ => by kernel_rfl)) (Heads.val (fun tt Ψ => OpV.run [] [] (by kernel_rfl) (fun _ => by kernel_rfl)) (Heads.val (fun tt Ψ => OpV.val (fun _ => run_sliceS (s := a0) (kl := .i64) (kh := .i64) (l := 18) (h := 24) (by kernel_rfl) (by kernel_rfl) (by kernel_rfl) (by kernel_rfl) h17) (by kernel_rfl)) (Heads.val (fun tt Ψ => OpV.callF [] [] (fun _ h => (List.mem_append_right _ h)) (gangwayref01_Num_calls k t16 _ h19)  (fun _ => by kernel_rfl)) (Heads.val (fun tt Ψ => OpV.run [] [] (by kernel_rfl) (fun _ => by kernel_rfl)) (Heads.val (fun tt Ψ => OpV.val (fun _ => run_sliceS (s := a0) (kl := .i64) (kh := .i64) (l := 24) (h := 28) (by kernel_rfl) (by kernel_rfl) (by kernel_rfl) (by kernel_rfl) h21) (by kernel_rfl)) (Heads.val (fun tt Ψ => OpV.callF [] [] (fun _ h => (List.mem_append_right _ h)) (gangwayref01_Num_calls k t20 _ h23)  (fun _ => by kernel_rfl)) (Heads.val (fun tt Ψ => OpV.run [] [] (by kernel_rfl) (fun _ => by kernel_rfl)) (Heads.val (fun tt Ψ => OpV.run [] [] (by kernel_rfl) (fun _ => by kernel_rfl)) (Heads.alloc (fun _ => by kernel_rfl) (fun _ _ => by kernel_rfl) Heads.nil)))))))))))))))))))) (fun s3 tt => [(9, .string a0), (10, .string t4), (11, .int .u64 r6), (12, .int .i64 (i64 r6)), (13, .string a0), (14, .string t8), (15, .int .u64 r10), (16, .string a0), (17, .string t12), (18, .int .u64 r14), (19, .int .u32 (u32 r14)), (20, .string a0), (21, .string t16), (22, .int .u64 r18), (23, .string a0), (24, .string t20), (25, .int .u64 r22), (26, .int .u32 (u32 r22)), (27, .agg #[.int .i64 (i64 r6), .int .u64 r10, .int .u32 (u32 r14), .int .u64 r18, .int .u32 (u32 r22)]), (4, .pointer (some ⟨(s3 19), 0, none⟩)), (0, .string a0), (2, .pointer (some ⟨b1, 0, none⟩)), (3, .int .i64 0)]) (fun s3 tt => [(b1, .cells #[.int .i64 0, .int .u64 0, .int .u32 0, .int .u64 0, .int .u32 0] 51 (0, 0)), ((s3 19), .cells #[.int .i64 0, .int .u64 0, .int .u32 0, .int .u64 0, .int .u32 0] 51 (0, 0))]) (fun tt => Glob) (fun _ _ => by kernel_rfl) (fun _ _ => by kernel_rfl) (fun _ => by kernel_rfl) (fun s3 tt => ?_)
    generalize s3 19 = b24
    refine WL.rh 1 [1, 1, 1, 1, 1] (fun _ => []) (fun _ => [(1, 0, [.int .i64 (i64 r6), .int .u64 r10, .int .u32 (u32 r14), .int .u64 r18, .int .u32 (u32 r22)])]) (fun _ => []) (fun _ => ?_)
    refine WP.done ?_
    refine WP.seq ?_
    refine WP.seq ?_
    refine WP.region ?_
    refine WL.rn 1 [] [(28, .string a0)] ?_
    obtain ⟨t25, h26, hM⟩ := bind_some hM
    refine WL.val (fun _ => run_sliceS_hi (s := a0) (kh := .i64) (h := 6) (by kernel_rfl) (by kernel_rfl) (by kernel_rfl) h26) (by kernel_rfl) (by kernel_rfl) rfl ?_
    refine WL.rn 2 [] [(31, .bool (!(t25.toList == (⟨#[0, 1, 8, 0, 6, 4]⟩ : ByteArray).toList)))] ?_
    refine WL.join (σ := Bool) 4 (fun st => gangwayref05_Parse.k1 r6 r10 r14 r18 r22 st = some r) (fun st => [(2, .pointer (some ⟨b1, 0, none⟩)), (3, .int .i64 0), (4, .pointer (some ⟨b24, 0, none⟩)), (35, .bool st)]) (fun st => Sat w Z [(b1, .cells #[.int .i64 0, .int .u64 0, .int .u32 0, .int .u64 0, .int .u32 0] 51 (0, 0)), (b24, .cells #[.int .i64 (i64 r6), .int .u64 r10, .int .u32 (u32 r14), .int .u64 r18, .int .u32 (u32 r22)] 51 (0, 0))] [] Glob) (fun st hM => ?_) (fun K1 => ?_)
    ·
      obtain ⟨x30, rfl⟩ : ∃ y, y = st := ⟨st, rfl⟩
      replace hM : gangwayref05_Parse.k1 r6 r10 r14 r18 r22 x30 = some r := hM
      unfold gangwayref05_Parse.k1 at hM
      show WL _ _ _ _ _ [(2, .pointer (some ⟨b1, 0, none⟩)), (3, .int .i64 0), (4, .pointer (some ⟨b24, 0, none⟩)), (35, .bool x30)] (Sat w Z [(b1, .cells #[.int .i64 0, .int .u64 0, .int .u32 0, .int .u64 0, .int .u32 0] 51 (0, 0)), (b24, .cells #[.int .i64 (i64 r6), .int .u64 r10, .int .u32 (u32 r14), .int .u64 r18, .int .u32 (u32 r22)] 51 (0, 0))] [] Glob)
      refine WP.done ?_
      refine WP.cond x30 rfl rfl (fun c31 => ?_) (fun c31 => ?_)
      · replace hM := cond_t hM c31
        refine WP.seq ?_
        refine WP.rn [0, 0, 0, 0, 0] [(3, .int .i64 51)] ?_
        obtain rfl := Option.some.inj hM
        exact WP.ret [0, 0, 0, 0, 0] [b1, b1, b1, b1, b1] (.tuple #[.agg #[.int .i64 0, .int .u64 0, .int .u32 0, .int .u64 0, .int .u32 0], .int .i64 51]) (by kernel_rfl) (fun w' hw => ⟨rfl, hw.pick [] rfl⟩)
      · replace hM := cond_f hM c31
        refine WP.skip ?_
        refine WP.seq ?_
        refine WP.rh [1, 1, 1, 1, 1, 0, 0, 0, 0, 0] (fun _ => [(3, .int .i64 0)]) (fun _ => [(0, 0, [.int .i64 (i64 r6), .int .u64 r10, .int .u32 (u32 r14), .int .u64 r18, .int .u32 (u32 r22)])]) (fun _ => []) (fun _ => ?_)
        refine WP.kp [true, false] ?_
        obtain rfl := Option.some.inj hM
        exact WP.ret [0, 0, 0, 0, 0] [b1, b1, b1, b1, b1] (.tuple #[.agg #[.int .i64 (i64 r6), .int .u64 r10, .int .u32 (u32 r14), .int .u64 r18, .int .u32 (u32 r22)], .int .i64 0]) (by kernel_rfl) (fun w' hw => ⟨rfl, hw.pick [] rfl⟩)
    ·
      refine WL.sp 31 (!(t25.toList == (⟨#[0, 1, 8, 0, 6, 4]⟩ : ByteArray).toList)) (fun c27 => ?_) (fun c27 => ?_)
      · replace hM := cond_t hM c27
        refine WL.rn 4 [] [(35, .bool true)] ?_
        exact WL.sub [2, 3, 4, 35] (by kernel_rfl) (WL.pick [0, 1] (by kernel_rfl) (by kernel_rfl) (K1 true hM))
      · replace hM := cond_f hM c27
        refine WL.rn 1 [1, 1, 1, 1, 1] [(32, .agg #[.int .i64 (i64 r6), .int .u64 r10, .int .u32 (u32 r14), .int .u64 r18, .int .u32 (u32 r22)])] ?_
        obtain ⟨r28, h29, hM⟩ := bind_some hM
        refine WL.callP [] [] (gangwayref05_Check_calls (api_Arp.mk (i64 r6) r10 (u32 r14) r18 (u32 r22)) _ h29) (fun _ h => h) (by kernel_rfl) (by kernel_rfl) rfl ?_
        refine WL.rn 2 [] [(35, .bool (r28 != 0))] ?_
        exact WL.sub [2, 3, 4, 35] (by kernel_rfl) (WL.pick [0, 1] (by kernel_rfl) (by kernel_rfl) (K1 (r28 != 0) hM))

end Go.Proofs.YtbbekdmndifkpaaGreatDoor

namespace Go.Proofs.YtbbekdmndifkpaaGreatDoor
open Go Eng
set_option linter.unusedVariables false
set_option linter.unusedSimpArgs false

/-! ### gangway/gangwayref05.Of: function 27 -/
def gangwayref05_Of.f (k : Nat) (a0 : api_Frame) : Option (api_Arp × Bool) :=
  (gangwayref05_Parse.f k a0.Body).bind fun (r2, r3) =>
  bif ((a0.Type_ != 2054) || (r3 != 0)) then
    some ((api_Arp.mk 0 0 0 0 0), false)
  else
    some (r2, true)

set_option maxRecDepth 100000 in
theorem gangwayref05_Of_calls (k : Nat) (a0 : api_Frame) (r : api_Arp × Bool) (h : gangwayref05_Of.f k a0 = some r) : Pure Tryz.prog Glob 27 #[api_Frame.v a0] (.tuple #[api_Arp.v r.1, .bool r.2]) := by
  intro w Z hS
  refine calls_of (args := [api_Frame.v a0]) (L := [(0, api_Frame.v a0)]) (N := 21) (S := Sat w Z [] [] Glob) Tryz.func27 rfl rfl (Nat.le_of_ble_eq_true rfl) rfl hS ?_
  have hM := h
  clear h hS
  unfold gangwayref05_Of.f at hM
  refine WP.seq ?_
  refine WP.rh [] (fun b1 => [(1, .pointer (some ⟨b1, 0, none⟩)), (2, .pointer (some ⟨(b1 + 1), 0, none⟩)), (3, .bool false)]) (fun b1 => []) (fun b1 => [(b1, api_Frame.o a0), ((b1 + 1), .cells #[.int .i64 0, .int .u64 0, .int .u32 0, .int .u64 0, .int .u32 0] 51 (0, 0))]) (fun b1 => ?_)
  refine WP.seq ?_
  refine WP.region ?_
  refine WL.rn 2 [0] [(8, .string a0.Body)] ?_
  obtain ⟨⟨r2, r3⟩, h4, hM⟩ := bind_some hM
  dsimp only at hM
  refine WL.callP [] [] (gangwayref05_Parse_calls k a0.Body _ h4) (fun _ h => h) (by kernel_rfl) (by kernel_rfl) rfl ?_
  refine WL.rh 6 [2, 2, 2, 2, 2] (fun b5 => [(4, .pointer (some ⟨b5, 0, none⟩)), (5, .int .i64 r3)]) (fun b5 => []) (fun b5 => [(b5, api_Arp.o r2)]) (fun b5 => ?_)
  refine WP.done ?_
  refine WP.seq ?_
  refine WP.seq ?_
  refine WP.region ?_
  refine WL.rn 4 [0] [(15, .bool (a0.Type_ != 2054))] ?_
  refine WL.bo 15 (a0.Type_ != 2054) 3 [] [] (fun b' => [(18, .bool (b' || (r3 != 0)))]) ?_
  refine WP.done ?_
  refine WP.kp [false, true, true] ?_
  refine WP.cond ((a0.Type_ != 2054) || (r3 != 0)) rfl rfl (fun c6 => ?_) (fun c6 => ?_)
  · replace hM := cond_t hM c6
    refine WP.seq ?_
    refine WP.rn [0, 0, 0, 0, 0] [(3, .bool false)] ?_
    obtain rfl := Option.some.inj hM
    exact WP.ret [0, 0, 0, 0, 0] [(b1 + 1), (b1 + 1), (b1 + 1), (b1 + 1), (b1 + 1)] (.tuple #[.agg #[.int .i64 0, .int .u64 0, .int .u32 0, .int .u64 0, .int .u32 0], .bool false]) (by kernel_rfl) (fun w' hw => ⟨rfl, hw.pick [] rfl⟩)
  · replace hM := cond_f hM c6
    refine WP.skip ?_
    refine WP.seq ?_
    refine WP.rh [1, 1, 1, 1, 1, 0, 0, 0, 0, 0] (fun _ => [(3, .bool true)]) (fun _ => [(0, 0, [.int .i64 r2.Op, .int .u64 r2.SMac, .int .u32 r2.SIp, .int .u64 r2.TMac, .int .u32 r2.TIp])]) (fun _ => []) (fun _ => ?_)
    refine WP.kp [true, false] ?_
    obtain rfl := Option.some.inj hM
    exact WP.ret [0, 0, 0, 0, 0] [(b1 + 1), (b1 + 1), (b1 + 1), (b1 + 1), (b1 + 1)] (.tuple #[api_Arp.v r2, .bool true]) (by kernel_rfl) (fun w' hw => ⟨rfl, hw.pick [] rfl⟩)

end Go.Proofs.YtbbekdmndifkpaaGreatDoor

namespace Go.Proofs.YtbbekdmndifkpaaGreatDoor
open Go Eng
set_option linter.unusedVariables false
set_option linter.unusedSimpArgs false

/-! ### gangway/gangwayref28.asked: function 28 -/
def gangwayref28_asked.l1 (a2 : Int) (a1 : (List api_Event)) (k : Nat) (a0 : (List api_Gate)) (t2 : api_Event) (r5 : Int) (a3 : api_Arp) : Nat → Bool → Int → Option (Bool)
  | 0, _, _ => none
  | n + 1, x10, x11 =>
    bif decide (x11 < a2) then
      (getL a1.length a1 x11).bind fun t13 =>
      (gangwayref28_Of.f k a0 t13).bind fun (r16, r17, r18) =>
      (gangwayref05_Of.f k r17).bind fun (r21, r22) =>
      bif ((((((((((t13.In && r18) && r22) && (t13.Gate == t2.Gate)) && (t13.Port == t2.Port)) && (r5 == r16)) && (r21.Op == 1)) && (r17.Dst == 281474976710655)) && (r21.SMac == a3.TMac)) && (r21.SIp == a3.TIp)) && (r21.TIp == a3.SIp)) then
        some true
      else
        gangwayref28_asked.l1 a2 a1 k a0 t2 r5 a3 n x10 (i64 (x11 + 1))
    else
      some false

def gangwayref28_asked.f (k : Nat) (a0 : (List api_Gate)) (a1 : (List api_Event)) (a2 : Int) (a3 : api_Arp) : Option (Bool) :=
  (getL a1.length a1 a2).bind fun t2 =>
  (gangwayref28_Of.f k a0 t2).bind fun (r5, r6, r7) =>
  gangwayref28_asked.l1 a2 a1 k a0 t2 r5 a3 k false 0

set_option maxRecDepth 100000 in
theorem gangwayref28_asked_calls (k : Nat) (A00 : SkL ((SkL (SkL Unit)) × (SkL Unit) × (SkL (SkL Unit)) × (SkL Unit))) (A01 : SkL Unit) (a0 : (List api_Gate)) (a1 : (List api_Event)) (a2 : Int) (a3 : api_Arp) (r : Bool) (h : gangwayref28_asked.f k a0 a1 a2 a3 = some r) : Pure Tryz.prog ([Row 21 api_Gate.encS api_Gate.inK A00 a0, Row 4 (pl api_Event.enc) noK A01 a1] ++ Glob) 28 #[slcV A00 a0.length, slcV A01 a1.length, .int .i64 a2, api_Arp.v a3] (.bool r) := by
  intro w Z hS
  refine calls_of (args := [slcV A00 a0.length, slcV A01 a1.length, .int .i64 a2, api_Arp.v a3]) (L := [(0, slcV A00 a0.length), (1, slcV A01 a1.length), (2, .int .i64 a2), (3, api_Arp.v a3)]) (N := 110) (S := Sat w Z [] [] ([Row 21 api_Gate.encS api_Gate.inK A00 a0, Row 4 (pl api_Event.enc) noK A01 a1] ++ Glob)) Tryz.func28 rfl rfl (Nat.le_of_ble_eq_true rfl) rfl hS ?_
  have hM := h
  clear h hS
  unfold gangwayref28_asked.f at hM
  refine WP.seq ?_
  refine WP.rh [] (fun b1 => [(7, .pointer (some ⟨b1, 0, none⟩)), (8, .bool false)]) (fun b1 => []) (fun b1 => [(b1, api_Arp.o a3)]) (fun b1 => ?_)
  refine WP.seq ?_
  refine WP.region ?_
  refine WL.rn 2 [] [(20, slcV A01 a1.length), (21, .int .i64 a2)] ?_
  obtain ⟨t2, h3, hM⟩ := bind_some hM
  refine WL.valF (φ := Row 4 (pl api_Event.enc) noK A01 a1) (fact_at 1 rfl) (fun w hR => run_indexRowF (A := A01) (xs := a1) (i := a2) (k := .i64) (e := 28) (m := 4) (by kernel_rfl) (by kernel_rfl) h3 (by kernel_rfl) (by kernel_rfl) hR) (by kernel_rfl) (by kernel_rfl) rfl ?_
  refine WL.valF (φ := Row 4 (pl api_Event.enc) noK A01 a1) (fact_at 1 rfl) (fun w hR => run_loadRowFA (A := A01) (xs := a1) (i := a2) (j := 0) (n := 4) (vs := [.bool t2.In, .int .i64 t2.Gate, .int .i64 t2.Port, .string t2.S]) h3 (fun _ => by kernel_rfl) (by kernel_rfl) (by kernel_rfl) (by kernel_rfl) rfl hR) (by kernel_rfl) (by kernel_rfl) rfl ?_
  refine WL.rh 2 [1, 1, 1, 1] (fun b4 => [(9, .pointer (some ⟨b4, 0, none⟩))]) (fun b4 => []) (fun b4 => [(b4, api_Event.o t2)]) (fun b4 => ?_)
  refine WP.done ?_
  refine WP.seq ?_
  refine WP.region ?_
  refine WL.rn 2 [1, 1, 1, 1] [(25, slcV A00 a0.length), (26, api_Event.v t2)] ?_
  obtain ⟨⟨r5, r6, r7⟩, h8, hM⟩ := bind_some hM
  dsimp only at hM
  refine WL.callP [] [] (gangwayref28_Of_calls k A00 a0 t2 _ h8) (sub_pick [0] (by kernel_rfl)) (by kernel_rfl) (by kernel_rfl) rfl ?_
  refine WL.rh 8 [2, 2, 2, 2, 2, 2, 2, 2] (fun b9 => [(10, .int .i64 r5)]) (fun b9 => []) (fun b9 => [(b9, api_Frame.o r6)]) (fun b9 => ?_)
  refine WP.done ?_
  refine WP.kp [true, true, false] ?_
  refine WP.seq ?_
  refine WP.seq ?_
  refine WP.rn [] [(13, .int .i64 0)] ?_
  refine WP.block ?_
  refine WP.sub [0, 1, 2, 7, 8, 9, 10, 13] (L' := [(0, slcV A00 a0.length), (1, slcV A01 a1.length), (2, .int .i64 a2), (7, .pointer (some ⟨b1, 0, none⟩)), (8, .bool false), (9, .pointer (some ⟨b4, 0, none⟩)), (10, .int .i64 r5), (13, .int .i64 0)]) (by kernel_rfl) ?_
  refine WP.lessF [0, 1] (F' := [Row 21 api_Gate.encS api_Gate.inK A00 a0, Row 4 (pl api_Event.enc) noK A01 a1]) (by kernel_rfl) ?_
  refine WP.loop (σ := Bool × Int) (fun n st => gangwayref28_asked.l1 a2 a1 k a0 t2 r5 a3 n st.1 st.2) r (fun st => [(0, slcV A00 a0.length), (1, slcV A01 a1.length), (2, .int .i64 a2), (7, .pointer (some ⟨b1, 0, none⟩)), (8, .bool st.1), (9, .pointer (some ⟨b4, 0, none⟩)), (10, .int .i64 r5), (13, .int .i64 st.2)]) (fun st => Sat w Z [(b1, api_Arp.o a3), (b4, api_Event.o t2)] [] ([Row 21 api_Gate.encS api_Gate.inK A00 a0, Row 4 (pl api_Event.enc) noK A01 a1] ++ Glob)) (st := (false, 0)) (fun n st hM => ?_) hM
  rcases n with _ | n
  · exact nomatch (show (none : Option _) = some r from hM)
  obtain ⟨x10, x11⟩ := st
  replace hM : gangwayref28_asked.l1 a2 a1 k a0 t2 r5 a3 (n + 1) x10 x11 = some r := hM
  rw [gangwayref28_asked.l1] at hM
  show WP _ _ _ _ _ [(0, slcV A00 a0.length), (1, slcV A01 a1.length), (2, .int .i64 a2), (7, .pointer (some ⟨b1, 0, none⟩)), (8, .bool x10), (9, .pointer (some ⟨b4, 0, none⟩)), (10, .int .i64 r5), (13, .int .i64 x11)] (Sat w Z [(b1, api_Arp.o a3), (b4, api_Event.o t2)] [] ([Row 21 api_Gate.encS api_Gate.inK A00 a0, Row 4 (pl api_Event.enc) noK A01 a1] ++ Glob))
  refine WP.seq ?_
  refine WP.seq ?_
  refine WP.rn [] [(31, .int .i64 x11), (32, .int .i64 a2), (33, .bool (decide (x11 < a2)))] ?_
  refine WP.cond (decide (x11 < a2)) rfl rfl (fun c12 => ?_) (fun c12 => ?_)
  · replace hM := cond_t hM c12
    refine WP.skip ?_
    refine WP.seq ?_
    refine WP.block ?_
    refine WP.seq ?_
    refine WP.region ?_
    refine WL.rn 2 [] [(36, slcV A01 a1.length), (37, .int .i64 x11)] ?_
    obtain ⟨t13, h14, hM⟩ := bind_some hM
    refine WL.valF (φ := Row 4 (pl api_Event.enc) noK A01 a1) (fact_at 1 rfl) (fun w hR => run_indexRowF (A := A01) (xs := a1) (i := x11) (k := .i64) (e := 28) (m := 4) (by kernel_rfl) (by kernel_rfl) h14 (by kernel_rfl) (by kernel_rfl) hR) (by kernel_rfl) (by kernel_rfl) rfl ?_
    refine WL.valF (φ := Row 4 (pl api_Event.enc) noK A01 a1) (fact_at 1 rfl) (fun w hR => run_loadRowFA (A := A01) (xs := a1) (i := x11) (j := 0) (n := 4) (vs := [.bool t13.In, .int .i64 t13.Gate, .int .i64 t13.Port, .string t13.S]) h14 (fun _ => by kernel_rfl) (by kernel_rfl) (by kernel_rfl) (by kernel_rfl) rfl hR) (by kernel_rfl) (by kernel_rfl) rfl ?_
    refine WL.rh 2 [2, 2, 2, 2] (fun b15 => [(14, .pointer (some ⟨b15, 0, none⟩))]) (fun b15 => []) (fun b15 => [(b15, api_Event.o t13)]) (fun b15 => ?_)
    refine WP.done ?_
    refine WP.seq ?_
    refine WP.region ?_
    refine WL.rn 2 [2, 2, 2, 2] [(41, slcV A00 a0.length), (42, api_Event.v t13)] ?_
    obtain ⟨⟨r16, r17, r18⟩, h19, hM⟩ := bind_some hM
    dsimp only at hM
    refine WL.callP [] [] (gangwayref28_Of_calls k A00 a0 t13 _ h19) (sub_pick [0] (by kernel_rfl)) (by kernel_rfl) (by kernel_rfl) rfl ?_
    refine WL.rh 8 [3, 3, 3, 3, 3, 3, 3, 3] (fun b20 => [(15, .int .i64 r16), (16, .pointer (some ⟨b20, 0, none⟩)), (17, .bool r18), (40, .tuple #[.int .i64 r16, api_Frame.v r17, .bool r18]), (44, .int .i64 r16), (45, api_Frame.v r17), (46, .bool r18)]) (fun b20 => []) (fun b20 => [(b20, api_Frame.o r17)]) (fun b20 => ?_)
    refine WP.done ?_
    refine WP.seq ?_
    refine WP.region ?_
    refine WL.rn 1 [3, 3, 3, 3, 3, 3, 3, 3] [(48, api_Frame.v r17)] ?_
    obtain ⟨⟨r21, r22⟩, h23, hM⟩ := bind_some hM
    dsimp only at hM
    refine WL.callP [] [] (gangwayref05_Of_calls k r17 _ h23) (fun _ h => List.mem_append_right _ h) (by kernel_rfl) (by kernel_rfl) rfl ?_
    refine WL.rh 6 [4, 4, 4, 4, 4] (fun b24 => [(18, .pointer (some ⟨b24, 0, none⟩)), (19, .bool r22), (47, .tuple #[api_Arp.v r21, .bool r22]), (50, api_Arp.v r21), (51, .bool r22)]) (fun b24 => []) (fun b24 => [(b24, api_Arp.o r21)]) (fun b24 => ?_)
    refine WP.done ?_
    refine WP.seq ?_
    refine WP.region ?_
    refine WL.rn 3 [2] [(52, .pointer (some ⟨b15, 0, none⟩)), (53, .bool t13.In), (54, .bool t13.In)] ?_
    refine WL.bo 54 t13.In 2 [] [] (fun b' => [(56, .bool (b' && r18))]) ?_
    refine WL.rn 1 [] [(57, .bool (t13.In && r18))] ?_
    refine WL.bo 57 (t13.In && r18) 2 [] [] (fun b' => [(59, .bool (b' && r22))]) ?_
    refine WL.rn 1 [] [(60, .bool ((t13.In && r18) && r22))] ?_
    refine WL.bo 60 ((t13.In && r18) && r22) 6 [2, 1] [] (fun b' => [(66, .bool (b' && (t13.Gate == t2.Gate)))]) ?_
    refine WL.rn 1 [] [(67, .bool (((t13.In && r18) && r22) && (t13.Gate == t2.Gate)))] ?_
    refine WL.bo 67 (((t13.In && r18) && r22) && (t13.Gate == t2.Gate)) 6 [2, 1] [] (fun b' => [(73, .bool (b' && (t13.Port == t2.Port)))]) ?_
    refine WL.rn 1 [] [(74, .bool ((((t13.In && r18) && r22) && (t13.Gate == t2.Gate)) && (t13.Port == t2.Port)))] ?_
    refine WL.bo 74 ((((t13.In && r18) && r22) && (t13.Gate == t2.Gate)) && (t13.Port == t2.Port)) 4 [] [] (fun b' => [(78, .bool (b' && (r5 == r16)))]) ?_
    refine WL.rn 1 [] [(79, .bool (((((t13.In && r18) && r22) && (t13.Gate == t2.Gate)) && (t13.Port == t2.Port)) && (r5 == r16)))] ?_
    refine WL.bo 79 (((((t13.In && r18) && r22) && (t13.Gate == t2.Gate)) && (t13.Port == t2.Port)) && (r5 == r16)) 4 [4] [] (fun b' => [(83, .bool (b' && (r21.Op == 1)))]) ?_
    refine WL.rn 1 [] [(84, .bool ((((((t13.In && r18) && r22) && (t13.Gate == t2.Gate)) && (t13.Port == t2.Port)) && (r5 == r16)) && (r21.Op == 1)))] ?_
    refine WL.bo 84 ((((((t13.In && r18) && r22) && (t13.Gate == t2.Gate)) && (t13.Port == t2.Port)) && (r5 == r16)) && (r21.Op == 1)) 4 [3] [] (fun b' => [(88, .bool (b' && (r17.Dst == 281474976710655)))]) ?_
    refine WL.rn 1 [] [(89, .bool (((((((t13.In && r18) && r22) && (t13.Gate == t2.Gate)) && (t13.Port == t2.Port)) && (r5 == r16)) && (r21.Op == 1)) && (r17.Dst == 281474976710655)))] ?_
    refine WL.bo 89 (((((((t13.In && r18) && r22) && (t13.Gate == t2.Gate)) && (t13.Port == t2.Port)) && (r5 == r16)) && (r21.Op == 1)) && (r17.Dst == 281474976710655)) 6 [4, 0] [] (fun b' => [(95, .bool (b' && (r21.SMac == a3.TMac)))]) ?_
    refine WL.rn 1 [] [(96, .bool ((((((((t13.In && r18) && r22) && (t13.Gate == t2.Gate)) && (t13.Port == t2.Port)) && (r5 == r16)) && (r21.Op == 1)) && (r17.Dst == 281474976710655)) && (r21.SMac == a3.TMac)))] ?_
    refine WL.bo 96 ((((((((t13.In && r18) && r22) && (t13.Gate == t2.Gate)) && (t13.Port == t2.Port)) && (r5 == r16)) && (r21.Op == 1)) && (r17.Dst == 281474976710655)) && (r21.SMac == a3.TMac)) 6 [4, 0] [] (fun b' => [(102, .bool (b' && (r21.SIp == a3.TIp)))]) ?_
    refine WL.rn 1 [] [(103, .bool (((((((((t13.In && r18) && r22) && (t13.Gate == t2.Gate)) && (t13.Port == t2.Port)) && (r5 == r16)) && (r21.Op == 1)) && (r17.Dst == 281474976710655)) && (r21.SMac == a3.TMac)) && (r21.SIp == a3.TIp)))] ?_
    refine WL.bo 103 (((((((((t13.In && r18) && r22) && (t13.Gate == t2.Gate)) && (t13.Port == t2.Port)) && (r5 == r16)) && (r21.Op == 1)) && (r17.Dst == 281474976710655)) && (r21.SMac == a3.TMac)) && (r21.SIp == a3.TIp)) 6 [4, 0] [] (fun b' => [(109, .bool (b' && (r21.TIp == a3.SIp)))]) ?_
    refine WP.done ?_
    refine WP.cond ((((((((((t13.In && r18) && r22) && (t13.Gate == t2.Gate)) && (t13.Port == t2.Port)) && (r5 == r16)) && (r21.Op == 1)) && (r17.Dst == 281474976710655)) && (r21.SMac == a3.TMac)) && (r21.SIp == a3.TIp)) && (r21.TIp == a3.SIp)) rfl rfl (fun c25 => ?_) (fun c25 => ?_)
    · replace hM := cond_t hM c25
      refine WP.seq ?_
      refine WP.rn [] [(8, .bool true)] ?_
      obtain rfl := Option.some.inj hM
      exact WP.ret [] [] (.bool true) (by kernel_rfl) (fun w' hw => ⟨rfl, (hw.pick [] rfl).lessF [0, 1] (by kernel_rfl)⟩)
    · replace hM := cond_f hM c25
      refine WP.skip ?_
      refine WP.leave ?_
      refine WP.rn [] [(13, .int .i64 (i64 (x11 + 1))), (34, .int .i64 x11), (35, .int .i64 (i64 (x11 + 1)))] ?_
      exact WP.again' [0, 1, 2, 7, 8, 9, 10, 13] (x10, i64 (x11 + 1)) hM (by kernel_rfl) (fun _ h => (h.pick [0, 1] (by kernel_rfl)).lessF [0, 1] (by kernel_rfl))
  · replace hM := cond_f hM c12
    refine WP.exit rfl ?_
    refine WP.seq ?_
    refine WP.rn [] [(8, .bool false)] ?_
    refine WP.kp [false, false] ?_
    obtain rfl := Option.some.inj hM
    exact WP.ret [] [] (.bool false) (by kernel_rfl) (fun w' hw => ⟨rfl, (hw.pick [] rfl).lessF [0, 1] (by kernel_rfl)⟩)

end Go.Proofs.YtbbekdmndifkpaaGreatDoor

namespace Go.Proofs.YtbbekdmndifkpaaGreatDoor
open Go Eng
set_option linter.unusedVariables false
set_option linter.unusedSimpArgs false

/-! ### gangway/gangwayref28.told: function 29 -/
def gangwayref28_told.k1 (r12 : api_Arp) (r8 : api_Frame) (a3 : api_Arp) (x2 : Bool) (x3 : Int) (rec_l2 : Bool → Int → Option (Bool)) (x25 : Bool) (x26 : Bool) : Option (Bool) :=
  bif (((x26 && (r12.SMac == r8.Src)) && (r12.SMac == a3.SMac)) && (r12.SIp == a3.SIp)) then
    some true
  else
    rec_l2 x2 (i64 (x3 + 1))

def gangwayref28_told.l2 (a2 : Int) (a1 : (List api_Event)) (k : Nat) (a0 : (List api_Gate)) (a3 : api_Arp) : Nat → Bool → Int → Option (Bool)
  | 0, _, _ => none
  | n + 1, x2, x3 =>
    bif decide (x3 < a2) then
      (getL a1.length a1 x3).bind fun t5 =>
      (gangwayref28_Of.f k a0 t5).bind fun (r7, r8, r9) =>
      (gangwayref05_Of.f k r8).bind fun (r12, r13) =>
      (getL a1.length a1 x3).bind fun t16 =>
      bif (t16.In && r13) then
        (getL a1.length a1 x3).bind fun t19 =>
        (getL a1.length a1 a2).bind fun t21 =>
        (gangwayref28_Same.f k a0 t19 t21).bind fun r23 =>
        gangwayref28_told.k1 r12 r8 a3 x2 x3 (gangwayref28_told.l2 a2 a1 k a0 a3 n) true r23
      else
        gangwayref28_told.k1 r12 r8 a3 x2 x3 (gangwayref28_told.l2 a2 a1 k a0 a3 n) false false
    else
      some false

def gangwayref28_told.f (k : Nat) (a0 : (List api_Gate)) (a1 : (List api_Event)) (a2 : Int) (a3 : api_Arp) : Option (Bool) :=
  gangwayref28_told.l2 a2 a1 k a0 a3 k false 0

set_option maxRecDepth 100000 in
theorem gangwayref28_told_calls (k : Nat) (A00 : SkL ((SkL (SkL Unit)) × (SkL Unit) × (SkL (SkL Unit)) × (SkL Unit))) (A01 : SkL Unit) (a0 : (List api_Gate)) (a1 : (List api_Event)) (a2 : Int) (a3 : api_Arp) (r : Bool) (h : gangwayref28_told.f k a0 a1 a2 a3 = some r) : Pure Tryz.prog ([Row 21 api_Gate.encS api_Gate.inK A00 a0, Row 4 (pl api_Event.enc) noK A01 a1] ++ Glob) 29 #[slcV A00 a0.length, slcV A01 a1.length, .int .i64 a2, api_Arp.v a3] (.bool r) := by
  intro w Z hS
  refine calls_of (args := [slcV A00 a0.length, slcV A01 a1.length, .int .i64 a2, api_Arp.v a3]) (L := [(0, slcV A00 a0.length), (1, slcV A01 a1.length), (2, .int .i64 a2), (3, api_Arp.v a3)]) (N := 76) (S := Sat w Z [] [] ([Row 21 api_Gate.encS api_Gate.inK A00 a0, Row 4 (pl api_Event.enc) noK A01 a1] ++ Glob)) Tryz.func29 rfl rfl (Nat.le_of_ble_eq_true rfl) rfl hS ?_
  have hM := h
  clear h hS
  unfold gangwayref28_told.f at hM
  refine WP.seq ?_
  refine WP.rh [] (fun b1 => [(7, .pointer (some ⟨b1, 0, none⟩)), (8, .bool false)]) (fun b1 => []) (fun b1 => [(b1, api_Arp.o a3)]) (fun b1 => ?_)
  refine WP.seq ?_
  refine WP.seq ?_
  refine WP.rn [] [(9, .int .i64 0)] ?_
  refine WP.block ?_
  refine WP.sub [0, 1, 2, 7, 8, 9] (L' := [(0, slcV A00 a0.length), (1, slcV A01 a1.length), (2, .int .i64 a2), (7, .pointer (some ⟨b1, 0, none⟩)), (8, .bool false), (9, .int .i64 0)]) (by kernel_rfl) ?_
  refine WP.lessF [0, 1] (F' := [Row 21 api_Gate.encS api_Gate.inK A00 a0, Row 4 (pl api_Event.enc) noK A01 a1]) (by kernel_rfl) ?_
  refine WP.loop (σ := Bool × Int) (fun n st => gangwayref28_told.l2 a2 a1 k a0 a3 n st.1 st.2) r (fun st => [(0, slcV A00 a0.length), (1, slcV A01 a1.length), (2, .int .i64 a2), (7, .pointer (some ⟨b1, 0, none⟩)), (8, .bool st.1), (9, .int .i64 st.2)]) (fun st => Sat w Z [(b1, api_Arp.o a3)] [] ([Row 21 api_Gate.encS api_Gate.inK A00 a0, Row 4 (pl api_Event.enc) noK A01 a1] ++ Glob)) (st := (false, 0)) (fun n st hM => ?_) hM
  rcases n with _ | n
  · exact nomatch (show (none : Option _) = some r from hM)
  obtain ⟨x2, x3⟩ := st
  replace hM : gangwayref28_told.l2 a2 a1 k a0 a3 (n + 1) x2 x3 = some r := hM
  rw [gangwayref28_told.l2] at hM
  show WP _ _ _ _ _ [(0, slcV A00 a0.length), (1, slcV A01 a1.length), (2, .int .i64 a2), (7, .pointer (some ⟨b1, 0, none⟩)), (8, .bool x2), (9, .int .i64 x3)] (Sat w Z [(b1, api_Arp.o a3)] [] ([Row 21 api_Gate.encS api_Gate.inK A00 a0, Row 4 (pl api_Event.enc) noK A01 a1] ++ Glob))
  refine WP.seq ?_
  refine WP.seq ?_
  refine WP.rn [] [(15, .int .i64 x3), (16, .int .i64 a2), (17, .bool (decide (x3 < a2)))] ?_
  refine WP.cond (decide (x3 < a2)) rfl rfl (fun c4 => ?_) (fun c4 => ?_)
  · replace hM := cond_t hM c4
    refine WP.skip ?_
    refine WP.seq ?_
    refine WP.block ?_
    refine WP.seq ?_
    refine WP.region ?_
    refine WL.rn 3 [] [(21, slcV A00 a0.length), (22, slcV A01 a1.length), (23, .int .i64 x3)] ?_
    obtain ⟨t5, h6, hM⟩ := bind_some hM
    refine WL.valF (φ := Row 4 (pl api_Event.enc) noK A01 a1) (fact_at 1 rfl) (fun w hR => run_indexRowF (A := A01) (xs := a1) (i := x3) (k := .i64) (e := 28) (m := 4) (by kernel_rfl) (by kernel_rfl) h6 (by kernel_rfl) (by kernel_rfl) hR) (by kernel_rfl) (by kernel_rfl) rfl ?_
    refine WL.valF (φ := Row 4 (pl api_Event.enc) noK A01 a1) (fact_at 1 rfl) (fun w hR => run_loadRowFA (A := A01) (xs := a1) (i := x3) (j := 0) (n := 4) (vs := [.bool t5.In, .int .i64 t5.Gate, .int .i64 t5.Port, .string t5.S]) h6 (fun _ => by kernel_rfl) (by kernel_rfl) (by kernel_rfl) (by kernel_rfl) rfl hR) (by kernel_rfl) (by kernel_rfl) rfl ?_
    obtain ⟨⟨r7, r8, r9⟩, h10, hM⟩ := bind_some hM
    dsimp only at hM
    refine WL.callP [] [] (gangwayref28_Of_calls k A00 a0 t5 _ h10) (sub_pick [0] (by kernel_rfl)) (by kernel_rfl) (by kernel_rfl) rfl ?_
    refine WL.rh 8 [1, 1, 1, 1, 1, 1, 1, 1] (fun b11 => [(11, .pointer (some ⟨b11, 0, none⟩)), (20, .tuple #[.int .i64 r7, api_Frame.v r8, .bool r9]), (27, .int .i64 r7), (28, api_Frame.v r8), (29, .bool r9)]) (fun b11 => []) (fun b11 => [(b11, api_Frame.o r8)]) (fun b11 => ?_)
    refine WP.done ?_
    refine WP.seq ?_
    refine WP.region ?_
    refine WL.rn 1 [1, 1, 1, 1, 1, 1, 1, 1] [(31, api_Frame.v r8)] ?_
    obtain ⟨⟨r12, r13⟩, h14, hM⟩ := bind_some hM
    dsimp only at hM
    refine WL.callP [] [] (gangwayref05_Of_calls k r8 _ h14) (fun _ h => List.mem_append_right _ h) (by kernel_rfl) (by kernel_rfl) rfl ?_
    refine WL.rh 6 [2, 2, 2, 2, 2] (fun b15 => [(13, .pointer (some ⟨b15, 0, none⟩)), (14, .bool r13), (30, .tuple #[api_Arp.v r12, .bool r13]), (33, api_Arp.v r12), (34, .bool r13)]) (fun b15 => []) (fun b15 => [(b15, api_Arp.o r12)]) (fun b15 => ?_)
    refine WP.done ?_
    refine WP.seq ?_
    refine WP.quiet (by kernel_rfl) (by kernel_rfl) ?_
    refine QL.rn 2 [] [(35, slcV A01 a1.length), (36, .int .i64 x3)] ?_
    obtain ⟨t16, h17, hM⟩ := bind_some hM
    refine QL.valF (φ := Row 4 (pl api_Event.enc) noK A01 a1) (fact_at 1 rfl) (fun w hR => run_indexRowF (A := A01) (xs := a1) (i := x3) (k := .i64) (e := 28) (m := 4) (by kernel_rfl) (by kernel_rfl) h17 (by kernel_rfl) (by kernel_rfl) hR) (by kernel_rfl) (by kernel_rfl) rfl ?_
    refine QL.valF (φ := Row 4 (pl api_Event.enc) noK A01 a1) (fact_at 1 rfl) (fun w hR => run_fieldRowF (A := A01) (xs := a1) (i := x3) (n := Int.toNat x3 * 4 + 0) (n' := Int.toNat x3 * 4 + 0) h17 (by kernel_rfl) (fun _ _ => by kernel_rfl) hR) (by kernel_rfl) (by kernel_rfl) rfl ?_
    refine QL.valF (φ := Row 4 (pl api_Event.enc) noK A01 a1) (fact_at 1 rfl) (fun w hR => run_loadRowF (A := A01) (xs := a1) (i := x3) (j := 0) (v := .bool t16.In) h17 (fun _ => by kernel_rfl) (by kernel_rfl) (by kernel_rfl) hR) (by kernel_rfl) (by kernel_rfl) rfl ?_
    refine QL.rn 1 [] [(40, .bool t16.In)] ?_
    refine QL.bo 40 t16.In 2 [] [] (fun b' => [(42, .bool (b' && r13))]) ?_
    refine QL.rn 1 [] [(43, .bool (t16.In && r13))] ?_
    refine QL.join (σ := Bool × Bool) 11 (fun st => gangwayref28_told.k1 r12 r8 a3 x2 x3 (gangwayref28_told.l2 a2 a1 k a0 a3 n) st.1 st.2 = some r) (fun st => [(0, slcV A00 a0.length), (1, slcV A01 a1.length), (2, .int .i64 a2), (7, .pointer (some ⟨b1, 0, none⟩)), (8, .bool x2), (9, .int .i64 x3), (11, .pointer (some ⟨b11, 0, none⟩)), (13, .pointer (some ⟨b15, 0, none⟩)), (14, .bool r13), (15, .int .i64 x3), (16, .int .i64 a2), (17, .bool (decide (x3 < a2))), (20, .tuple #[.int .i64 r7, api_Frame.v r8, .bool r9]), (21, slcV A00 a0.length), (22, slcV A01 a1.length), (23, .int .i64 x3), (24, ptrV A01 (Int.toNat x3 * 4)), (25, api_Event.v t5), (26, .tuple #[.int .i64 r7, api_Frame.v r8, .bool r9]), (27, .int .i64 r7), (28, api_Frame.v r8), (29, .bool r9), (30, .tuple #[api_Arp.v r12, .bool r13]), (31, api_Frame.v r8), (32, .tuple #[api_Arp.v r12, .bool r13]), (33, api_Arp.v r12), (34, .bool r13), (35, slcV A01 a1.length), (36, .int .i64 x3), (37, ptrV A01 (Int.toNat x3 * 4)), (38, ptrV A01 (Int.toNat x3 * 4)), (39, .bool t16.In), (40, .bool t16.In), (42, .bool (t16.In && r13)), (43, .bool st.1), (54, .bool st.2)]) (fun st hM => ?_) (fun K1 => ?_)
    ·
      obtain ⟨x25, x26⟩ := st
      replace hM : gangwayref28_told.k1 r12 r8 a3 x2 x3 (gangwayref28_told.l2 a2 a1 k a0 a3 n) x25 x26 = some r := hM
      unfold gangwayref28_told.k1 at hM
      show QL _ _ _ _ _ _ [(0, slcV A00 a0.length), (1, slcV A01 a1.length), (2, .int .i64 a2), (7, .pointer (some ⟨b1, 0, none⟩)), (8, .bool x2), (9, .int .i64 x3), (11, .pointer (some ⟨b11, 0, none⟩)), (13, .pointer (some ⟨b15, 0, none⟩)), (14, .bool r13), (15, .int .i64 x3), (16, .int .i64 a2), (17, .bool (decide (x3 < a2))), (20, .tuple #[.int .i64 r7, api_Frame.v r8, .bool r9]), (21, slcV A00 a0.length), (22, slcV A01 a1.length), (23, .int .i64 x3), (24, ptrV A01 (Int.toNat x3 * 4)), (25, api_Event.v t5), (26, .tuple #[.int .i64 r7, api_Frame.v r8, .bool r9]), (27, .int .i64 r7), (28, api_Frame.v r8), (29, .bool r9), (30, .tuple #[api_Arp.v r12, .bool r13]), (31, api_Frame.v r8), (32, .tuple #[api_Arp.v r12, .bool r13]), (33, api_Arp.v r12), (34, .bool r13), (35, slcV A01 a1.length), (36, .int .i64 x3), (37, ptrV A01 (Int.toNat x3 * 4)), (38, ptrV A01 (Int.toNat x3 * 4)), (39, .bool t16.In), (40, .bool t16.In), (42, .bool (t16.In && r13)), (43, .bool x25), (54, .bool x26)]
      refine QL.rn 1 [] [(55, .bool x26)] ?_
      refine QL.bo 55 x26 6 [2, 1] [] (fun b' => [(61, .bool (b' && (r12.SMac == r8.Src)))]) ?_
      refine QL.rn 1 [] [(62, .bool (x26 && (r12.SMac == r8.Src)))] ?_
      refine QL.bo 62 (x26 && (r12.SMac == r8.Src)) 6 [2, 0] [] (fun b' => [(68, .bool (b' && (r12.SMac == a3.SMac)))]) ?_
      refine QL.rn 1 [] [(69, .bool ((x26 && (r12.SMac == r8.Src)) && (r12.SMac == a3.SMac)))] ?_
      refine QL.bo 69 ((x26 && (r12.SMac == r8.Src)) && (r12.SMac == a3.SMac)) 6 [2, 0] [] (fun b' => [(75, .bool (b' && (r12.SIp == a3.SIp)))]) ?_
      refine QL.done ?_
      refine WP.cond (((x26 && (r12.SMac == r8.Src)) && (r12.SMac == a3.SMac)) && (r12.SIp == a3.SIp)) rfl rfl (fun c27 => ?_) (fun c27 => ?_)
      · replace hM := cond_t hM c27
        refine WP.seq ?_
        refine WP.rn [] [(8, .bool true)] ?_
        obtain rfl := Option.some.inj hM
        exact WP.ret [] [] (.bool true) (by kernel_rfl) (fun w' hw => ⟨rfl, (hw.pick [] rfl).lessF [0, 1] (by kernel_rfl)⟩)
      · replace hM := cond_f hM c27
        refine WP.skip ?_
        refine WP.leave ?_
        refine WP.rn [] [(9, .int .i64 (i64 (x3 + 1))), (18, .int .i64 x3), (19, .int .i64 (i64 (x3 + 1)))] ?_
        exact WP.again' [0, 1, 2, 7, 8, 9] (x2, i64 (x3 + 1)) hM (by kernel_rfl) (fun _ h => (h.pick [0] (by kernel_rfl)).lessF [0, 1] (by kernel_rfl))
    ·
      refine QL.sp 43 (t16.In && r13) (fun c18 => ?_) (fun c18 => ?_)
      · replace hM := cond_t hM c18
        refine QL.rn 3 [] [(44, slcV A00 a0.length), (45, slcV A01 a1.length), (46, .int .i64 x3)] ?_
        obtain ⟨t19, h20, hM⟩ := bind_some hM
        refine QL.valF (φ := Row 4 (pl api_Event.enc) noK A01 a1) (fact_at 1 rfl) (fun w hR => run_indexRowF (A := A01) (xs := a1) (i := x3) (k := .i64) (e := 28) (m := 4) (by kernel_rfl) (by kernel_rfl) h20 (by kernel_rfl) (by kernel_rfl) hR) (by kernel_rfl) (by kernel_rfl) rfl ?_
        refine QL.valF (φ := Row 4 (pl api_Event.enc) noK A01 a1) (fact_at 1 rfl) (fun w hR => run_loadRowFA (A := A01) (xs := a1) (i := x3) (j := 0) (n := 4) (vs := [.bool t19.In, .int .i64 t19.Gate, .int .i64 t19.Port, .string t19.S]) h20 (fun _ => by kernel_rfl) (by kernel_rfl) (by kernel_rfl) (by kernel_rfl) rfl hR) (by kernel_rfl) (by kernel_rfl) rfl ?_
        refine QL.rn 2 [] [(49, slcV A01 a1.length), (50, .int .i64 a2)] ?_
        obtain ⟨t21, h22, hM⟩ := bind_some hM
        refine QL.valF (φ := Row 4 (pl api_Event.enc) noK A01 a1) (fact_at 1 rfl) (fun w hR => run_indexRowF (A := A01) (xs := a1) (i := a2) (k := .i64) (e := 28) (m := 4) (by kernel_rfl) (by kernel_rfl) h22 (by kernel_rfl) (by kernel_rfl) hR) (by kernel_rfl) (by kernel_rfl) rfl ?_
        refine QL.valF (φ := Row 4 (pl api_Event.enc) noK A01 a1) (fact_at 1 rfl) (fun w hR => run_loadRowFA (A := A01) (xs := a1) (i := a2) (j := 0) (n := 4) (vs := [.bool t21.In, .int .i64 t21.Gate, .int .i64 t21.Port, .string t21.S]) h22 (fun _ => by kernel_rfl) (by kernel_rfl) (by kernel_rfl) (by kernel_rfl) rfl hR) (by kernel_rfl) (by kernel_rfl) rfl ?_
        obtain ⟨r23, h24, hM⟩ := bind_some hM
        refine QL.callP [] [] (gangwayref28_Same_calls k A00 a0 t19 t21 _ h24) (sub_pick [0] (by kernel_rfl)) (by kernel_rfl) (by kernel_rfl) rfl ?_
        refine QL.rn 1 [] [(54, .bool r23)] ?_
        exact QL.sub [0, 1, 2, 7, 8, 9, 11, 13, 14, 15, 16, 17, 20, 21, 22, 23, 24, 25, 26, 27, 28, 29, 30, 31, 32, 33, 34, 35, 36, 37, 38, 39, 40, 42, 43, 54] (by kernel_rfl) (K1 (true, r23) hM)
      · replace hM := cond_f hM c18
        refine QL.rn 11 [] [(44, .tuple #[]), (45, .tuple #[]), (46, .tuple #[]), (47, .tuple #[]), (48, .tuple #[]), (49, .tuple #[]), (50, .tuple #[]), (51, .tuple #[]), (52, .tuple #[]), (53, .tuple #[]), (54, .bool false)] ?_
        exact QL.sub [0, 1, 2, 7, 8, 9, 11, 13, 14, 15, 16, 17, 20, 21, 22, 23, 24, 25, 26, 27, 28, 29, 30, 31, 32, 33, 34, 35, 36, 37, 38, 39, 40, 42, 43, 54] (by kernel_rfl) (K1 (false, false) hM)
  · replace hM := cond_f hM c4
    refine WP.exit rfl ?_
    refine WP.seq ?_
    refine WP.rn [] [(8, .bool false)] ?_
    refine WP.kp [false] ?_
    obtain rfl := Option.some.inj hM
    exact WP.ret [] [] (.bool false) (by kernel_rfl) (fun w' hw => ⟨rfl, (hw.pick [] rfl).lessF [0, 1] (by kernel_rfl)⟩)

end Go.Proofs.YtbbekdmndifkpaaGreatDoor

namespace Go.Proofs.YtbbekdmndifkpaaGreatDoor
open Go Eng
set_option linter.unusedVariables false
set_option linter.unusedSimpArgs false

/-! ### gangway/gangwayref28.May: function 9 -/
def gangwayref28_May.k4 (x34 : Bool) : Option (Bool) :=
  some x34

def gangwayref28_May.k2 (k : Nat) (a0 : (List api_Gate)) (t1 : api_Event) (a1 : (List api_Event)) (a2 : Int) (x17 : Bool) : Option (Bool) :=
  bif x17 then
    some true
  else
    (gangwayref28_Of.f k a0 t1).bind fun (r19, r20, r21) =>
    (gangwayref05_Of.f k r20).bind fun (r24, r25) =>
    bif (((((!r21) || (!r25)) || (r24.Op != 2)) || (r24.SMac != r20.Src)) || (r20.Dst != r24.TMac)) then
      some false
    else
      (gangwayref28_asked.f k a0 a1 a2 r24).bind fun r29 =>
      bif r29 then
        (gangwayref28_told.f k a0 a1 a2 r24).bind fun r32 =>
        gangwayref28_May.k4 r32
      else
        gangwayref28_May.k4 false

def gangwayref28_May.k3 (k : Nat) (a0 : (List api_Gate)) (t1 : api_Event) (a1 : (List api_Event)) (a2 : Int) (x13 : Bool) : Option (Bool) :=
  bif x13 then
    gangwayref28_May.k2 k a0 t1 a1 a2 true
  else
    (gangwayref28_carried.f k a0 a1 a2).bind fun r15 =>
    gangwayref28_May.k2 k a0 t1 a1 a2 r15

def gangwayref28_May.k1 (k : Nat) (a0 : (List api_Gate)) (t1 : api_Event) (a1 : (List api_Event)) (a2 : Int) (x12 : Bool) : Option (Bool) :=
  gangwayref28_May.k3 k a0 t1 a1 a2 x12

def gangwayref28_May.f (k : Nat) (a0 : (List api_Gate)) (a1 : (List api_Event)) (a2 : Int) : Option (Bool) :=
  (getL a1.length a1 a2).bind fun t1 =>
  (gangwayref04_Parse.f k t1.S).bind fun (r4, r5) =>
  bif t1.In then
    gangwayref28_May.k3 k a0 t1 a1 a2 true
  else
    bif (r5 == 0) then
      (gangwayref17_Mine.f r4).bind fun r10 =>
      gangwayref28_May.k1 k a0 t1 a1 a2 r10
    else
      gangwayref28_May.k1 k a0 t1 a1 a2 false

set_option maxRecDepth 100000 in
theorem gangwayref28_May_calls (k : Nat) (A00 : SkL ((SkL (SkL Unit)) × (SkL Unit) × (SkL (SkL Unit)) × (SkL Unit))) (A01 : SkL Unit) (a0 : (List api_Gate)) (a1 : (List api_Event)) (a2 : Int) (r : Bool) (h : gangwayref28_May.f k a0 a1 a2 = some r) : Pure Tryz.prog ([Row 21 api_Gate.encS api_Gate.inK A00 a0, Row 4 (pl api_Event.enc) noK A01 a1] ++ Glob) 9 #[slcV A00 a0.length, slcV A01 a1.length, .int .i64 a2] (.bool r) := by
  intro w Z hS
  refine calls_of (args := [slcV A00 a0.length, slcV A01 a1.length, .int .i64 a2]) (L := [(0, slcV A00 a0.length), (1, slcV A01 a1.length), (2, .int .i64 a2)]) (N := 90) (S := Sat w Z [] [] ([Row 21 api_Gate.encS api_Gate.inK A00 a0, Row 4 (pl api_Event.enc) noK A01 a1] ++ Glob)) Tryz.func9 rfl rfl (Nat.le_of_ble_eq_true rfl) rfl hS ?_
  have hM := h
  clear h hS
  unfold gangwayref28_May.f at hM
  refine WP.seq ?_
  refine WP.rn [] [(6, .bool false)] ?_
  refine WP.seq ?_
  refine WP.region ?_
  refine WL.rn 2 [] [(15, slcV A01 a1.length), (16, .int .i64 a2)] ?_
  obtain ⟨t1, h2, hM⟩ := bind_some hM
  refine WL.valF (φ := Row 4 (pl api_Event.enc) noK A01 a1) (fact_at 1 rfl) (fun w hR => run_indexRowF (A := A01) (xs := a1) (i := a2) (k := .i64) (e := 28) (m := 4) (by kernel_rfl) (by kernel_rfl) h2 (by kernel_rfl) (by kernel_rfl) hR) (by kernel_rfl) (by kernel_rfl) rfl ?_
  refine WL.valF (φ := Row 4 (pl api_Event.enc) noK A01 a1) (fact_at 1 rfl) (fun w hR => run_loadRowFA (A := A01) (xs := a1) (i := a2) (j := 0) (n := 4) (vs := [.bool t1.In, .int .i64 t1.Gate, .int .i64 t1.Port, .string t1.S]) h2 (fun _ => by kernel_rfl) (by kernel_rfl) (by kernel_rfl) (by kernel_rfl) rfl hR) (by kernel_rfl) (by kernel_rfl) rfl ?_
  refine WL.rh 2 [0, 0, 0, 0] (fun b3 => [(7, .pointer (some ⟨b3, 0, none⟩))]) (fun b3 => []) (fun b3 => [(b3, api_Event.o t1)]) (fun b3 => ?_)
  refine WP.done ?_
  refine WP.seq ?_
  refine WP.region ?_
  refine WL.rn 2 [0] [(21, .string t1.S)] ?_
  obtain ⟨⟨r4, r5⟩, h6, hM⟩ := bind_some hM
  dsimp only at hM
  refine WL.callP [] [] (gangwayref04_Parse_calls k t1.S _ h6) (fun _ h => List.mem_append_right _ h) (by kernel_rfl) (by kernel_rfl) rfl ?_
  refine WL.rh 6 [1, 1, 1, 1, 1, 1, 1, 1] (fun b7 => [(8, .pointer (some ⟨b7, 0, none⟩)), (9, .int .i64 r5)]) (fun b7 => []) (fun b7 => [(b7, api_Frame.o r4)]) (fun b7 => ?_)
  refine WP.done ?_
  refine WP.seq ?_
  refine WP.seq ?_
  refine WP.region ?_
  refine WL.rn 3 [0] [(27, .bool t1.In)] ?_
  refine WL.join (σ := Bool) 7 (fun st => gangwayref28_May.k3 k a0 t1 a1 a2 st = some r) (fun st => [(0, slcV A00 a0.length), (1, slcV A01 a1.length), (2, .int .i64 a2), (6, .bool false), (7, .pointer (some ⟨b3, 0, none⟩)), (34, .bool st)]) (fun st => Sat w Z [(b3, api_Event.o t1)] [] ([Row 21 api_Gate.encS api_Gate.inK A00 a0, Row 4 (pl api_Event.enc) noK A01 a1] ++ Glob)) (fun st hM => ?_) (fun K3 => ?_)
  ·
    obtain ⟨x13, rfl⟩ : ∃ y, y = st := ⟨st, rfl⟩
    replace hM : gangwayref28_May.k3 k a0 t1 a1 a2 x13 = some r := hM
    unfold gangwayref28_May.k3 at hM
    show WL _ _ _ _ _ [(0, slcV A00 a0.length), (1, slcV A01 a1.length), (2, .int .i64 a2), (6, .bool false), (7, .pointer (some ⟨b3, 0, none⟩)), (34, .bool x13)] (Sat w Z [(b3, api_Event.o t1)] [] ([Row 21 api_Gate.encS api_Gate.inK A00 a0, Row 4 (pl api_Event.enc) noK A01 a1] ++ Glob))
    refine WL.rn 1 [] [(35, .bool x13)] ?_
    refine WL.join (σ := Bool) 5 (fun st => gangwayref28_May.k2 k a0 t1 a1 a2 st = some r) (fun st => [(0, slcV A00 a0.length), (1, slcV A01 a1.length), (2, .int .i64 a2), (6, .bool false), (7, .pointer (some ⟨b3, 0, none⟩)), (40, .bool st)]) (fun st => Sat w Z [(b3, api_Event.o t1)] [] ([Row 21 api_Gate.encS api_Gate.inK A00 a0, Row 4 (pl api_Event.enc) noK A01 a1] ++ Glob)) (fun st hM => ?_) (fun K2 => ?_)
    ·
      obtain ⟨x17, rfl⟩ : ∃ y, y = st := ⟨st, rfl⟩
      replace hM : gangwayref28_May.k2 k a0 t1 a1 a2 x17 = some r := hM
      unfold gangwayref28_May.k2 at hM
      show WL _ _ _ _ _ [(0, slcV A00 a0.length), (1, slcV A01 a1.length), (2, .int .i64 a2), (6, .bool false), (7, .pointer (some ⟨b3, 0, none⟩)), (40, .bool x17)] (Sat w Z [(b3, api_Event.o t1)] [] ([Row 21 api_Gate.encS api_Gate.inK A00 a0, Row 4 (pl api_Event.enc) noK A01 a1] ++ Glob))
      refine WP.done ?_
      refine WP.cond x17 rfl rfl (fun c18 => ?_) (fun c18 => ?_)
      · replace hM := cond_t hM c18
        refine WP.seq ?_
        refine WP.rn [] [(6, .bool true)] ?_
        obtain rfl := Option.some.inj hM
        exact WP.ret [] [] (.bool true) (by kernel_rfl) (fun w' hw => ⟨rfl, (hw.pick [] rfl).lessF [0, 1] (by kernel_rfl)⟩)
      · replace hM := cond_f hM c18
        refine WP.skip ?_
        refine WP.seq ?_
        refine WP.region ?_
        refine WL.rn 2 [0, 0, 0, 0] [(42, slcV A00 a0.length), (43, api_Event.v t1)] ?_
        obtain ⟨⟨r19, r20, r21⟩, h22, hM⟩ := bind_some hM
        dsimp only at hM
        refine WL.callP [] [] (gangwayref28_Of_calls k A00 a0 t1 _ h22) (sub_pick [0] (by kernel_rfl)) (by kernel_rfl) (by kernel_rfl) rfl ?_
        refine WL.rh 8 [1, 1, 1, 1, 1, 1, 1, 1] (fun b23 => [(11, .pointer (some ⟨b23, 0, none⟩)), (12, .bool r21)]) (fun b23 => []) (fun b23 => [(b23, api_Frame.o r20)]) (fun b23 => ?_)
        refine WP.done ?_
        refine WP.kp [false, true] ?_
        refine WP.seq ?_
        refine WP.region ?_
        refine WL.rn 1 [0, 0, 0, 0, 0, 0, 0, 0] [(49, api_Frame.v r20)] ?_
        obtain ⟨⟨r24, r25⟩, h26, hM⟩ := bind_some hM
        dsimp only at hM
        refine WL.callP [] [] (gangwayref05_Of_calls k r20 _ h26) (fun _ h => List.mem_append_right _ h) (by kernel_rfl) (by kernel_rfl) rfl ?_
        refine WL.rh 6 [1, 1, 1, 1, 1] (fun b27 => [(13, .pointer (some ⟨b27, 0, none⟩)), (14, .bool r25)]) (fun b27 => []) (fun b27 => [(b27, api_Arp.o r24)]) (fun b27 => ?_)
        refine WP.done ?_
        refine WP.seq ?_
        refine WP.seq ?_
        refine WP.region ?_
        refine WL.rn 3 [] [(55, .bool (!r21))] ?_
        refine WL.bo 55 (!r21) 3 [] [] (fun b' => [(58, .bool (b' || (!r25)))]) ?_
        refine WL.rn 1 [] [(59, .bool ((!r21) || (!r25)))] ?_
        refine WL.bo 59 ((!r21) || (!r25)) 4 [] [1] (fun b' => [(63, .bool (b' || (r24.Op != 2)))]) ?_
        refine WL.rn 1 [] [(64, .bool (((!r21) || (!r25)) || (r24.Op != 2)))] ?_
        refine WL.bo 64 (((!r21) || (!r25)) || (r24.Op != 2)) 6 [] [1, 0] (fun b' => [(70, .bool (b' || (r24.SMac != r20.Src)))]) ?_
        refine WL.rn 1 [] [(71, .bool ((((!r21) || (!r25)) || (r24.Op != 2)) || (r24.SMac != r20.Src)))] ?_
        refine WL.bo 71 ((((!r21) || (!r25)) || (r24.Op != 2)) || (r24.SMac != r20.Src)) 6 [] [0, 1] (fun b' => [(77, .bool (b' || (r20.Dst != r24.TMac)))]) ?_
        refine WP.done ?_
        refine WP.kp [false, true] ?_
        refine WP.cond (((((!r21) || (!r25)) || (r24.Op != 2)) || (r24.SMac != r20.Src)) || (r20.Dst != r24.TMac)) rfl rfl (fun c28 => ?_) (fun c28 => ?_)
        · replace hM := cond_t hM c28
          refine WP.seq ?_
          refine WP.rn [] [(6, .bool false)] ?_
          obtain rfl := Option.some.inj hM
          exact WP.ret [] [] (.bool false) (by kernel_rfl) (fun w' hw => ⟨rfl, (hw.pick [] rfl).lessF [0, 1] (by kernel_rfl)⟩)
        · replace hM := cond_f hM c28
          refine WP.skip ?_
          refine WP.seq ?_
          refine WP.region ?_
          refine WL.rn 4 [0, 0, 0, 0, 0] [(78, slcV A00 a0.length), (79, slcV A01 a1.length), (80, .int .i64 a2), (81, api_Arp.v r24)] ?_
          obtain ⟨r29, h30, hM⟩ := bind_some hM
          refine WL.callP [] [] (gangwayref28_asked_calls k A00 A01 a0 a1 a2 r24 _ h30) (sub_pick [0, 1] (by kernel_rfl)) (by kernel_rfl) (by kernel_rfl) rfl ?_
          refine WL.rn 1 [] [(83, .bool r29)] ?_
          refine WL.join (σ := Bool) 6 (fun st => gangwayref28_May.k4 st = some r) (fun st => [(6, .bool false), (89, .bool st)]) (fun st => Sat w Z [] [] ([Row 21 api_Gate.encS api_Gate.inK A00 a0, Row 4 (pl api_Event.enc) noK A01 a1] ++ Glob)) (fun st hM => ?_) (fun K4 => ?_)
          ·
            obtain ⟨x34, rfl⟩ : ∃ y, y = st := ⟨st, rfl⟩
            replace hM : gangwayref28_May.k4 x34 = some r := hM
            unfold gangwayref28_May.k4 at hM
            show WL _ _ _ _ _ [(6, .bool false), (89, .bool x34)] (Sat w Z [] [] ([Row 21 api_Gate.encS api_Gate.inK A00 a0, Row 4 (pl api_Event.enc) noK A01 a1] ++ Glob))
            refine WL.rn 1 [] [(6, .bool x34)] ?_
            refine WP.done ?_
            obtain rfl := Option.some.inj hM
            exact WP.ret [] [] (.bool x34) (by kernel_rfl) (fun w' hw => ⟨rfl, (hw.pick [] rfl).lessF [0, 1] (by kernel_rfl)⟩)
          ·
            refine WL.sp 83 r29 (fun c31 => ?_) (fun c31 => ?_)
            · replace hM := cond_t hM c31
              refine WL.rn 4 [0, 0, 0, 0, 0] [(84, slcV A00 a0.length), (85, slcV A01 a1.length), (86, .int .i64 a2), (87, api_Arp.v r24)] ?_
              obtain ⟨r32, h33, hM⟩ := bind_some hM
              refine WL.callP [] [] (gangwayref28_told_calls k A00 A01 a0 a1 a2 r24 _ h33) (sub_pick [0, 1] (by kernel_rfl)) (by kernel_rfl) (by kernel_rfl) rfl ?_
              refine WL.rn 1 [] [(89, .bool r32)] ?_
              exact WL.sub [6, 89] (by kernel_rfl) (WL.pick [] (by kernel_rfl) (by kernel_rfl) (WL.lessF [0, 1] (by kernel_rfl) (K4 r32 hM)))
            · replace hM := cond_f hM c31
              refine WL.rn 6 [] [(89, .bool false)] ?_
              exact WL.sub [6, 89] (by kernel_rfl) (WL.pick [] (by kernel_rfl) (by kernel_rfl) (WL.lessF [0, 1] (by kernel_rfl) (K4 false hM)))
    ·
      refine WL.sp 35 x13 (fun c14 => ?_) (fun c14 => ?_)
      · replace hM := cond_t hM c14
        refine WL.rn 5 [] [(40, .bool true)] ?_
        exact WL.sub [0, 1, 2, 6, 7, 40] (by kernel_rfl) (WL.pick [0] (by kernel_rfl) (by kernel_rfl) (WL.lessF [0, 1] (by kernel_rfl) (K2 true hM)))
      · replace hM := cond_f hM c14
        refine WL.rn 3 [] [(36, slcV A00 a0.length), (37, slcV A01 a1.length), (38, .int .i64 a2)] ?_
        obtain ⟨r15, h16, hM⟩ := bind_some hM
        refine WL.callP [] [] (gangwayref28_carried_calls k A00 A01 a0 a1 a2 _ h16) (sub_pick [0, 1] (by kernel_rfl)) (by kernel_rfl) (by kernel_rfl) rfl ?_
        refine WL.rn 1 [] [(40, .bool r15)] ?_
        exact WL.sub [0, 1, 2, 6, 7, 40] (by kernel_rfl) (WL.pick [0] (by kernel_rfl) (by kernel_rfl) (WL.lessF [0, 1] (by kernel_rfl) (K2 r15 hM)))
  ·
    refine WL.sp 27 t1.In (fun c8 => ?_) (fun c8 => ?_)
    · replace hM := cond_t hM c8
      refine WL.rn 7 [] [(34, .bool true)] ?_
      exact WL.sub [0, 1, 2, 6, 7, 34] (by kernel_rfl) (WL.pick [0] (by kernel_rfl) (by kernel_rfl) (WL.lessF [0, 1] (by kernel_rfl) (K3 true hM)))
    · replace hM := cond_f hM c8
      refine WL.rn 3 [] [(30, .bool (r5 == 0))] ?_
      refine WL.join (σ := Bool) 3 (fun st => gangwayref28_May.k1 k a0 t1 a1 a2 st = some r) (fun st => [(0, slcV A00 a0.length), (1, slcV A01 a1.length), (2, .int .i64 a2), (6, .bool false), (7, .pointer (some ⟨b3, 0, none⟩)), (27, .bool false), (33, .bool st)]) (fun st => Sat w Z [(b3, api_Event.o t1)] [] ([Row 21 api_Gate.encS api_Gate.inK A00 a0, Row 4 (pl api_Event.enc) noK A01 a1] ++ Glob)) (fun st hM => ?_) (fun K1 => ?_)
      ·
        obtain ⟨x12, rfl⟩ : ∃ y, y = st := ⟨st, rfl⟩
        replace hM : gangwayref28_May.k1 k a0 t1 a1 a2 x12 = some r := hM
        unfold gangwayref28_May.k1 at hM
        show WL _ _ _ _ _ [(0, slcV A00 a0.length), (1, slcV A01 a1.length), (2, .int .i64 a2), (6, .bool false), (7, .pointer (some ⟨b3, 0, none⟩)), (27, .bool false), (33, .bool x12)] (Sat w Z [(b3, api_Event.o t1)] [] ([Row 21 api_Gate.encS api_Gate.inK A00 a0, Row 4 (pl api_Event.enc) noK A01 a1] ++ Glob))
        refine WL.rn 1 [] [(34, .bool x12)] ?_
        exact WL.sub [0, 1, 2, 6, 7, 34] (by kernel_rfl) (WL.pick [0] (by kernel_rfl) (by kernel_rfl) (WL.lessF [0, 1] (by kernel_rfl) (K3 x12 hM)))
      ·
        refine WL.sp 30 (r5 == 0) (fun c9 => ?_) (fun c9 => ?_)
        · replace hM := cond_t hM c9
          refine WL.rn 1 [1, 1, 1, 1, 1, 1, 1, 1] [(31, api_Frame.v r4)] ?_
          obtain ⟨r10, h11, hM⟩ := bind_some hM
          refine WL.callP [] [] (gangwayref17_Mine_calls r4 _ h11) (fun _ h => List.mem_append_right _ h) (by kernel_rfl) (by kernel_rfl) rfl ?_
          refine WL.rn 1 [] [(33, .bool r10)] ?_
          exact WL.sub [0, 1, 2, 6, 7, 27, 33] (by kernel_rfl) (WL.pick [0] (by kernel_rfl) (by kernel_rfl) (WL.lessF [0, 1] (by kernel_rfl) (K1 r10 hM)))
        · replace hM := cond_f hM c9
          refine WL.rn 3 [] [(33, .bool false)] ?_
          exact WL.sub [0, 1, 2, 6, 7, 27, 33] (by kernel_rfl) (WL.pick [0] (by kernel_rfl) (by kernel_rfl) (WL.lessF [0, 1] (by kernel_rfl) (K1 false hM)))

end Go.Proofs.YtbbekdmndifkpaaGreatDoor

namespace Go.Proofs.YtbbekdmndifkpaaGreatDoor
open Go Eng
set_option linter.unusedVariables false
set_option linter.unusedSimpArgs false

/-! ### gangway/gangwaylaw28.TraceTwice: function 4 -/
def gangwaylaw28_TraceTwice.k1 (x11 : Bool) : Option (Bool) :=
  some x11

def gangwaylaw28_TraceTwice.k2 (x30 : Bool) : Option (Bool) :=
  some x30

def gangwaylaw28_TraceTwice.k3 (x38 : Bool) : Option (Bool) :=
  some x38

def gangwaylaw28_TraceTwice.k4 (k : Nat) (x34 : Bool) : Option (Bool) :=
  bif x34 then
    (gangwaylaw28_fixed.f k).bind fun r36 =>
    gangwaylaw28_TraceTwice.k3 r36
  else
    gangwaylaw28_TraceTwice.k3 false

def gangwaylaw28_TraceTwice.f (k : Nat) (a0 : (List api_Gate)) (a1 : (List api_Event)) (a2 : Int) : Option (Bool) :=
  (gangwaylaw28_bound.f k a0 a1).bind fun (r1, r2) =>
  (trace_First.f k r1 r2).bind fun r5 =>
  bif ((r2.length : Int) == 0) then
    bif (r5 == (-1)) then
      (gangwaylaw28_fixed.f k).bind fun r9 =>
      gangwaylaw28_TraceTwice.k1 r9
    else
      gangwaylaw28_TraceTwice.k1 false
  else
    (remI (bAnd .i64 a2 65535) (r2.length : Int)).bind fun t12 =>
    (roomL 40 r2.length).bind fun u16 =>
    (getL r2.length r2 t12).bind fun t18 =>
    (roomL 40 (r2 ++ ([t18] : List api_Event)).length).bind fun u22 =>
    (trace_First.f k r1 (r2 ++ ([t18] : List api_Event))).bind fun r24 =>
    bif decide (r5 ≥ 0) then
      bif (r24 == r5) then
        (gangwaylaw28_fixed.f k).bind fun r28 =>
        gangwaylaw28_TraceTwice.k2 r28
      else
        gangwaylaw28_TraceTwice.k2 false
    else
      bif (r24 == (-1)) then
        (gangwayref28_May.f k r1 (r2 ++ ([t18] : List api_Event)) (r2.length : Int)).bind fun r32 =>
        gangwaylaw28_TraceTwice.k4 k r32
      else
        gangwaylaw28_TraceTwice.k4 k false

set_option maxRecDepth 100000 in
theorem gangwaylaw28_TraceTwice_calls (k : Nat) (A00 : SkL ((SkL (SkL Unit)) × (SkL Unit) × (SkL (SkL Unit)) × (SkL Unit))) (A01 : SkL Unit) (a0 : (List api_Gate)) (a1 : (List api_Event)) (a2 : Int) (r : Bool) (h : gangwaylaw28_TraceTwice.f k a0 a1 a2 = some r) : Pure Tryz.prog ([Row 21 api_Gate.encS api_Gate.inK A00 a0, Row 4 (pl api_Event.enc) noK A01 a1] ++ Glob) 4 #[slcV A00 a0.length, slcV A01 a1.length, .int .i64 a2] (.bool r) := by
  intro w Z hS
  refine calls_of (args := [slcV A00 a0.length, slcV A01 a1.length, .int .i64 a2]) (L := [(0, slcV A00 a0.length), (1, slcV A01 a1.length), (2, .int .i64 a2)]) (N := 68) (S := Sat w Z [] [] ([Row 21 api_Gate.encS api_Gate.inK A00 a0, Row 4 (pl api_Event.enc) noK A01 a1] ++ Glob)) Tryz.func4 rfl rfl (Nat.le_of_ble_eq_true rfl) rfl hS ?_
  have hM := h
  clear h hS
  unfold gangwaylaw28_TraceTwice.f at hM
  refine WP.seq ?_
  refine WP.rn [] [(6, .bool false)] ?_
  refine WP.seq ?_
  refine WP.region ?_
  refine WL.rn 2 [] [(14, slcV A00 a0.length), (15, slcV A01 a1.length)] ?_
  obtain ⟨⟨r1, r2⟩, h3, hM⟩ := bind_some hM
  dsimp only at hM
  refine WL.callX (F0 := [Row 21 api_Gate.encS api_Gate.inK A00 a0, Row 4 (pl api_Event.enc) noK A01 a1]) [] [] [] (fun _ => _) [0, 1] (by kernel_rfl) (gangwaylaw28_bound_calls k A00 A01 a0 a1 _ h3) rfl rfl (by kernel_rfl) (by kernel_rfl) (fun _ => rfl) (fun A4 => ?_)
  refine WL.rn 5 [] [(7, slcV A4.1 r1.length), (8, slcV A4.2 r2.length)] ?_
  refine WP.done ?_
  refine WP.seq ?_
  refine WP.region ?_
  refine WL.rn 2 [] [(19, slcV A4.1 r1.length), (20, slcV A4.2 r2.length)] ?_
  obtain ⟨r5, h6, hM⟩ := bind_some hM
  refine WL.callP [] [] (trace_First_calls k A4.1 A4.2 r1 r2 _ h6) (sub_pick [0, 1] (by kernel_rfl)) (by kernel_rfl) (by kernel_rfl) rfl ?_
  refine WL.rn 1 [] [(9, .int .i64 r5)] ?_
  refine WP.done ?_
  refine WP.seq ?_
  refine WP.seq ?_
  refine WP.rn [] [(24, .bool ((r2.length : Int) == 0))] ?_
  refine WP.cond ((r2.length : Int) == 0) rfl rfl (fun c7 => ?_) (fun c7 => ?_)
  · replace hM := cond_t hM c7
    refine WP.seq ?_
    refine WP.region ?_
    refine WL.rn 3 [] [(27, .bool (r5 == (-1)))] ?_
    refine WL.join (σ := Bool) 2 (fun st => gangwaylaw28_TraceTwice.k1 st = some r) (fun st => [(2, .int .i64 a2), (6, .bool false), (7, slcV A4.1 r1.length), (8, slcV A4.2 r2.length), (9, .int .i64 r5), (29, .bool st)]) (fun st => Sat w Z [] [] ([Row 21 api_Gate.encS api_Gate.inK A4.1 r1, Row 4 (pl api_Event.enc) noK A4.2 r2, Row 21 api_Gate.encS api_Gate.inK A00 a0, Row 4 (pl api_Event.enc) noK A01 a1] ++ Glob)) (fun st hM => ?_) (fun K1 => ?_)
    ·
      obtain ⟨x11, rfl⟩ : ∃ y, y = st := ⟨st, rfl⟩
      replace hM : gangwaylaw28_TraceTwice.k1 x11 = some r := hM
      unfold gangwaylaw28_TraceTwice.k1 at hM
      show WL _ _ _ _ _ [(2, .int .i64 a2), (6, .bool false), (7, slcV A4.1 r1.length), (8, slcV A4.2 r2.length), (9, .int .i64 r5), (29, .bool x11)] (Sat w Z [] [] ([Row 21 api_Gate.encS api_Gate.inK A4.1 r1, Row 4 (pl api_Event.enc) noK A4.2 r2, Row 21 api_Gate.encS api_Gate.inK A00 a0, Row 4 (pl api_Event.enc) noK A01 a1] ++ Glob))
      refine WL.rn 1 [] [(6, .bool x11)] ?_
      refine WP.done ?_
      obtain rfl := Option.some.inj hM
      exact WP.ret [] [] (.bool x11) (by kernel_rfl) (fun w' hw => ⟨rfl, (hw.pick [] rfl).lessF [2, 3] (by kernel_rfl)⟩)
    ·
      refine WL.sp 27 (r5 == (-1)) (fun c8 => ?_) (fun c8 => ?_)
      · replace hM := cond_t hM c8
        obtain ⟨r9, h10, hM⟩ := bind_some hM
        refine WL.callP [] [] (gangwaylaw28_fixed_calls k _ h10) (fun _ h => List.mem_append_right _ h) (by kernel_rfl) (by kernel_rfl) rfl ?_
        refine WL.rn 1 [] [(29, .bool r9)] ?_
        exact WL.sub [2, 6, 7, 8, 9, 29] (by kernel_rfl) (WL.pick [] (by kernel_rfl) (by kernel_rfl) (WL.lessF [0, 1, 2, 3] (by kernel_rfl) (K1 r9 hM)))
      · replace hM := cond_f hM c8
        refine WL.rn 2 [] [(29, .bool false)] ?_
        exact WL.sub [2, 6, 7, 8, 9, 29] (by kernel_rfl) (WL.pick [] (by kernel_rfl) (by kernel_rfl) (WL.lessF [0, 1, 2, 3] (by kernel_rfl) (K1 false hM)))
  · replace hM := cond_f hM c7
    refine WP.skip ?_
    refine WP.seq ?_
    refine WP.region ?_
    refine WL.rn 4 [] [(31, .int .i64 (bAnd .i64 a2 65535)), (33, .int .i64 (r2.length : Int))] ?_
    obtain ⟨t12, h13, hM⟩ := bind_some hM
    refine WL.val (fun _ => run_rem (k := .i64) (a := bAnd .i64 a2 65535) (b := (r2.length : Int)) (by kernel_rfl) (by kernel_rfl) h13) (by kernel_rfl) (by kernel_rfl) rfl ?_
    refine WL.rn 1 [] [(10, .int .i64 t12)] ?_
    refine WP.done ?_
    refine WP.seq ?_
    refine WP.region ?_
    refine WL.rh 2 [] (fun b14 => [(35, .slice (some ⟨b14, 0, none⟩) 0 0), (36, slcV A4.2 r2.length)]) (fun b14 => []) (fun b14 => [(b14, .cells #[] 28 (0, 0))]) (fun b14 => ?_)
    refine WL.growLit (H' := []) (m := 4) (e := 28) (f := (pl api_Event.enc)) noK 0 (b := b14) (cs := #[]) (fun _ => ()) ([] : List api_Event) (by kernel_rfl) (fun _ _ => rfl) (by kernel_rfl) (by decide) [] [] (by kernel_rfl) (fun w hψ => (InK.no _ _)) (by kernel_rfl) ?_
    obtain ⟨u16, h15, hM⟩ := bind_some hM
    refine WL.growApp (G' := []) (A := (SkL.at b14 0 (fun _ => ()))) (B := A4.2) (xs := ([] : List api_Event)) (ys := r2) (m := 4) (by_ := 40) (e := 28) (z := .agg #[.bool false, .int .i64 0, .int .i64 0, .string (⟨#[]⟩ : ByteArray)]) (f := (pl api_Event.enc)) (K := noK) (d := 37) 0 rfl rfl (by kernel_rfl) (by kernel_rfl) (by kernel_rfl) (by kernel_rfl) (by kernel_rfl) (fun _ _ => rfl) (fun _ _ => rfl) (by kernel_rfl) (by kernel_rfl) (by kernel_rfl) (by kernel_rfl) (by kernel_rfl) (fact_at 0 rfl) (fact_at 2 rfl) h15 (by kernel_rfl) (fun A17 => ?_)
    refine WL.less (Φ' := [GIn noK A17 r2, GIn noK (SkL.at b14 0 (fun _ => ())) ([] : List api_Event), Row 21 api_Gate.encS api_Gate.inK A4.1 r1, Row 4 (pl api_Event.enc) noK A4.2 r2, Row 21 api_Gate.encS api_Gate.inK A00 a0, Row 4 (pl api_Event.enc) noK A01 a1] ++ Glob) (fun _ h => h) ?_
    refine WL.rn 1 [] [(11, slcV A17 r2.length)] ?_
    refine WP.done ?_
    refine WP.seq ?_
    refine WP.region ?_
    refine WL.rn 3 [] [(38, slcV A17 r2.length), (39, slcV A4.2 r2.length), (40, .int .i64 t12)] ?_
    obtain ⟨t18, h19, hM⟩ := bind_some hM
    refine WL.valF (φ := Row 4 (pl api_Event.enc) noK A4.2 r2) (fact_at 3 rfl) (fun w hR => run_indexRowF (A := A4.2) (xs := r2) (i := t12) (k := .i64) (e := 28) (m := 4) (by kernel_rfl) (by kernel_rfl) h19 (by kernel_rfl) (by kernel_rfl) hR) (by kernel_rfl) (by kernel_rfl) rfl ?_
    refine WL.valF (φ := Row 4 (pl api_Event.enc) noK A4.2 r2) (fact_at 3 rfl) (fun w hR => run_loadRowFA (A := A4.2) (xs := r2) (i := t12) (j := 0) (n := 4) (vs := [.bool t18.In, .int .i64 t18.Gate, .int .i64 t18.Port, .string t18.S]) h19 (fun _ => by kernel_rfl) (by kernel_rfl) (by kernel_rfl) (by kernel_rfl) rfl hR) (by kernel_rfl) (by kernel_rfl) rfl ?_
    refine WL.rh 1 [] (fun b20 => [(43, .slice (some ⟨b20, 0, none⟩) 1 1)]) (fun b20 => []) (fun b20 => [(b20, api_Event.o t18)]) (fun b20 => ?_)
    refine WL.ice (H' := []) (Row 4 (pl api_Event.enc) noK (SkL.at b20 1 (fun _ => ())) ([t18] : List api_Event)) 0 (b := b20) (ob := api_Event.o t18) (by kernel_rfl) [] [] (by kernel_rfl) (fun w hb hψ => row_of_block hb (fun _ _ => rfl) ⟨[], by kernel_rfl⟩ (Nat.le_of_ble_eq_true rfl) (InK.no _ _)) (by kernel_rfl) ?_
    obtain ⟨u22, h21, hM⟩ := bind_some hM
    refine WL.growApp (G' := []) (A := A17) (B := (SkL.at b20 1 (fun _ => ()))) (xs := r2) (ys := ([t18] : List api_Event)) (m := 4) (by_ := 40) (e := 28) (z := .agg #[.bool false, .int .i64 0, .int .i64 0, .string (⟨#[]⟩ : ByteArray)]) (f := (pl api_Event.enc)) (K := noK) (d := 44) 0 rfl rfl (by kernel_rfl) (by kernel_rfl) (by kernel_rfl) (by kernel_rfl) (by kernel_rfl) (fun _ _ => rfl) (fun _ _ => rfl) (by kernel_rfl) (by kernel_rfl) (by kernel_rfl) (by kernel_rfl) (by kernel_rfl) (fact_at 1 rfl) (fact_at 0 rfl) h21 (by kernel_rfl) (fun A23 => ?_)
    refine WL.less (Φ' := [GIn noK A23 (r2 ++ ([t18] : List api_Event)), Row 4 (pl api_Event.enc) noK (SkL.at b20 1 (fun _ => ())) ([t18] : List api_Event), GIn noK A17 r2, GIn noK (SkL.at b14 0 (fun _ => ())) ([] : List api_Event), Row 21 api_Gate.encS api_Gate.inK A4.1 r1, Row 4 (pl api_Event.enc) noK A4.2 r2, Row 21 api_Gate.encS api_Gate.inK A00 a0, Row 4 (pl api_Event.enc) noK A01 a1] ++ Glob) (fun _ h => h) ?_
    refine WL.rn 1 [] [(11, slcV A23 (r2 ++ ([t18] : List api_Event)).length)] ?_
    refine WP.done ?_
    refine WP.seq ?_
    refine WP.region ?_
    refine WL.rn 2 [] [(45, slcV A4.1 r1.length), (46, slcV A23 (r2 ++ ([t18] : List api_Event)).length)] ?_
    refine WL.growIce (G' := []) (m := 4) (e := 28) (f := (pl api_Event.enc)) (K := noK) (A := A23) (xs := (r2 ++ ([t18] : List api_Event))) 0 0 (by kernel_rfl) (by kernel_rfl) (fun _ _ => rfl) (by kernel_rfl) ?_
    obtain ⟨r24, h25, hM⟩ := bind_some hM
    refine WL.callP [] [] (trace_First_calls k A4.1 A23 r1 (r2 ++ ([t18] : List api_Event)) _ h25) (sub_pick [5, 0] (by kernel_rfl)) (by kernel_rfl) (by kernel_rfl) rfl ?_
    refine WL.rn 1 [] [(12, .int .i64 r24)] ?_
    refine WP.done ?_
    refine WP.seq ?_
    refine WP.seq ?_
    refine WP.rn [] [(49, .bool (decide (r5 ≥ 0)))] ?_
    refine WP.cond (decide (r5 ≥ 0)) rfl rfl (fun c26 => ?_) (fun c26 => ?_)
    · replace hM := cond_t hM c26
      refine WP.seq ?_
      refine WP.region ?_
      refine WL.rn 4 [] [(53, .bool (r24 == r5))] ?_
      refine WL.join (σ := Bool) 2 (fun st => gangwaylaw28_TraceTwice.k2 st = some r) (fun st => [(6, .bool false), (7, slcV A4.1 r1.length), (8, slcV A4.2 r2.length), (11, slcV A23 (r2 ++ ([t18] : List api_Event)).length), (12, .int .i64 r24), (55, .bool st)]) (fun st => Sat w Z [] [] ([Row 4 (pl api_Event.enc) noK A23 (r2 ++ ([t18] : List api_Event)), GIn noK A23 (r2 ++ ([t18] : List api_Event)), Row 4 (pl api_Event.enc) noK (SkL.at b20 1 (fun _ => ())) ([t18] : List api_Event), GIn noK A17 r2, GIn noK (SkL.at b14 0 (fun _ => ())) ([] : List api_Event), Row 21 api_Gate.encS api_Gate.inK A4.1 r1, Row 4 (pl api_Event.enc) noK A4.2 r2, Row 21 api_Gate.encS api_Gate.inK A00 a0, Row 4 (pl api_Event.enc) noK A01 a1] ++ Glob)) (fun st hM => ?_) (fun K2 => ?_)
      ·
        obtain ⟨x30, rfl⟩ : ∃ y, y = st := ⟨st, rfl⟩
        replace hM : gangwaylaw28_TraceTwice.k2 x30 = some r := hM
        unfold gangwaylaw28_TraceTwice.k2 at hM
        show WL _ _ _ _ _ [(6, .bool false), (7, slcV A4.1 r1.length), (8, slcV A4.2 r2.length), (11, slcV A23 (r2 ++ ([t18] : List api_Event)).length), (12, .int .i64 r24), (55, .bool x30)] (Sat w Z [] [] ([Row 4 (pl api_Event.enc) noK A23 (r2 ++ ([t18] : List api_Event)), GIn noK A23 (r2 ++ ([t18] : List api_Event)), Row 4 (pl api_Event.enc) noK (SkL.at b20 1 (fun _ => ())) ([t18] : List api_Event), GIn noK A17 r2, GIn noK (SkL.at b14 0 (fun _ => ())) ([] : List api_Event), Row 21 api_Gate.encS api_Gate.inK A4.1 r1, Row 4 (pl api_Event.enc) noK A4.2 r2, Row 21 api_Gate.encS api_Gate.inK A00 a0, Row 4 (pl api_Event.enc) noK A01 a1] ++ Glob))
        refine WL.rn 1 [] [(6, .bool x30)] ?_
        refine WP.done ?_
        obtain rfl := Option.some.inj hM
        exact WP.ret [] [] (.bool x30) (by kernel_rfl) (fun w' hw => ⟨rfl, (hw.pick [] rfl).lessF [7, 8] (by kernel_rfl)⟩)
      ·
        refine WL.sp 53 (r24 == r5) (fun c27 => ?_) (fun c27 => ?_)
        · replace hM := cond_t hM c27
          obtain ⟨r28, h29, hM⟩ := bind_some hM
          refine WL.callP [] [] (gangwaylaw28_fixed_calls k _ h29) (fun _ h => List.mem_append_right _ h) (by kernel_rfl) (by kernel_rfl) rfl ?_
          refine WL.rn 1 [] [(55, .bool r28)] ?_
          exact WL.sub [6, 7, 8, 11, 12, 55] (by kernel_rfl) (WL.pick [] (by kernel_rfl) (by kernel_rfl) (WL.lessF [0, 1, 2, 3, 4, 5, 6, 7, 8] (by kernel_rfl) (K2 r28 hM)))
        · replace hM := cond_f hM c27
          refine WL.rn 2 [] [(55, .bool false)] ?_
          exact WL.sub [6, 7, 8, 11, 12, 55] (by kernel_rfl) (WL.pick [] (by kernel_rfl) (by kernel_rfl) (WL.lessF [0, 1, 2, 3, 4, 5, 6, 7, 8] (by kernel_rfl) (K2 false hM)))
    · replace hM := cond_f hM c26
      refine WP.skip ?_
      refine WP.seq ?_
      refine WP.region ?_
      refine WL.rn 3 [] [(58, .bool (r24 == (-1)))] ?_
      refine WL.join (σ := Bool) 6 (fun st => gangwaylaw28_TraceTwice.k4 k st = some r) (fun st => [(6, .bool false), (64, .bool st)]) (fun st => Sat w Z [] [] ([Row 4 (pl api_Event.enc) noK A23 (r2 ++ ([t18] : List api_Event)), GIn noK A23 (r2 ++ ([t18] : List api_Event)), Row 4 (pl api_Event.enc) noK (SkL.at b20 1 (fun _ => ())) ([t18] : List api_Event), GIn noK A17 r2, GIn noK (SkL.at b14 0 (fun _ => ())) ([] : List api_Event), Row 21 api_Gate.encS api_Gate.inK A4.1 r1, Row 4 (pl api_Event.enc) noK A4.2 r2, Row 21 api_Gate.encS api_Gate.inK A00 a0, Row 4 (pl api_Event.enc) noK A01 a1] ++ Glob)) (fun st hM => ?_) (fun K4 => ?_)
      ·
        obtain ⟨x34, rfl⟩ : ∃ y, y = st := ⟨st, rfl⟩
        replace hM : gangwaylaw28_TraceTwice.k4 k x34 = some r := hM
        unfold gangwaylaw28_TraceTwice.k4 at hM
        show WL _ _ _ _ _ [(6, .bool false), (64, .bool x34)] (Sat w Z [] [] ([Row 4 (pl api_Event.enc) noK A23 (r2 ++ ([t18] : List api_Event)), GIn noK A23 (r2 ++ ([t18] : List api_Event)), Row 4 (pl api_Event.enc) noK (SkL.at b20 1 (fun _ => ())) ([t18] : List api_Event), GIn noK A17 r2, GIn noK (SkL.at b14 0 (fun _ => ())) ([] : List api_Event), Row 21 api_Gate.encS api_Gate.inK A4.1 r1, Row 4 (pl api_Event.enc) noK A4.2 r2, Row 21 api_Gate.encS api_Gate.inK A00 a0, Row 4 (pl api_Event.enc) noK A01 a1] ++ Glob))
        refine WL.rn 1 [] [(65, .bool x34)] ?_
        refine WL.join (σ := Bool) 2 (fun st => gangwaylaw28_TraceTwice.k3 st = some r) (fun st => [(6, .bool false), (67, .bool st)]) (fun st => Sat w Z [] [] ([Row 4 (pl api_Event.enc) noK A23 (r2 ++ ([t18] : List api_Event)), GIn noK A23 (r2 ++ ([t18] : List api_Event)), Row 4 (pl api_Event.enc) noK (SkL.at b20 1 (fun _ => ())) ([t18] : List api_Event), GIn noK A17 r2, GIn noK (SkL.at b14 0 (fun _ => ())) ([] : List api_Event), Row 21 api_Gate.encS api_Gate.inK A4.1 r1, Row 4 (pl api_Event.enc) noK A4.2 r2, Row 21 api_Gate.encS api_Gate.inK A00 a0, Row 4 (pl api_Event.enc) noK A01 a1] ++ Glob)) (fun st hM => ?_) (fun K3 => ?_)
        ·
          obtain ⟨x38, rfl⟩ : ∃ y, y = st := ⟨st, rfl⟩
          replace hM : gangwaylaw28_TraceTwice.k3 x38 = some r := hM
          unfold gangwaylaw28_TraceTwice.k3 at hM
          show WL _ _ _ _ _ [(6, .bool false), (67, .bool x38)] (Sat w Z [] [] ([Row 4 (pl api_Event.enc) noK A23 (r2 ++ ([t18] : List api_Event)), GIn noK A23 (r2 ++ ([t18] : List api_Event)), Row 4 (pl api_Event.enc) noK (SkL.at b20 1 (fun _ => ())) ([t18] : List api_Event), GIn noK A17 r2, GIn noK (SkL.at b14 0 (fun _ => ())) ([] : List api_Event), Row 21 api_Gate.encS api_Gate.inK A4.1 r1, Row 4 (pl api_Event.enc) noK A4.2 r2, Row 21 api_Gate.encS api_Gate.inK A00 a0, Row 4 (pl api_Event.enc) noK A01 a1] ++ Glob))
          refine WL.rn 1 [] [(6, .bool x38)] ?_
          refine WP.done ?_
          obtain rfl := Option.some.inj hM
          exact WP.ret [] [] (.bool x38) (by kernel_rfl) (fun w' hw => ⟨rfl, (hw.pick [] rfl).lessF [7, 8] (by kernel_rfl)⟩)
        ·
          refine WL.sp 65 x34 (fun c35 => ?_) (fun c35 => ?_)
          · replace hM := cond_t hM c35
            obtain ⟨r36, h37, hM⟩ := bind_some hM
            refine WL.callP [] [] (gangwaylaw28_fixed_calls k _ h37) (fun _ h => List.mem_append_right _ h) (by kernel_rfl) (by kernel_rfl) rfl ?_
            refine WL.rn 1 [] [(67, .bool r36)] ?_
            exact WL.sub [6, 67] (by kernel_rfl) (WL.pick [] (by kernel_rfl) (by kernel_rfl) (WL.lessF [0, 1, 2, 3, 4, 5, 6, 7, 8] (by kernel_rfl) (K3 r36 hM)))
          · replace hM := cond_f hM c35
            refine WL.rn 2 [] [(67, .bool false)] ?_
            exact WL.sub [6, 67] (by kernel_rfl) (WL.pick [] (by kernel_rfl) (by kernel_rfl) (WL.lessF [0, 1, 2, 3, 4, 5, 6, 7, 8] (by kernel_rfl) (K3 false hM)))
      ·
        refine WL.sp 58 (r24 == (-1)) (fun c31 => ?_) (fun c31 => ?_)
        · replace hM := cond_t hM c31
          refine WL.rn 4 [] [(59, slcV A4.1 r1.length), (60, slcV A23 (r2 ++ ([t18] : List api_Event)).length), (62, .int .i64 (r2.length : Int))] ?_
          obtain ⟨r32, h33, hM⟩ := bind_some hM
          refine WL.callP [] [] (gangwayref28_May_calls k A4.1 A23 r1 (r2 ++ ([t18] : List api_Event)) (r2.length : Int) _ h33) (sub_pick [5, 0] (by kernel_rfl)) (by kernel_rfl) (by kernel_rfl) rfl ?_
          refine WL.rn 1 [] [(64, .bool r32)] ?_
          exact WL.sub [6, 64] (by kernel_rfl) (WL.pick [] (by kernel_rfl) (by kernel_rfl) (WL.lessF [0, 1, 2, 3, 4, 5, 6, 7, 8] (by kernel_rfl) (K4 r32 hM)))
        · replace hM := cond_f hM c31
          refine WL.rn 6 [] [(64, .bool false)] ?_
          exact WL.sub [6, 64] (by kernel_rfl) (WL.pick [] (by kernel_rfl) (by kernel_rfl) (WL.lessF [0, 1, 2, 3, 4, 5, 6, 7, 8] (by kernel_rfl) (K4 false hM)))

end Go.Proofs.YtbbekdmndifkpaaGreatDoor
