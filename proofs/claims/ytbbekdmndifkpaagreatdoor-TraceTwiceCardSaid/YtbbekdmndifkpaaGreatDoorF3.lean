/- The walks of the functions that the laws reach: each shows that a call returns what its plain model says, wherever the model gives an answer. -/
import Derived.Test.YtbbekdmndifkpaaGreatDoorF1
import Derived.Test.YtbbekdmndifkpaaGreatDoorF2

namespace Go.Proofs.YtbbekdmndifkpaaGreatDoor
open Go Eng
set_option linter.unusedVariables false
set_option linter.unusedSimpArgs false

/-! ### gangway/trace.of: function 14 -/
def trace_of.f (k : Nat) (a0 : (List api_Gate)) (a1 : api_Event) : Option (trace_seen) :=
  (ether_Parse.f k a1.S).bind fun (r3, r4) =>
  bif (((r4 != 0) || (decide (a1.Gate < 1))) || (decide (a1.Gate > (a0.length : Int)))) then
    some (trace_seen.mk a1 0 (api_Frame.mk 0 0 (api_Tag.mk false 0 false 0) 0 (⟨#[]⟩ : ByteArray)) false)
  else
    (getL a0.length a0 (i64 (a1.Gate - 1))).bind fun t8 =>
    bif ((decide (a1.Port < 1)) || (decide (a1.Port > (t8.Ports.length : Int)))) then
      some (trace_seen.mk a1 0 (api_Frame.mk 0 0 (api_Tag.mk false 0 false 0) 0 (⟨#[]⟩ : ByteArray)) false)
    else
      (getL t8.Ports.length t8.Ports (i64 (a1.Port - 1))).bind fun t12 =>
      (vlan_In.f k t12.Trunk t12.Pvid t12.Vids r3).bind fun (r14, r15, r16) =>
      some (trace_seen.mk a1 r14 r15 r16)

set_option maxRecDepth 100000 in
theorem trace_of_calls (k : Nat) (A00 : SkL ((SkL (SkL Unit)) × (SkL Unit) × (SkL (SkL Unit)) × (SkL Unit))) (a0 : (List api_Gate)) (a1 : api_Event) (r : trace_seen) (h : trace_of.f k a0 a1 = some r) : Pure Tryz.prog ([Row 21 api_Gate.encS api_Gate.inK A00 a0] ++ Glob) 14 #[slcV A00 a0.length, api_Event.v a1] (trace_seen.v r) := by
  intro w Z hS
  refine calls_of (args := [slcV A00 a0.length, api_Event.v a1]) (L := [(0, slcV A00 a0.length), (1, api_Event.v a1)]) (N := 66) (S := Sat w Z [] [] ([Row 21 api_Gate.encS api_Gate.inK A00 a0] ++ Glob)) Tryz.func14 rfl rfl (Nat.le_of_ble_eq_true rfl) rfl hS ?_
  have hM := h
  clear h hS
  unfold trace_of.f at hM
  refine WP.seq ?_
  refine WP.rh [] (fun b1 => [(3, .pointer (some ⟨b1, 0, none⟩)), (4, .pointer (some ⟨(b1 + 1), 0, none⟩))]) (fun b1 => []) (fun b1 => [(b1, api_Event.o a1), ((b1 + 1), .cells #[.bool false, .int .i64 0, .int .i64 0, .string (⟨#[]⟩ : ByteArray), .int .i64 0, .int .u64 0, .int .u64 0, .bool false, .int .i64 0, .bool false, .int .i64 0, .int .i64 0, .string (⟨#[]⟩ : ByteArray), .bool false] 42 (0, 0))]) (fun b1 => ?_)
  refine WP.seq ?_
  refine WP.rh [0, 0, 0, 0, 2, 2, 2, 2, 2, 2, 2, 2, 2, 2, 2, 2, 2, 2] (fun b2 => [(5, .pointer (some ⟨b2, 0, none⟩))]) (fun b2 => []) (fun b2 => [(b2, .cells #[.bool a1.In, .int .i64 a1.Gate, .int .i64 a1.Port, .string a1.S, .int .i64 0, .int .u64 0, .int .u64 0, .bool false, .int .i64 0, .bool false, .int .i64 0, .int .i64 0, .string (⟨#[]⟩ : ByteArray), .bool false] 42 (0, 0))]) (fun b2 => ?_)
  refine WP.seq ?_
  refine WP.region ?_
  refine WL.rn 2 [0] [(13, .string a1.S)] ?_
  obtain ⟨⟨r3, r4⟩, h5, hM⟩ := bind_some hM
  dsimp only at hM
  refine WL.callP [] [] (ether_Parse_calls k a1.S _ h5) (fun _ h => List.mem_append_right _ h) (by kernel_rfl) (by kernel_rfl) rfl ?_
  refine WL.rh 6 [3, 3, 3, 3, 3, 3, 3, 3] (fun b6 => [(6, .pointer (some ⟨b6, 0, none⟩)), (7, .int .i64 r4)]) (fun b6 => []) (fun b6 => [(b6, api_Frame.o r3)]) (fun b6 => ?_)
  refine WP.done ?_
  refine WP.seq ?_
  refine WP.seq ?_
  refine WP.region ?_
  refine WL.rn 3 [] [(19, .bool (r4 != 0))] ?_
  refine WL.bo 19 (r4 != 0) 4 [] [0] (fun b' => [(23, .bool (b' || (decide (a1.Gate < 1))))]) ?_
  refine WL.rn 1 [] [(24, .bool ((r4 != 0) || (decide (a1.Gate < 1))))] ?_
  refine WL.bo 24 ((r4 != 0) || (decide (a1.Gate < 1))) 6 [] [0] (fun b' => [(30, .bool (b' || (decide (a1.Gate > (a0.length : Int)))))]) ?_
  refine WP.done ?_
  refine WP.cond (((r4 != 0) || (decide (a1.Gate < 1))) || (decide (a1.Gate > (a0.length : Int)))) rfl rfl (fun c7 => ?_) (fun c7 => ?_)
  · replace hM := cond_t hM c7
    refine WP.seq ?_
    refine WP.rh [2, 2, 2, 2, 2, 2, 2, 2, 2, 2, 2, 2, 2, 2, 1, 1, 1, 1, 1, 1, 1, 1, 1, 1, 1, 1, 1, 1] (fun _ => []) (fun _ => [(1, 0, [.bool a1.In, .int .i64 a1.Gate, .int .i64 a1.Port, .string a1.S])]) (fun _ => []) (fun _ => ?_)
    obtain rfl := Option.some.inj hM
    exact WP.ret [1, 1, 1, 1, 1, 1, 1, 1, 1, 1, 1, 1, 1, 1] [(b1 + 1), (b1 + 1), (b1 + 1), (b1 + 1), (b1 + 1), (b1 + 1), (b1 + 1), (b1 + 1), (b1 + 1), (b1 + 1), (b1 + 1), (b1 + 1), (b1 + 1), (b1 + 1)] (.agg #[.bool a1.In, .int .i64 a1.Gate, .int .i64 a1.Port, .string a1.S, .int .i64 0, .int .u64 0, .int .u64 0, .bool false, .int .i64 0, .bool false, .int .i64 0, .int .i64 0, .string (⟨#[]⟩ : ByteArray), .bool false]) (by kernel_rfl) (fun w' hw => ⟨rfl, (hw.pick [] rfl).lessF [0] (by kernel_rfl)⟩)
  · replace hM := cond_f hM c7
    refine WP.skip ?_
    refine WP.seq ?_
    refine WP.region ?_
    refine WL.rn 4 [0] [(32, slcV A00 a0.length), (35, .int .i64 (i64 (a1.Gate - 1)))] ?_
    obtain ⟨t8, h9, hM⟩ := bind_some hM
    refine WL.valF (φ := Row 21 api_Gate.encS api_Gate.inK A00 a0) (fact_at 0 rfl) (fun w hR => run_indexRowF (A := A00) (xs := a0) (i := i64 (a1.Gate - 1)) (k := .i64) (e := 73) (m := 21) (by kernel_rfl) (by kernel_rfl) h9 (by kernel_rfl) (by kernel_rfl) hR) (by kernel_rfl) (by kernel_rfl) rfl ?_
    refine WL.valF (φ := Row 21 api_Gate.encS api_Gate.inK A00 a0) (fact_at 0 rfl) (fun w hR => run_fieldRowF (A := A00) (xs := a0) (i := i64 (a1.Gate - 1)) (n := Int.toNat (i64 (a1.Gate - 1)) * 21 + 0) (n' := Int.toNat (i64 (a1.Gate - 1)) * 21 + 3) h9 (by kernel_rfl) (fun _ _ => by kernel_rfl) hR) (by kernel_rfl) (by kernel_rfl) rfl ?_
    refine WL.valF (φ := Row 21 api_Gate.encS api_Gate.inK A00 a0) (fact_at 0 rfl) (fun w hR => run_loadRowF (A := A00) (xs := a0) (i := i64 (a1.Gate - 1)) (j := 3) (v := slcV ((A00.s (Int.toNat (i64 (a1.Gate - 1)))).1) t8.Ports.length) h9 (fun _ => by kernel_rfl) (by kernel_rfl) (by kernel_rfl) hR) (by kernel_rfl) (by kernel_rfl) rfl ?_
    refine WL.know (Row 3 api_PortCfg.encS api_PortCfg.inK ((A00.s (Int.toNat (i64 (a1.Gate - 1)))).1) t8.Ports) [0] [Row 21 api_Gate.encS api_Gate.inK A00 a0] (by kernel_rfl) (fun w hψ => ((hψ _ (List.mem_singleton.2 rfl)).inner _ _ (getL_parts h9).2).1) ?_
    refine WL.rn 1 [] [(8, slcV ((A00.s (Int.toNat (i64 (a1.Gate - 1)))).1) t8.Ports.length)] ?_
    refine WP.done ?_
    refine WP.seq ?_
    refine WP.seq ?_
    refine WP.region ?_
    refine WL.rn 4 [0] [(42, .bool (decide (a1.Port < 1)))] ?_
    refine WL.bo 42 (decide (a1.Port < 1)) 6 [] [0] (fun b' => [(48, .bool (b' || (decide (a1.Port > (t8.Ports.length : Int)))))]) ?_
    refine WP.done ?_
    refine WP.cond ((decide (a1.Port < 1)) || (decide (a1.Port > (t8.Ports.length : Int)))) rfl rfl (fun c10 => ?_) (fun c10 => ?_)
    · replace hM := cond_t hM c10
      refine WP.seq ?_
      refine WP.rh [2, 2, 2, 2, 2, 2, 2, 2, 2, 2, 2, 2, 2, 2, 1, 1, 1, 1, 1, 1, 1, 1, 1, 1, 1, 1, 1, 1] (fun _ => []) (fun _ => [(1, 0, [.bool a1.In, .int .i64 a1.Gate, .int .i64 a1.Port, .string a1.S])]) (fun _ => []) (fun _ => ?_)
      obtain rfl := Option.some.inj hM
      exact WP.ret [1, 1, 1, 1, 1, 1, 1, 1, 1, 1, 1, 1, 1, 1] [(b1 + 1), (b1 + 1), (b1 + 1), (b1 + 1), (b1 + 1), (b1 + 1), (b1 + 1), (b1 + 1), (b1 + 1), (b1 + 1), (b1 + 1), (b1 + 1), (b1 + 1), (b1 + 1)] (.agg #[.bool a1.In, .int .i64 a1.Gate, .int .i64 a1.Port, .string a1.S, .int .i64 0, .int .u64 0, .int .u64 0, .bool false, .int .i64 0, .bool false, .int .i64 0, .int .i64 0, .string (⟨#[]⟩ : ByteArray), .bool false]) (by kernel_rfl) (fun w' hw => ⟨rfl, (hw.pick [] rfl).lessF [1] (by kernel_rfl)⟩)
    · replace hM := cond_f hM c10
      refine WP.skip ?_
      refine WP.seq ?_
      obtain ⟨t12, h13, hM⟩ := bind_some hM
      obtain ⟨⟨r14, r15, r16⟩, h17, hM⟩ := bind_some hM
      dsimp only at hM
      refine WP.sub [3, 4, 5, 6, 8] (L' := [(3, .pointer (some ⟨b1, 0, none⟩)), (4, .pointer (some ⟨(b1 + 1), 0, none⟩)), (5, .pointer (some ⟨b2, 0, none⟩)), (6, .pointer (some ⟨b6, 0, none⟩)), (8, slcV ((A00.s (Int.toNat (i64 (a1.Gate - 1)))).1) t8.Ports.length)]) (by kernel_rfl) ?_
      refine WP.pick [0, 1, 3, 2] (by kernel_rfl) (by kernel_rfl : _ = [(b1, api_Event.o a1), ((b1 + 1), .cells #[.bool false, .int .i64 0, .int .i64 0, .string (⟨#[]⟩ : ByteArray), .int .i64 0, .int .u64 0, .int .u64 0, .bool false, .int .i64 0, .bool false, .int .i64 0, .int .i64 0, .string (⟨#[]⟩ : ByteArray), .bool false] 42 (0, 0)), (b6, api_Frame.o r3), (b2, .cells #[.bool a1.In, .int .i64 a1.Gate, .int .i64 a1.Port, .string a1.S, .int .i64 0, .int .u64 0, .int .u64 0, .bool false, .int .i64 0, .bool false, .int .i64 0, .int .i64 0, .string (⟨#[]⟩ : ByteArray), .bool false] 42 (0, 0))]) ?_
      refine WP.mixed (X := Unit) 16 [.val (slcV ((A00.s (Int.toNat (i64 (a1.Gate - 1)))).1) t8.Ports.length), .val (.pointer (some ⟨b1, 2, none⟩)), .val (.int .i64 a1.Port), .val (.int .i64 (i64 (a1.Port - 1))), .val (ptrV ((A00.s (Int.toNat (i64 (a1.Gate - 1)))).1) (Int.toNat (i64 (a1.Port - 1)) * 3)), .val (.agg #[.bool t12.Trunk, .int .i64 t12.Pvid, slcV (((A00.s (Int.toNat (i64 (a1.Gate - 1)))).1).s (Int.toNat (i64 (a1.Port - 1)))) t12.Vids.length]), .val (api_Frame.v r3), .val (.tuple #[.int .i64 r14, api_Frame.v r15, .bool r16]), .val (.tuple #[.int .i64 r14, api_Frame.v r15, .bool r16]), .val (.int .i64 r14), .val (api_Frame.v r15), .val (.bool r16), .val (.pointer (some ⟨b2, 4, none⟩)), .put 16 [] (fun tt => .cells #[.bool a1.In, .int .i64 a1.Gate, .int .i64 a1.Port, .string a1.S, .int .i64 r14, .int .u64 0, .int .u64 0, .bool false, .int .i64 0, .bool false, .int .i64 0, .int .i64 0, .string (⟨#[]⟩ : ByteArray), .bool false] 42 (0, 0)), .val (.pointer (some ⟨b2, 5, none⟩)), .put 16 [] (fun tt => .cells #[.bool a1.In, .int .i64 a1.Gate, .int .i64 a1.Port, .string a1.S, .int .i64 r14, .int .u64 r15.Dst, .int .u64 r15.Src, .bool r15.Tag.Has, .int .i64 r15.Tag.Pri, .bool r15.Tag.Dei, .int .i64 r15.Tag.Vid, .int .i64 r15.Type_, .string r15.Body, .bool false] 42 (0, 0))] [(b1, api_Event.o a1), ((b1 + 1), .cells #[.bool false, .int .i64 0, .int .i64 0, .string (⟨#[]⟩ : ByteArray), .int .i64 0, .int .u64 0, .int .u64 0, .bool false, .int .i64 0, .bool false, .int .i64 0, .int .i64 0, .string (⟨#[]⟩ : ByteArray), .bool false] 42 (0, 0)), (b6, api_Frame.o r3)] [(b2, .cells #[.bool a1.In, .int .i64 a1.Gate, .int .i64 a1.Port, .string a1.S, .int .i64 0, .int .u64 0, .int .u64 0, .bool false, .int .i64 0, .bool false, .int .i64 0, .int .i64 0, .string (⟨#[]⟩ : ByteArray), .bool false] 42 (0, 0))] (by kernel_rfl) (by kernel_rfl) (by kernel_rfl) (by kernel_rfl) (Heads.val (fun tt Ψ => OpV.run [] [] (by kernel_rfl) (fun _ => by kernel_rfl)) (Heads.val (fun tt Ψ => OpV.run [] [] (by kernel_rfl) (fun _ => by kernel_rfl)) (Heads.val (fun tt Ψ => OpV.run [0] [b1] (by kernel_rfl) (fun _ => by kernel_rfl)) (Heads.val (fun tt Ψ => OpV.run [] [] (by kernel_rfl) (fun _ => by kernel_rfl)) (Heads.val (fun tt Ψ => OpV.valF (φ := Row 3 api_PortCfg.encS api_PortCfg.inK ((A00.s (Int.toNat (i64 (a1.Gate - 1)))).1) t8.Ports) (List.mem_append_right _ (fact_at 0 rfl)) (fun w hR => run_indexRowF (A := (A00.s (Int.toNat (i64 (a1.Gate - 1)))).1) (xs := t8.Ports) (i := i64 (a1.Port - 1)) (k := .i64) (e := 84) (m := 3) (by kernel_rfl) (by kernel_rfl) h13 (by kernel_rfl) (by kernel_rfl) hR) (by kernel_rfl)) (Heads.val (fun tt Ψ => OpV.valF (φ := Row 3 api_PortCfg.encS api_PortCfg.inK ((A00.s (Int.toNat (i64 (a1.Gate - 1)))).1) t8.Ports) (List.mem_append_right _ (fact_at 0 rfl)) (fun w hR => run_loadRowFA (A := (A00.s (Int.toNat (i64 (a1.Gate - 1)))).1) (xs := t8.Ports) (i := i64 (a1.Port - 1)) (j := 0) (n := 3) (vs := [.bool t12.Trunk, .int .i64 t12.Pvid, slcV (((A00.s (Int.toNat (i64 (a1.Gate - 1)))).1).s (Int.toNat (i64 (a1.Port - 1)))) t12.Vids.length]) h13 (fun _ => by kernel_rfl) (by kernel_rfl) (by kernel_rfl) (by kernel_rfl) rfl hR) (by kernel_rfl)) (Heads.val (fun tt Ψ => OpV.run [2, 2, 2, 2, 2, 2, 2, 2] [b6, b6, b6, b6, b6, b6, b6, b6] (by kernel_rfl) (fun _ => by kernel_rfl)) (Heads.val (fun tt Ψ => OpV.know (φ := Row 1 (pl (encI .i64)) noK (((A00.s (Int.toNat (i64 (a1.Gate - 1)))).1).s (Int.toNat (i64 (a1.Port - 1)))) t12.Vids) [Row 3 api_PortCfg.encS api_PortCfg.inK ((A00.s (Int.toNat (i64 (a1.Gate - 1)))).1) t8.Ports] (one_fact (List.mem_append_right _ (fact_at 0 rfl))) (fun w hψ => ((hψ _ (List.mem_singleton.2 rfl)).inner _ _ (getL_parts h13).2)) (OpV.callF [] [] (app2 (mem2 (List.mem_cons_self ..) no_facts) (fun _ h => (List.mem_cons_of_mem _ (List.mem_append_right _ (List.mem_append_right _ h))))) (vlan_In_calls k (((A00.s (Int.toNat (i64 (a1.Gate - 1)))).1).s (Int.toNat (i64 (a1.Port - 1)))) t12.Trunk t12.Pvid t12.Vids r3 _ h17)  (fun _ => by kernel_rfl))) (Heads.val (fun tt Ψ => OpV.run [] [] (by kernel_rfl) (fun _ => by kernel_rfl)) (Heads.val (fun tt Ψ => OpV.run [] [] (by kernel_rfl) (fun _ => by kernel_rfl)) (Heads.val (fun tt Ψ => OpV.run [] [] (by kernel_rfl) (fun _ => by kernel_rfl)) (Heads.val (fun tt Ψ => OpV.run [] [] (by kernel_rfl) (fun _ => by kernel_rfl)) (Heads.val (fun tt Ψ => OpV.run [] [] (by kernel_rfl) (fun _ => by kernel_rfl)) (Heads.put (fun x x' h => rfl) 0 b2 (.cells #[.bool a1.In, .int .i64 a1.Gate, .int .i64 a1.Port, .string a1.S, .int .i64 0, .int .u64 0, .int .u64 0, .bool false, .int .i64 0, .bool false, .int .i64 0, .int .i64 0, .string (⟨#[]⟩ : ByteArray), .bool false] 42 (0, 0)) (fun tt => .cells #[.bool a1.In, .int .i64 a1.Gate, .int .i64 a1.Port, .string a1.S, .int .i64 0, .int .u64 0, .int .u64 0, .bool false, .int .i64 0, .bool false, .int .i64 0, .int .i64 0, .string (⟨#[]⟩ : ByteArray), .bool false] 42 (0, 0)) (by kernel_rfl) rfl (fun _ => by kernel_rfl) (fun tt Ψ => OpP.run [3] [b2] (by kernel_rfl) (fun _ _ => by kernel_rfl) (fun _ _ => by kernel_rfl)) (Heads.val (fun tt Ψ => OpV.run [] [] (by kernel_rfl) (fun _ => by kernel_rfl)) (Heads.put (fun x x' h => rfl) 0 b2 (.cells #[.bool a1.In, .int .i64 a1.Gate, .int .i64 a1.Port, .string a1.S, .int .i64 0, .int .u64 0, .int .u64 0, .bool false, .int .i64 0, .bool false, .int .i64 0, .int .i64 0, .string (⟨#[]⟩ : ByteArray), .bool false] 42 (0, 0)) (fun tt => .cells #[.bool a1.In, .int .i64 a1.Gate, .int .i64 a1.Port, .string a1.S, .int .i64 r14, .int .u64 0, .int .u64 0, .bool false, .int .i64 0, .bool false, .int .i64 0, .int .i64 0, .string (⟨#[]⟩ : ByteArray), .bool false] 42 (0, 0)) (by kernel_rfl) rfl (fun _ => by kernel_rfl) (fun tt Ψ => OpP.run [3, 3, 3, 3, 3, 3, 3, 3] [b2, b2, b2, b2, b2, b2, b2, b2] (by kernel_rfl) (fun _ _ => by kernel_rfl) (fun _ _ => by kernel_rfl)) Heads.nil)))))))))))))))) (fun s11 tt => [(51, slcV ((A00.s (Int.toNat (i64 (a1.Gate - 1)))).1) t8.Ports.length), (52, .pointer (some ⟨b1, 2, none⟩)), (53, .int .i64 a1.Port), (54, .int .i64 (i64 (a1.Port - 1))), (55, ptrV ((A00.s (Int.toNat (i64 (a1.Gate - 1)))).1) (Int.toNat (i64 (a1.Port - 1)) * 3)), (56, .agg #[.bool t12.Trunk, .int .i64 t12.Pvid, slcV (((A00.s (Int.toNat (i64 (a1.Gate - 1)))).1).s (Int.toNat (i64 (a1.Port - 1)))) t12.Vids.length]), (57, api_Frame.v r3), (58, .tuple #[.int .i64 r14, api_Frame.v r15, .bool r16]), (50, .tuple #[.int .i64 r14, api_Frame.v r15, .bool r16]), (59, .int .i64 r14), (60, api_Frame.v r15), (61, .bool r16), (62, .pointer (some ⟨b2, 4, none⟩)), (63, .pointer (some ⟨b2, 5, none⟩)), (3, .pointer (some ⟨b1, 0, none⟩)), (4, .pointer (some ⟨(b1 + 1), 0, none⟩)), (5, .pointer (some ⟨b2, 0, none⟩)), (6, .pointer (some ⟨b6, 0, none⟩)), (8, slcV ((A00.s (Int.toNat (i64 (a1.Gate - 1)))).1) t8.Ports.length)]) (fun s11 tt => [(b1, api_Event.o a1), ((b1 + 1), .cells #[.bool false, .int .i64 0, .int .i64 0, .string (⟨#[]⟩ : ByteArray), .int .i64 0, .int .u64 0, .int .u64 0, .bool false, .int .i64 0, .bool false, .int .i64 0, .int .i64 0, .string (⟨#[]⟩ : ByteArray), .bool false] 42 (0, 0)), (b6, api_Frame.o r3), (b2, .cells #[.bool a1.In, .int .i64 a1.Gate, .int .i64 a1.Port, .string a1.S, .int .i64 r14, .int .u64 r15.Dst, .int .u64 r15.Src, .bool r15.Tag.Has, .int .i64 r15.Tag.Pri, .bool r15.Tag.Dei, .int .i64 r15.Tag.Vid, .int .i64 r15.Type_, .string r15.Body, .bool false] 42 (0, 0))]) (fun tt => ([] ++ [Row 3 api_PortCfg.encS api_PortCfg.inK ((A00.s (Int.toNat (i64 (a1.Gate - 1)))).1) t8.Ports, Row 21 api_Gate.encS api_Gate.inK A00 a0]) ++ Glob) (fun _ _ => by kernel_rfl) (fun _ _ => by kernel_rfl) (fun _ => by kernel_rfl) (fun s11 tt => ?_)
      refine WL.rh 2 [3] (fun _ => []) (fun _ => [(3, 13, [.bool r16])]) (fun _ => []) (fun _ => ?_)
      refine WP.done ?_
      refine WP.kp [false, true, false, true] ?_
      refine WP.seq ?_
      refine WP.rh [1, 1, 1, 1, 1, 1, 1, 1, 1, 1, 1, 1, 1, 1, 0, 0, 0, 0, 0, 0, 0, 0, 0, 0, 0, 0, 0, 0] (fun _ => []) (fun _ => [(0, 0, [.bool a1.In, .int .i64 a1.Gate, .int .i64 a1.Port, .string a1.S, .int .i64 r14, .int .u64 r15.Dst, .int .u64 r15.Src, .bool r15.Tag.Has, .int .i64 r15.Tag.Pri, .bool r15.Tag.Dei, .int .i64 r15.Tag.Vid, .int .i64 r15.Type_, .string r15.Body, .bool r16])]) (fun _ => []) (fun _ => ?_)
      refine WP.kp [true, false] ?_
      obtain rfl := Option.some.inj hM
      exact WP.ret [0, 0, 0, 0, 0, 0, 0, 0, 0, 0, 0, 0, 0, 0] [(b1 + 1), (b1 + 1), (b1 + 1), (b1 + 1), (b1 + 1), (b1 + 1), (b1 + 1), (b1 + 1), (b1 + 1), (b1 + 1), (b1 + 1), (b1 + 1), (b1 + 1), (b1 + 1)] (.agg #[.bool a1.In, .int .i64 a1.Gate, .int .i64 a1.Port, .string a1.S, .int .i64 r14, .int .u64 r15.Dst, .int .u64 r15.Src, .bool r15.Tag.Has, .int .i64 r15.Tag.Pri, .bool r15.Tag.Dei, .int .i64 r15.Tag.Vid, .int .i64 r15.Type_, .string r15.Body, .bool r16]) (by kernel_rfl) (fun w' hw => ⟨rfl, (hw.pick [] rfl).lessF [1] (by kernel_rfl)⟩)

end Go.Proofs.YtbbekdmndifkpaaGreatDoor

namespace Go.Proofs.YtbbekdmndifkpaaGreatDoor
open Go Eng
set_option linter.unusedVariables false
set_option linter.unusedSimpArgs false

/-! ### gangway/trace.bridges: function 15 -/
def trace_bridges.f (k : Nat) (a0 : api_Event) : Option (Bool) :=
  (ether_Parse.f k a0.S).bind fun (r2, r3) =>
  some (((r3 == 0) && (decide (r2.Dst ≥ 1652522221568))) && (decide (r2.Dst < 1652522221584)))

set_option maxRecDepth 100000 in
theorem trace_bridges_calls (k : Nat) (a0 : api_Event) (r : Bool) (h : trace_bridges.f k a0 = some r) : Pure Tryz.prog Glob 15 #[api_Event.v a0] (.bool r) := by
  intro w Z hS
  refine calls_of (args := [api_Event.v a0]) (L := [(0, api_Event.v a0)]) (N := 23) (S := Sat w Z [] [] Glob) Tryz.func15 rfl rfl (Nat.le_of_ble_eq_true rfl) rfl hS ?_
  have hM := h
  clear h hS
  unfold trace_bridges.f at hM
  refine WP.seq ?_
  refine WP.rh [] (fun b1 => [(1, .pointer (some ⟨b1, 0, none⟩)), (2, .bool false)]) (fun b1 => []) (fun b1 => [(b1, api_Event.o a0)]) (fun b1 => ?_)
  refine WP.seq ?_
  refine WP.region ?_
  refine WL.rn 2 [0] [(7, .string a0.S)] ?_
  obtain ⟨⟨r2, r3⟩, h4, hM⟩ := bind_some hM
  dsimp only at hM
  refine WL.callP [] [] (ether_Parse_calls k a0.S _ h4) (fun _ h => h) (by kernel_rfl) (by kernel_rfl) rfl ?_
  refine WL.rh 6 [1, 1, 1, 1, 1, 1, 1, 1] (fun b5 => [(3, .pointer (some ⟨b5, 0, none⟩)), (4, .int .i64 r3)]) (fun b5 => []) (fun b5 => [(b5, api_Frame.o r2)]) (fun b5 => ?_)
  refine WP.done ?_
  refine WP.kp [false, true] ?_
  refine WP.seq ?_
  refine WP.region ?_
  refine WL.rn 3 [] [(13, .bool (r3 == 0))] ?_
  refine WL.bo 13 (r3 == 0) 4 [0] [] (fun b' => [(17, .bool (b' && (decide (r2.Dst ≥ 1652522221568))))]) ?_
  refine WL.rn 1 [] [(18, .bool ((r3 == 0) && (decide (r2.Dst ≥ 1652522221568))))] ?_
  refine WL.bo 18 ((r3 == 0) && (decide (r2.Dst ≥ 1652522221568))) 4 [0] [] (fun b' => [(22, .bool (b' && (decide (r2.Dst < 1652522221584))))]) ?_
  refine WL.rn 1 [] [(2, .bool (((r3 == 0) && (decide (r2.Dst ≥ 1652522221568))) && (decide (r2.Dst < 1652522221584))))] ?_
  refine WP.done ?_
  refine WP.kp [false] ?_
  obtain rfl := Option.some.inj hM
  exact WP.ret [] [] (.bool (((r3 == 0) && (decide (r2.Dst ≥ 1652522221568))) && (decide (r2.Dst < 1652522221584)))) (by kernel_rfl) (fun w' hw => ⟨rfl, hw.pick [] rfl⟩)

end Go.Proofs.YtbbekdmndifkpaaGreatDoor

namespace Go.Proofs.YtbbekdmndifkpaaGreatDoor
open Go Eng
set_option linter.unusedVariables false
set_option linter.unusedSimpArgs false

/-! ### gangway/trace.came: function 36 -/
def trace_came.f (a0 : (List trace_seen)) (a1 : Int) : Option ((List trace_seen) × Int) :=
  some (a0, a1)

set_option maxRecDepth 100000 in
theorem trace_came_calls (A00 : SkL Unit) (a0 : (List trace_seen)) (a1 : Int) (r : (List trace_seen) × Int) (h : trace_came.f a0 a1 = some r) : Does Tryz.prog 36 #[slcV A00 a0.length, .int .i64 a1] [] ([Row 14 (pl trace_seen.enc) noK A00 a0] ++ Glob) (fun x : (Nat × (SkL Unit) × Nat) => .func (.func 72) #[] #[.pointer (some ⟨x.1, 0, none⟩), .pointer (some ⟨x.2.2, 0, none⟩)]) (fun x => [(x.1, .cells #[slcV x.2.1 r.1.length] 35 (0, 0)), (x.2.2, .cells #[.int .i64 r.2] 3 (0, 0))]) (fun _ => []) (fun x => [Row 14 (pl trace_seen.enc) noK x.2.1 r.1] ++ ([Row 14 (pl trace_seen.enc) noK A00 a0] ++ Glob)) := by
  intro w Z hS
  refine calls_of (args := [slcV A00 a0.length, .int .i64 a1]) (L := [(0, slcV A00 a0.length), (1, .int .i64 a1)]) (N := 6) (S := Sat w Z [] [] ([Row 14 (pl trace_seen.enc) noK A00 a0] ++ Glob)) Tryz.func36 rfl rfl (Nat.le_of_ble_eq_true rfl) rfl hS ?_
  have hM := h
  clear h hS
  unfold trace_came.f at hM
  refine WP.seq ?_
  refine WP.rh [] (fun b1 => [(2, .pointer (some ⟨b1, 0, none⟩)), (3, .pointer (some ⟨(b1 + 1), 0, none⟩)), (4, .nilFunc)]) (fun b1 => []) (fun b1 => [(b1, .cells #[slcV A00 a0.length] 35 (0, 0)), ((b1 + 1), .cells #[.int .i64 a1] 3 (0, 0))]) (fun b1 => ?_)
  refine WP.seq ?_
  refine WP.rn [] [(4, .func (.func 72) #[] #[.pointer (some ⟨b1, 0, none⟩), .pointer (some ⟨(b1 + 1), 0, none⟩)])] ?_
  obtain rfl := Option.some.inj hM
  exact WP.ret [] [] (.func (.func 72) #[] #[.pointer (some ⟨b1, 0, none⟩), .pointer (some ⟨(b1 + 1), 0, none⟩)]) (by kernel_rfl) (fun w' hw => ⟨(b1, A00, (b1 + 1)), rfl, (hw.pick [0, 1] (by kernel_rfl)).less (sub_ret [0] [0] (by kernel_rfl) (by kernel_rfl))⟩)

end Go.Proofs.YtbbekdmndifkpaaGreatDoor

namespace Go.Proofs.YtbbekdmndifkpaaGreatDoor
open Go Eng
set_option linter.unusedVariables false
set_option linter.unusedSimpArgs false

/-! ### gangway/trace.came$1: function 72 -/
def trace_came_1.k1 {ρ : Type} (x3 : Int) (rec_l2 : Int → Option (ρ)) (x13 : Bool) (x14 : Bool) : Option (ρ) :=
  rec_l2 (i64 (x3 + 1))

def trace_came_1.l2 {ρ : Type} (t1 : (List trace_seen)) (Y : (trace_seen → Option (Option ρ))) (e : (Option ρ)) : Nat → Int → Option (ρ)
  | 0, _ => none
  | n + 1, x3 =>
    bif decide (x3 < (t1.length : Int)) then
      (getL t1.length t1 x3).bind fun t5 =>
      bif (t5.Event.In && t5.is_) then
        (Y t5).bind fun u10 =>
        match u10 with
        | none =>
          trace_came_1.k1 x3 (trace_came_1.l2 t1 Y e n) true true
        | some q12 =>
          some q12
      else
        trace_came_1.k1 x3 (trace_came_1.l2 t1 Y e n) false false
    else
      e

def trace_came_1.f {ρ : Type} (k : Nat) (a1 : (List trace_seen)) (a2 : Int) (Y : trace_seen → Option (Option ρ)) (e : Option ρ) : Option ρ :=
  (sliceL a1 0 a2).bind fun t1 =>
  trace_came_1.l2 t1 Y e k 0

set_option maxRecDepth 100000 in
theorem trace_came_1_calls {ρ : Type} (k : Nat) (b_0 : Nat) (b_1 : Nat) (A00 : SkL Unit) (a1 : (List trace_seen)) (a2 : Int) : Iter (ρ := ρ) Tryz.prog 72 #[.pointer (some ⟨b_0, 0, none⟩), .pointer (some ⟨b_1, 0, none⟩)] [(b_0, .cells #[slcV A00 a1.length] 35 (0, 0)), (b_1, .cells #[.int .i64 a2] 3 (0, 0))] [Row 14 (pl trace_seen.enc) noK A00 a1] (fun x : trace_seen => trace_seen.v x) (trace_came_1.f k a1 a2) := by
  intro Y e r l J Jx Γ h hY w Z hS
  refine calls_of (args := [.func (.yield l) #[] #[], .pointer (some ⟨b_0, 0, none⟩), .pointer (some ⟨b_1, 0, none⟩)]) (L := [(0, .func (.yield l) #[] #[]), (1, .pointer (some ⟨b_0, 0, none⟩)), (2, .pointer (some ⟨b_1, 0, none⟩))]) (N := 28) (S := Sat w Z [(b_0, .cells #[slcV A00 a1.length] 35 (0, 0)), (b_1, .cells #[.int .i64 a2] 3 (0, 0))] [J] ([Row 14 (pl trace_seen.enc) noK A00 a1] ++ Γ)) Tryz.func72 rfl rfl (Nat.le_of_ble_eq_true rfl) rfl hS ?_
  have hM := h
  clear h hS
  unfold trace_came_1.f at hM
  refine WP.seq ?_
  refine WP.region ?_
  refine WL.rn 2 [0, 1] [(6, slcV A00 a1.length), (7, .int .i64 a2)] ?_
  obtain ⟨t1, h2, hM⟩ := bind_some hM
  refine WL.valF (φ := Row 14 (pl trace_seen.enc) noK A00 a1) (fact_at 0 rfl) (fun w hR => run_sliceRow_hi (A := A00) (xs := a1) (r := t1) (kh := .i64) (h := a2) (e := 42) (m := 14) (by kernel_rfl) (by kernel_rfl) hR.ptr h2 (by kernel_rfl) (by kernel_rfl)) (by kernel_rfl) (by kernel_rfl) rfl ?_
  refine WL.know (Row 14 (pl trace_seen.enc) noK (A00.cut 0 14) t1) [0] [Row 14 (pl trace_seen.enc) noK A00 a1] (by kernel_rfl) (fun w hψ => (hψ _ (List.mem_singleton.2 rfl)).cut h2) ?_
  refine WL.rn 2 [] [(9, .int .i64 (t1.length : Int)), (10, .int .i64 0)] ?_
  refine WP.done ?_
  refine WP.block ?_
  refine WP.sub [0, 8, 9, 10] (L' := [(0, .func (.yield l) #[] #[]), (8, slcV (A00.cut 0 14) t1.length), (9, .int .i64 (t1.length : Int)), (10, .int .i64 0)]) (by kernel_rfl) ?_
  refine WP.lessF [0, 1] (F' := [Row 14 (pl trace_seen.enc) noK (A00.cut 0 14) t1, Row 14 (pl trace_seen.enc) noK A00 a1]) (by kernel_rfl) ?_
  refine WP.loop (σ := Int) (fun n st => trace_came_1.l2 t1 Y e n st) r (fun st => [(0, .func (.yield l) #[] #[]), (8, slcV (A00.cut 0 14) t1.length), (9, .int .i64 (t1.length : Int)), (10, .int .i64 st)]) (fun st => Sat w Z [(b_0, .cells #[slcV A00 a1.length] 35 (0, 0)), (b_1, .cells #[.int .i64 a2] 3 (0, 0))] [J] ([Row 14 (pl trace_seen.enc) noK (A00.cut 0 14) t1, Row 14 (pl trace_seen.enc) noK A00 a1] ++ Γ)) (st := 0) (fun n st hM => ?_) hM
  rcases n with _ | n
  · exact nomatch (show (none : Option _) = some r from hM)
  obtain ⟨x3, rfl⟩ : ∃ y, y = st := ⟨st, rfl⟩
  replace hM : trace_came_1.l2 t1 Y e (n + 1) x3 = some r := hM
  rw [trace_came_1.l2] at hM
  show WP _ _ _ _ _ [(0, .func (.yield l) #[] #[]), (8, slcV (A00.cut 0 14) t1.length), (9, .int .i64 (t1.length : Int)), (10, .int .i64 x3)] (Sat w Z [(b_0, .cells #[slcV A00 a1.length] 35 (0, 0)), (b_1, .cells #[.int .i64 a2] 3 (0, 0))] [J] ([Row 14 (pl trace_seen.enc) noK (A00.cut 0 14) t1, Row 14 (pl trace_seen.enc) noK A00 a1] ++ Γ))
  refine WP.seq ?_
  refine WP.rn [] [(11, .bool (decide (x3 < (t1.length : Int))))] ?_
  refine WP.seq ?_
  refine WP.cond (decide (x3 < (t1.length : Int))) rfl rfl (fun c4 => ?_) (fun c4 => ?_)
  · replace hM := cond_t hM c4
    refine WP.skip ?_
    refine WP.seq ?_
    refine WP.block ?_
    refine WP.seq ?_
    refine WP.region ?_
    obtain ⟨t5, h6, hM⟩ := bind_some hM
    refine WL.valF (φ := Row 14 (pl trace_seen.enc) noK (A00.cut 0 14) t1) (fact_at 0 rfl) (fun w hR => run_indexRowF (A := (A00.cut 0 14)) (xs := t1) (i := x3) (k := .i64) (e := 42) (m := 14) (by kernel_rfl) (by kernel_rfl) h6 (by kernel_rfl) (by kernel_rfl) hR) (by kernel_rfl) (by kernel_rfl) rfl ?_
    refine WL.valF (φ := Row 14 (pl trace_seen.enc) noK (A00.cut 0 14) t1) (fact_at 0 rfl) (fun w hR => run_loadRowFA (A := (A00.cut 0 14)) (xs := t1) (i := x3) (j := 0) (n := 14) (vs := [.bool t5.Event.In, .int .i64 t5.Event.Gate, .int .i64 t5.Event.Port, .string t5.Event.S, .int .i64 t5.vid, .int .u64 t5.f.Dst, .int .u64 t5.f.Src, .bool t5.f.Tag.Has, .int .i64 t5.f.Tag.Pri, .bool t5.f.Tag.Dei, .int .i64 t5.f.Tag.Vid, .int .i64 t5.f.Type_, .string t5.f.Body, .bool t5.is_]) h6 (fun _ => by kernel_rfl) (by kernel_rfl) (by kernel_rfl) (by kernel_rfl) rfl hR) (by kernel_rfl) (by kernel_rfl) rfl ?_
    refine WL.rh 2 [2, 2, 2, 2, 2, 2, 2, 2, 2, 2, 2, 2, 2, 2] (fun b7 => [(5, .pointer (some ⟨b7, 0, none⟩))]) (fun b7 => []) (fun b7 => [(b7, trace_seen.o t5)]) (fun b7 => ?_)
    refine WP.done ?_
    refine WP.seq ?_
    refine WP.join (σ := Bool × Bool) (fun st => trace_came_1.k1 x3 (trace_came_1.l2 t1 Y e n) st.1 st.2 = some r) (fun st => [(0, .func (.yield l) #[] #[]), (5, .pointer (some ⟨b7, 0, none⟩)), (8, slcV (A00.cut 0 14) t1.length), (9, .int .i64 (t1.length : Int)), (10, .int .i64 x3), (11, .bool (decide (x3 < (t1.length : Int)))), (12, ptrV (A00.cut 0 14) (Int.toNat x3 * 14)), (13, trace_seen.v t5), (14, .pointer (some ⟨b7, 0, none⟩)), (15, .pointer (some ⟨b7, 0, none⟩)), (16, .bool t5.Event.In), (17, .bool t5.Event.In), (20, .bool st.1), (21, .bool st.2), (26, .bool false)]) (fun st => Sat w Z [(b_0, .cells #[slcV A00 a1.length] 35 (0, 0)), (b_1, .cells #[.int .i64 a2] 3 (0, 0)), (b7, trace_seen.o t5)] [J] ([Row 14 (pl trace_seen.enc) noK (A00.cut 0 14) t1, Row 14 (pl trace_seen.enc) noK A00 a1] ++ Γ)) (fun st hM => ?_) (fun K1 => ?_)
    ·
      obtain ⟨x13, x14⟩ := st
      replace hM : trace_came_1.k1 x3 (trace_came_1.l2 t1 Y e n) x13 x14 = some r := hM
      unfold trace_came_1.k1 at hM
      show WP _ _ _ _ _ [(0, .func (.yield l) #[] #[]), (5, .pointer (some ⟨b7, 0, none⟩)), (8, slcV (A00.cut 0 14) t1.length), (9, .int .i64 (t1.length : Int)), (10, .int .i64 x3), (11, .bool (decide (x3 < (t1.length : Int)))), (12, ptrV (A00.cut 0 14) (Int.toNat x3 * 14)), (13, trace_seen.v t5), (14, .pointer (some ⟨b7, 0, none⟩)), (15, .pointer (some ⟨b7, 0, none⟩)), (16, .bool t5.Event.In), (17, .bool t5.Event.In), (20, .bool x13), (21, .bool x14), (26, .bool false)] (Sat w Z [(b_0, .cells #[slcV A00 a1.length] 35 (0, 0)), (b_1, .cells #[.int .i64 a2] 3 (0, 0)), (b7, trace_seen.o t5)] [J] ([Row 14 (pl trace_seen.enc) noK (A00.cut 0 14) t1, Row 14 (pl trace_seen.enc) noK A00 a1] ++ Γ))
      refine WP.no rfl rfl ?_
      refine WP.skip ?_
      refine WP.leave ?_
      refine WP.rn [] [(10, .int .i64 (i64 (x3 + 1))), (27, .int .i64 (i64 (x3 + 1)))] ?_
      exact WP.again' [0, 8, 9, 10] (i64 (x3 + 1)) hM (by kernel_rfl) (fun _ h => ((h.pick [0, 1] (by kernel_rfl)).lessF [0, 1] (by kernel_rfl)).pickG [0] [] 1 rfl (by decide) (by kernel_rfl))
    ·
      refine WP.byBool (t5.Event.In && t5.is_) (fun c9 => ?_) (fun c9 => ?_)
      · replace hM := cond_t hM c9
        refine WP.regionI 13 rfl ?_
        refine WI.pre 0 10 3 _ rfl rfl ?_
        refine WL.rn 4 [2] [(14, .pointer (some ⟨b7, 0, none⟩)), (15, .pointer (some ⟨b7, 0, none⟩)), (16, .bool t5.Event.In), (17, .bool t5.Event.In)] ?_
        refine WL.bo 17 t5.Event.In 3 [2] [] (fun b' => [(20, .bool (b' && t5.is_))]) ?_
        refine WL.rn 1 [] [(21, .bool (t5.Event.In && t5.is_))] ?_
        refine WL.ov 20 c9 ?_
        refine WL.ov 21 c9 ?_
        refine WL.rn 2 [2, 2, 2, 2, 2, 2, 2, 2, 2, 2, 2, 2, 2, 2] [(22, .func (.yield l) #[] #[]), (23, trace_seen.v t5)] ?_
        refine WL.rest ?_
        obtain ⟨u10, h11, hM⟩ := bind_some hM
        refine WI.yield hY t5 h11 rfl (by kernel_rfl) (by kernel_rfl) (fun _ => by kernel_rfl) rfl ?_
        rcases u10 with _ | q12
        · dsimp only at hM
          refine WI.pre 11 2 0 _ rfl rfl ?_
          refine WL.rn 2 [] [(25, .bool false), (26, .bool false)] ?_
          refine WL.rest ?_
          refine WI.done ?_
          exact WP.sub [0, 5, 8, 9, 10, 11, 12, 13, 14, 15, 16, 17, 20, 21, 26] (by kernel_rfl) (WP.pick [0, 1, 2] (by kernel_rfl) (by kernel_rfl) (WP.pickG [0] [] 1 rfl (by decide) (by kernel_rfl) (WP.lessF [0, 1] (by kernel_rfl) (K1 (true, true) hM))))
        · dsimp only at hM
          refine WI.pre 11 2 0 _ rfl rfl ?_
          refine WL.rn 2 [] [(25, .bool true), (26, .bool true)] ?_
          refine WL.rest ?_
          refine WI.done ?_
          refine WP.yes rfl rfl ?_
          obtain rfl := Option.some.inj hM
          exact WP.ret [] [] (.tuple #[]) (by kernel_rfl) (fun w' hw => ⟨⟨_, rfl⟩, .inr ((hw.pick [0, 1] (by kernel_rfl)).lessF [1] (by kernel_rfl))⟩)
      · replace hM := cond_f hM c9
        refine WP.region ?_
        refine WL.rn 4 [2] [(14, .pointer (some ⟨b7, 0, none⟩)), (15, .pointer (some ⟨b7, 0, none⟩)), (16, .bool t5.Event.In), (17, .bool t5.Event.In)] ?_
        refine WL.bo 17 t5.Event.In 3 [2] [] (fun b' => [(20, .bool (b' && t5.is_))]) ?_
        refine WL.rn 1 [] [(21, .bool (t5.Event.In && t5.is_))] ?_
        refine WL.ov 20 c9 ?_
        refine WL.ov 21 c9 ?_
        refine WL.rn 5 [] [(22, .tuple #[]), (23, .tuple #[]), (24, .tuple #[]), (25, .tuple #[]), (26, .bool false)] ?_
        refine WP.done ?_
        exact WP.sub [0, 5, 8, 9, 10, 11, 12, 13, 14, 15, 16, 17, 20, 21, 26] (by kernel_rfl) (WP.pick [0, 1, 2] (by kernel_rfl) (by kernel_rfl) (WP.pickG [0] [] 1 rfl (by decide) (by kernel_rfl) (WP.lessF [0, 1] (by kernel_rfl) (K1 (false, false) hM))))
  · replace hM := cond_f hM c4
    refine WP.exit rfl ?_
    exact WP.end [] [] (.tuple #[]) (by kernel_rfl) (fun w' hw => ⟨⟨_, rfl⟩, .inl ⟨hM, (hw.pick [0, 1] (by kernel_rfl)).lessF [1] (by kernel_rfl)⟩⟩)

end Go.Proofs.YtbbekdmndifkpaaGreatDoor

namespace Go.Proofs.YtbbekdmndifkpaaGreatDoor
open Go Eng
set_option linter.unusedVariables false
set_option linter.unusedSimpArgs false

/-! ### gangway/vni.Of$1: function 85 -/
def vni_Of_1.f (a0 : Int) (a0_1 : Int) (a0_2 : (List Int)) (a1 : Int) : Option (Bool) :=
  some (a0 == a1)

set_option maxRecDepth 100000 in
theorem vni_Of_1_calls (b_0 : Nat) (A00 : SkL Unit) (a0 : Int) (a0_1 : Int) (a0_2 : (List Int)) (a1 : Int) (r : Bool) (h : vni_Of_1.f a0 a0_1 a0_2 a1 = some r) : Does Tryz.prog 85 #[.agg #[.int .i64 a0, .int .i64 a0_1, slcV A00 a0_2.length], .pointer (some ⟨b_0, 0, none⟩)] [(b_0, .cells #[.int .i64 a1] 3 (0, 0))] ([Row 1 (pl (encI .u32)) noK A00 a0_2] ++ Glob) (fun _ : Unit => .bool r) (fun _ => [(b_0, .cells #[.int .i64 a1] 3 (0, 0))]) (fun _ => []) (fun _ => ([Row 1 (pl (encI .u32)) noK A00 a0_2] ++ Glob)) := by
  intro w Z hS
  refine calls_of (args := [.agg #[.int .i64 a0, .int .i64 a0_1, slcV A00 a0_2.length], .pointer (some ⟨b_0, 0, none⟩)]) (L := [(0, .agg #[.int .i64 a0, .int .i64 a0_1, slcV A00 a0_2.length]), (1, .pointer (some ⟨b_0, 0, none⟩))]) (N := 8) (S := Sat w Z [(b_0, .cells #[.int .i64 a1] 3 (0, 0))] [] ([Row 1 (pl (encI .u32)) noK A00 a0_2] ++ Glob)) Tryz.func85 rfl rfl (Nat.le_of_ble_eq_true rfl) rfl hS ?_
  have hM := h
  clear h hS
  unfold vni_Of_1.f at hM
  refine WP.seq ?_
  refine WP.rh [] (fun b1 => [(2, .pointer (some ⟨b1, 0, none⟩)), (3, .bool false)]) (fun b1 => []) (fun b1 => [(b1, .cells #[.int .i64 a0, .int .i64 a0_1, slcV A00 a0_2.length] 93 (0, 0))]) (fun b1 => ?_)
  refine WP.seq ?_
  refine WP.rn [1, 0] [(3, .bool (a0 == a1))] ?_
  refine WP.kp [true, false] ?_
  obtain rfl := Option.some.inj hM
  exact WP.ret [] [] (.bool (a0 == a1)) (by kernel_rfl) (fun w' hw => ⟨(), rfl, (hw.pick [0] (by kernel_rfl)).lessF [0] (by kernel_rfl)⟩)

end Go.Proofs.YtbbekdmndifkpaaGreatDoor

namespace Go.Proofs.YtbbekdmndifkpaaGreatDoor
open Go Eng
set_option linter.unusedVariables false
set_option linter.unusedSimpArgs false

/-! ### slices.IndexFunc[[]gangway/api.Seg,gangway/api.Seg]: function 130 -/
def api_Seg.l1 (a0 : (List api_Seg)) (a1 : Int) : Nat → Int → Int → Option (Int)
  | 0, _, _ => none
  | n + 1, x1, x2 =>
    bif decide (x2 < (a0.length : Int)) then
      (getL a0.length a0 x2).bind fun t4 =>
      (vni_Of_1.f t4.Vid t4.Vni t4.Peers a1).bind fun r6 =>
      bif r6 then
        some x2
      else
        api_Seg.l1 a0 a1 n x1 (i64 (x2 + 1))
    else
      some (-1)

def api_Seg.f (k : Nat) (a0 : (List api_Seg)) (a1 : Int) : Option (Int) :=
  api_Seg.l1 a0 a1 k 0 0

set_option maxRecDepth 100000 in
theorem api_Seg_calls (k : Nat) (b_0 : Nat) (A00 : SkL (SkL Unit)) (a0 : (List api_Seg)) (a1 : Int) (r : Int) (h : api_Seg.f k a0 a1 = some r) : Does Tryz.prog 130 #[slcV A00 a0.length, .func (.func 85) #[] #[.pointer (some ⟨b_0, 0, none⟩)]] [(b_0, .cells #[.int .i64 a1] 3 (0, 0))] ([Row 3 api_Seg.encS api_Seg.inK A00 a0] ++ Glob) (fun _ : Unit => .int .i64 r) (fun _ => [(b_0, .cells #[.int .i64 a1] 3 (0, 0))]) (fun _ => []) (fun _ => ([Row 3 api_Seg.encS api_Seg.inK A00 a0] ++ Glob)) := by
  intro w Z hS
  refine calls_of (args := [slcV A00 a0.length, .func (.func 85) #[] #[.pointer (some ⟨b_0, 0, none⟩)]]) (L := [(0, slcV A00 a0.length), (1, .func (.func 85) #[] #[.pointer (some ⟨b_0, 0, none⟩)])]) (N := 19) (S := Sat w Z [(b_0, .cells #[.int .i64 a1] 3 (0, 0))] [] ([Row 3 api_Seg.encS api_Seg.inK A00 a0] ++ Glob)) Tryz.func130 rfl rfl (Nat.le_of_ble_eq_true rfl) rfl hS ?_
  have hM := h
  clear h hS
  unfold api_Seg.f at hM
  refine WP.seq ?_
  refine WP.rn [] [(4, .int .i64 0)] ?_
  refine WP.seq ?_
  refine WP.seq ?_
  refine WP.rn [] [(7, .int .i64 (a0.length : Int)), (8, .int .i64 0)] ?_
  refine WP.block ?_
  refine WP.sub [0, 1, 4, 7, 8] (L' := [(0, slcV A00 a0.length), (1, .func (.func 85) #[] #[.pointer (some ⟨b_0, 0, none⟩)]), (4, .int .i64 0), (7, .int .i64 (a0.length : Int)), (8, .int .i64 0)]) (by kernel_rfl) ?_
  refine WP.lessF [0] (F' := [Row 3 api_Seg.encS api_Seg.inK A00 a0]) (by kernel_rfl) ?_
  refine WP.loop (σ := Int × Int) (fun n st => api_Seg.l1 a0 a1 n st.1 st.2) r (fun st => [(0, slcV A00 a0.length), (1, .func (.func 85) #[] #[.pointer (some ⟨b_0, 0, none⟩)]), (4, .int .i64 st.1), (7, .int .i64 (a0.length : Int)), (8, .int .i64 st.2)]) (fun st => Sat w Z [(b_0, .cells #[.int .i64 a1] 3 (0, 0))] [] ([Row 3 api_Seg.encS api_Seg.inK A00 a0] ++ Glob)) (st := (0, 0)) (fun n st hM => ?_) hM
  rcases n with _ | n
  · exact nomatch (show (none : Option _) = some r from hM)
  obtain ⟨x1, x2⟩ := st
  replace hM : api_Seg.l1 a0 a1 (n + 1) x1 x2 = some r := hM
  rw [api_Seg.l1] at hM
  show WP _ _ _ _ _ [(0, slcV A00 a0.length), (1, .func (.func 85) #[] #[.pointer (some ⟨b_0, 0, none⟩)]), (4, .int .i64 x1), (7, .int .i64 (a0.length : Int)), (8, .int .i64 x2)] (Sat w Z [(b_0, .cells #[.int .i64 a1] 3 (0, 0))] [] ([Row 3 api_Seg.encS api_Seg.inK A00 a0] ++ Glob))
  refine WP.seq ?_
  refine WP.rn [] [(9, .bool (decide (x2 < (a0.length : Int))))] ?_
  refine WP.seq ?_
  refine WP.cond (decide (x2 < (a0.length : Int))) rfl rfl (fun c3 => ?_) (fun c3 => ?_)
  · replace hM := cond_t hM c3
    refine WP.skip ?_
    refine WP.seq ?_
    refine WP.block ?_
    refine WP.seq ?_
    refine WP.rn [] [(5, .int .i64 x2), (10, .int .i64 x2)] ?_
    refine WP.seq ?_
    refine WP.region ?_
    refine WL.rn 3 [] [(11, .func (.func 85) #[] #[.pointer (some ⟨b_0, 0, none⟩)]), (12, slcV A00 a0.length), (13, .int .i64 x2)] ?_
    obtain ⟨t4, h5, hM⟩ := bind_some hM
    refine WL.valF (φ := Row 3 api_Seg.encS api_Seg.inK A00 a0) (fact_at 0 rfl) (fun w hR => run_indexRowF (A := A00) (xs := a0) (i := x2) (k := .i64) (e := 93) (m := 3) (by kernel_rfl) (by kernel_rfl) h5 (by kernel_rfl) (by kernel_rfl) hR) (by kernel_rfl) (by kernel_rfl) rfl ?_
    refine WL.valF (φ := Row 3 api_Seg.encS api_Seg.inK A00 a0) (fact_at 0 rfl) (fun w hR => run_loadRowFA (A := A00) (xs := a0) (i := x2) (j := 0) (n := 3) (vs := [.int .i64 t4.Vid, .int .i64 t4.Vni, slcV (A00.s (Int.toNat x2)) t4.Peers.length]) h5 (fun _ => by kernel_rfl) (by kernel_rfl) (by kernel_rfl) (by kernel_rfl) rfl hR) (by kernel_rfl) (by kernel_rfl) rfl ?_
    refine WL.know (Row 1 (pl (encI .u32)) noK (A00.s (Int.toNat x2)) t4.Peers) [0] [Row 3 api_Seg.encS api_Seg.inK A00 a0] (by kernel_rfl) (fun w hψ => ((hψ _ (List.mem_singleton.2 rfl)).inner _ _ (getL_parts h5).2)) ?_
    obtain ⟨r6, h7, hM⟩ := bind_some hM
    refine WL.callE (X := Unit) [] [] [true] (fun _ => _) (vni_Of_1_calls b_0 (A00.s (Int.toNat x2)) t4.Vid t4.Vni t4.Peers a1 _ h7) rfl rfl (sub_pick [0] (by kernel_rfl)) (by kernel_rfl) (by kernel_rfl) (fun _ => rfl) (fun _ => ?_)
    refine WP.done ?_
    refine WP.cond r6 rfl rfl (fun c8 => ?_) (fun c8 => ?_)
    · replace hM := cond_t hM c8
      refine WP.seq ?_
      refine WP.rn [] [(4, .int .i64 x2), (17, .int .i64 x2)] ?_
      obtain rfl := Option.some.inj hM
      exact WP.ret [] [] (.int .i64 x2) (by kernel_rfl) (fun w' hw => ⟨(), rfl, (hw.pick [0] (by kernel_rfl)).lessF [1] (by kernel_rfl)⟩)
    · replace hM := cond_f hM c8
      refine WP.skip ?_
      refine WP.leave ?_
      refine WP.rn [] [(8, .int .i64 (i64 (x2 + 1))), (18, .int .i64 (i64 (x2 + 1)))] ?_
      exact WP.again' [0, 1, 4, 7, 8] (x1, i64 (x2 + 1)) hM (by kernel_rfl) (fun _ h => (h.pick [0] (by kernel_rfl)).lessF [1] (by kernel_rfl))
  · replace hM := cond_f hM c3
    refine WP.exit rfl ?_
    refine WP.seq ?_
    refine WP.rn [] [(4, .int .i64 (-1))] ?_
    obtain rfl := Option.some.inj hM
    exact WP.ret [] [] (.int .i64 (-1)) (by kernel_rfl) (fun w' hw => ⟨(), rfl, (hw.pick [0] (by kernel_rfl)).lessF [0] (by kernel_rfl)⟩)

end Go.Proofs.YtbbekdmndifkpaaGreatDoor

namespace Go.Proofs.YtbbekdmndifkpaaGreatDoor
open Go Eng
set_option linter.unusedVariables false
set_option linter.unusedSimpArgs false

/-! ### slices.Clone[[]uint32,uint32]: function 91 -/
def slices_Clone_uint32_uint32.f (a0 : (List Int)) : Option (List Int) := (roomL 4 a0.length).bind fun _ => some a0

set_option maxRecDepth 100000 in
theorem slices_Clone_uint32_uint32_calls (A00 : SkL Unit) (a0 : (List Int)) (r : (List Int)) (h : slices_Clone_uint32_uint32.f a0 = some r) : Does Tryz.prog 91 #[slcV A00 a0.length] [] ([Row 1 (pl (encI .u32)) noK A00 a0] ++ Glob) (fun x : SkL Unit => slcV x r.length) (fun _ => []) (fun _ => []) (fun x => [Row 1 (pl (encI .u32)) noK x r] ++ ([Row 1 (pl (encI .u32)) noK A00 a0] ++ Glob)) := by
  intro w Z hS
  refine calls_of (args := [slcV A00 a0.length]) (L := [(0, slcV A00 a0.length)]) (N := 8) (S := Sat w Z [] [] ([Row 1 (pl (encI .u32)) noK A00 a0] ++ Glob)) Tryz.func91 rfl rfl (Nat.le_of_ble_eq_true rfl) rfl hS ?_
  have hM := h
  clear h hS
  unfold slices_Clone_uint32_uint32.f at hM
  refine WP.fact (Row 1 (pl (encI .u32)) noK A00 a0) (fact_at 0 rfl) (fun w hw => hw.nil) (fun hn => ?_)
  obtain ⟨a, c, s, z⟩ := A00
  cases a with
  | none =>
    obtain ⟨h1, h2⟩ := hn rfl
    dsimp only at h1 h2
    subst h1; subst h2
    cases z with
    | none =>
      obtain ⟨u0, hu0, hM⟩ := bind_some hM
      obtain rfl := Option.some.inj hM
      show WP _ _ _ _ _ [(0, .slice none 0 0)] (Sat _ _ _ _ ([Row 1 (pl (encI .u32)) noK (⟨none, 0, s, none⟩ : SkL Unit) ([] : List Int)] ++ Glob))
      refine WP.seq ?_
      refine WP.rn [] [(2, .slice none 0 0)] ?_
      refine WP.seq ?_
      refine WP.seq ?_
      refine WP.rn [] [(4, .bool true)] ?_
      refine WP.yes rfl rfl ?_
      refine WP.seq ?_
      refine WP.rn [] [(2, .slice none 0 0)] ?_
      refine WP.know (Row 1 (pl (encI .u32)) noK (SkL.nil (fun _ => ())) ([] : List Int)) [] [] (by kernel_rfl) (fun w _ => RowP.empty (fun _ => rfl)) ?_
      exact WP.ret [] [] (slcV (SkL.nil (fun _ => ())) ([] : List Int).length) (by kernel_rfl) (fun w' hw => ⟨(SkL.nil (fun _ => ())), rfl, (hw.pick [] (by kernel_rfl)).less (sub_ret [0] [1] (by kernel_rfl) (by kernel_rfl))⟩)
    | some ad =>
      refine WP.seq ?_
      refine WP.rn [] [(2, .slice none 0 0)] ?_
      refine WP.seq ?_
      refine WP.seq ?_
      refine WP.rn [] [(4, .bool false)] ?_
      refine WP.no rfl rfl ?_
      refine WP.skip ?_
      refine WP.seq ?_
      refine WP.region ?_
      refine WL.rh 2 [] (fun b1 => [(5, .slice (some ⟨b1, 0, none⟩) 0 0), (6, slcV (⟨none, 0, s, some ad⟩ : SkL Unit) ([] : List Int).length)]) (fun b1 => []) (fun b1 => [(b1, .cells #[] 49 (0, 0))]) (fun b1 => ?_)
      obtain ⟨u3, h2, hM⟩ := bind_some hM
      refine WL.appendCopy (A := (SkL.at b1 0 (fun _ => ()))) (B := (⟨none, 0, s, some ad⟩ : SkL Unit)) (ys := ([] : List Int)) (n := 0) (m := 1) (by_ := 4) (e := 49) (z := .int .u32 0) (f := (pl (encI .u32))) (K := noK) (d := 7) rfl rfl (by kernel_rfl) (by kernel_rfl) (by kernel_rfl) (fun _ _ => rfl) (by kernel_rfl) (by kernel_rfl) rfl rfl (by kernel_rfl) (fact_at 0 rfl) h2 (by kernel_rfl) (fun A4 => ?_)
      refine WL.less (Φ' := [Row 1 (pl (encI .u32)) noK A4 ([] : List Int), Row 1 (pl (encI .u32)) noK (⟨none, 0, s, some ad⟩ : SkL Unit) ([] : List Int)] ++ Glob) (fun _ h => h) ?_
      refine WL.rn 1 [] [(2, slcV A4 ([] : List Int).length)] ?_
      refine WP.done ?_
      refine WP.kp [false] ?_
      obtain rfl := Option.some.inj hM
      exact WP.ret [] [] (slcV A4 ([] : List Int).length) (by kernel_rfl) (fun w' hw => ⟨A4, rfl, (hw.pick [] (by kernel_rfl)).less (sub_ret [0] [1] (by kernel_rfl) (by kernel_rfl))⟩)
  | some p =>
    obtain ⟨b, o⟩ := p
    refine WP.seq ?_
    refine WP.rn [] [(2, .slice none 0 0)] ?_
    refine WP.seq ?_
    refine WP.seq ?_
    refine WP.rn [] [(4, .bool false)] ?_
    refine WP.no rfl rfl ?_
    refine WP.skip ?_
    refine WP.seq ?_
    refine WP.region ?_
    refine WL.rh 2 [] (fun b1 => [(5, .slice (some ⟨b1, 0, none⟩) 0 0), (6, slcV (⟨some (b, o), c, s, z⟩ : SkL Unit) a0.length)]) (fun b1 => []) (fun b1 => [(b1, .cells #[] 49 (0, 0))]) (fun b1 => ?_)
    obtain ⟨u3, h2, hM⟩ := bind_some hM
    refine WL.appendCopy (A := (SkL.at b1 0 (fun _ => ()))) (B := (⟨some (b, o), c, s, z⟩ : SkL Unit)) (ys := a0) (n := 0) (m := 1) (by_ := 4) (e := 49) (z := .int .u32 0) (f := (pl (encI .u32))) (K := noK) (d := 7) rfl rfl (by kernel_rfl) (by kernel_rfl) (by kernel_rfl) (fun _ _ => rfl) (by kernel_rfl) (by kernel_rfl) rfl rfl (by kernel_rfl) (fact_at 0 rfl) h2 (by kernel_rfl) (fun A4 => ?_)
    refine WL.less (Φ' := [Row 1 (pl (encI .u32)) noK A4 a0, Row 1 (pl (encI .u32)) noK (⟨some (b, o), c, s, z⟩ : SkL Unit) a0] ++ Glob) (fun _ h => h) ?_
    refine WL.rn 1 [] [(2, slcV A4 a0.length)] ?_
    refine WP.done ?_
    refine WP.kp [false] ?_
    obtain rfl := Option.some.inj hM
    exact WP.ret [] [] (slcV A4 a0.length) (by kernel_rfl) (fun w' hw => ⟨A4, rfl, (hw.pick [] (by kernel_rfl)).less (sub_ret [0] [1] (by kernel_rfl) (by kernel_rfl))⟩)

end Go.Proofs.YtbbekdmndifkpaaGreatDoor

namespace Go.Proofs.YtbbekdmndifkpaaGreatDoor
open Go Eng
set_option linter.unusedVariables false
set_option linter.unusedSimpArgs false

/-! ### gangway/vni.first: function 84 -/
def vni_first.f (k : Nat) (a0 : (List api_Seg)) (a1 : Int) : Option (api_Seg × Bool) :=
  (api_Seg.f k a0 a1).bind fun r2 =>
  bif decide (r2 < 0) then
    some ((api_Seg.mk 0 0 ([] : List Int)), false)
  else
    (getL a0.length a0 r2).bind fun t5 =>
    (slices_Clone_uint32_uint32.f t5.Peers).bind fun r8 =>
    some ((api_Seg.mk t5.Vid t5.Vni r8), true)

set_option maxRecDepth 100000 in
theorem vni_first_calls (k : Nat) (b_0 : Nat) (A00 : SkL (SkL Unit)) (a0 : (List api_Seg)) (a1 : Int) (r : api_Seg × Bool) (h : vni_first.f k a0 a1 = some r) : Does Tryz.prog 84 #[slcV A00 a0.length, .func (.func 85) #[] #[.pointer (some ⟨b_0, 0, none⟩)]] [(b_0, .cells #[.int .i64 a1] 3 (0, 0))] ([Row 3 api_Seg.encS api_Seg.inK A00 a0] ++ Glob) (fun x : (SkL Unit) => .tuple #[.agg #[.int .i64 r.1.Vid, .int .i64 r.1.Vni, slcV x r.1.Peers.length], .bool r.2]) (fun x => [(b_0, .cells #[.int .i64 a1] 3 (0, 0))]) (fun _ => []) (fun x => [Row 1 (pl (encI .u32)) noK x r.1.Peers] ++ ([Row 3 api_Seg.encS api_Seg.inK A00 a0] ++ Glob)) := by
  intro w Z hS
  refine calls_of (args := [slcV A00 a0.length, .func (.func 85) #[] #[.pointer (some ⟨b_0, 0, none⟩)]]) (L := [(0, slcV A00 a0.length), (1, .func (.func 85) #[] #[.pointer (some ⟨b_0, 0, none⟩)])]) (N := 23) (S := Sat w Z [(b_0, .cells #[.int .i64 a1] 3 (0, 0))] [] ([Row 3 api_Seg.encS api_Seg.inK A00 a0] ++ Glob)) Tryz.func84 rfl rfl (Nat.le_of_ble_eq_true rfl) rfl hS ?_
  have hM := h
  clear h hS
  unfold vni_first.f at hM
  refine WP.seq ?_
  refine WP.rh [] (fun b1 => [(4, .pointer (some ⟨b1, 0, none⟩)), (5, .bool false)]) (fun b1 => []) (fun b1 => [(b1, .cells #[.int .i64 0, .int .i64 0, .slice none 0 0] 93 (0, 0))]) (fun b1 => ?_)
  refine WP.seq ?_
  refine WP.region ?_
  refine WL.rn 2 [] [(8, slcV A00 a0.length), (9, .func (.func 85) #[] #[.pointer (some ⟨b_0, 0, none⟩)])] ?_
  obtain ⟨r2, h3, hM⟩ := bind_some hM
  refine WL.callE (X := Unit) [] [] [true, false] (fun _ => _) (api_Seg_calls k b_0 A00 a0 a1 _ h3) rfl rfl (sub_pick [0] (by kernel_rfl)) (by kernel_rfl) (by kernel_rfl) (fun _ => rfl) (fun _ => ?_)
  refine WL.rn 1 [] [(6, .int .i64 r2)] ?_
  refine WP.done ?_
  refine WP.seq ?_
  refine WP.seq ?_
  refine WP.rn [] [(12, .bool (decide (r2 < 0)))] ?_
  refine WP.cond (decide (r2 < 0)) rfl rfl (fun c4 => ?_) (fun c4 => ?_)
  · replace hM := cond_t hM c4
    refine WP.seq ?_
    refine WP.rn [1, 1, 1] [(5, .bool false)] ?_
    refine WP.know (Row 1 (pl (encI .u32)) noK (SkL.nil (fun _ => ())) ([] : List Int)) [] [] (by kernel_rfl) (fun w _ => RowP.empty (fun _ => rfl)) ?_
    obtain rfl := Option.some.inj hM
    exact WP.ret [1, 1, 1] [b1, b1, b1] (.tuple #[.agg #[.int .i64 0, .int .i64 0, slcV (SkL.nil (fun _ => ())) ([] : List Int).length], .bool false]) (by kernel_rfl) (fun w' hw => ⟨(SkL.nil (fun _ => ())), rfl, (hw.pick [0] (by kernel_rfl)).less (sub_ret [0] [1] (by kernel_rfl) (by kernel_rfl))⟩)
  · replace hM := cond_f hM c4
    refine WP.skip ?_
    refine WP.seq ?_
    refine WP.region ?_
    refine WL.rn 2 [] [(14, slcV A00 a0.length), (15, .int .i64 r2)] ?_
    obtain ⟨t5, h6, hM⟩ := bind_some hM
    refine WL.valF (φ := Row 3 api_Seg.encS api_Seg.inK A00 a0) (fact_at 0 rfl) (fun w hR => run_indexRowF (A := A00) (xs := a0) (i := r2) (k := .i64) (e := 93) (m := 3) (by kernel_rfl) (by kernel_rfl) h6 (by kernel_rfl) (by kernel_rfl) hR) (by kernel_rfl) (by kernel_rfl) rfl ?_
    refine WL.valF (φ := Row 3 api_Seg.encS api_Seg.inK A00 a0) (fact_at 0 rfl) (fun w hR => run_loadRowFA (A := A00) (xs := a0) (i := r2) (j := 0) (n := 3) (vs := [.int .i64 t5.Vid, .int .i64 t5.Vni, slcV (A00.s (Int.toNat r2)) t5.Peers.length]) h6 (fun _ => by kernel_rfl) (by kernel_rfl) (by kernel_rfl) (by kernel_rfl) rfl hR) (by kernel_rfl) (by kernel_rfl) rfl ?_
    refine WL.know (Row 1 (pl (encI .u32)) noK (A00.s (Int.toNat r2)) t5.Peers) [0] [Row 3 api_Seg.encS api_Seg.inK A00 a0] (by kernel_rfl) (fun w hψ => ((hψ _ (List.mem_singleton.2 rfl)).inner _ _ (getL_parts h6).2)) ?_
    refine WL.rh 2 [2, 2, 2] (fun b7 => [(7, .pointer (some ⟨b7, 0, none⟩))]) (fun b7 => []) (fun b7 => [(b7, .cells #[.int .i64 t5.Vid, .int .i64 t5.Vni, slcV (A00.s (Int.toNat r2)) t5.Peers.length] 93 (0, 0))]) (fun b7 => ?_)
    refine WP.done ?_
    refine WP.seq ?_
    refine WP.region ?_
    refine WL.rn 2 [2] [(19, slcV (A00.s (Int.toNat r2)) t5.Peers.length)] ?_
    obtain ⟨r8, h9, hM⟩ := bind_some hM
    refine WL.callX (F0 := [Row 1 (pl (encI .u32)) noK (A00.s (Int.toNat r2)) t5.Peers]) [] [] [false, false, false] (fun _ => _) [0] (by kernel_rfl) (slices_Clone_uint32_uint32_calls (A00.s (Int.toNat r2)) t5.Peers _ h9) rfl rfl (by kernel_rfl) (by kernel_rfl) (fun _ => rfl) (fun A10 => ?_)
    refine WL.rh 2 [2] (fun _ => []) (fun _ => [(2, 2, [slcV A10 r8.length])]) (fun _ => []) (fun _ => ?_)
    refine WP.done ?_
    refine WP.seq ?_
    refine WP.rh [2, 2, 2, 1, 1, 1] (fun _ => [(5, .bool true)]) (fun _ => [(1, 0, [.int .i64 t5.Vid, .int .i64 t5.Vni, slcV A10 r8.length])]) (fun _ => []) (fun _ => ?_)
    refine WP.kp [true, true, false] ?_
    obtain rfl := Option.some.inj hM
    exact WP.ret [1, 1, 1] [b1, b1, b1] (.tuple #[.agg #[.int .i64 t5.Vid, .int .i64 t5.Vni, slcV A10 r8.length], .bool true]) (by kernel_rfl) (fun w' hw => ⟨A10, rfl, (hw.pick [0] (by kernel_rfl)).less (sub_ret [0] [2] (by kernel_rfl) (by kernel_rfl))⟩)

end Go.Proofs.YtbbekdmndifkpaaGreatDoor

namespace Go.Proofs.YtbbekdmndifkpaaGreatDoor
open Go Eng
set_option linter.unusedVariables false
set_option linter.unusedSimpArgs false

/-! ### gangway/vni.Of: function 50 -/
def vni_Of.f (k : Nat) (a0 : (List api_Seg)) (a1 : Int) : Option (api_Seg × Bool) :=
  (vni_first.f k a0 a1).bind fun (r2, r3) =>
  some (r2, r3)

set_option maxRecDepth 100000 in
theorem vni_Of_calls (k : Nat) (A00 : SkL (SkL Unit)) (a0 : (List api_Seg)) (a1 : Int) (r : api_Seg × Bool) (h : vni_Of.f k a0 a1 = some r) : Does Tryz.prog 50 #[slcV A00 a0.length, .int .i64 a1] [] ([Row 3 api_Seg.encS api_Seg.inK A00 a0] ++ Glob) (fun x : (SkL Unit) => .tuple #[.agg #[.int .i64 r.1.Vid, .int .i64 r.1.Vni, slcV x r.1.Peers.length], .bool r.2]) (fun x => []) (fun _ => []) (fun x => [Row 1 (pl (encI .u32)) noK x r.1.Peers] ++ ([Row 3 api_Seg.encS api_Seg.inK A00 a0] ++ Glob)) := by
  intro w Z hS
  refine calls_of (args := [slcV A00 a0.length, .int .i64 a1]) (L := [(0, slcV A00 a0.length), (1, .int .i64 a1)]) (N := 11) (S := Sat w Z [] [] ([Row 3 api_Seg.encS api_Seg.inK A00 a0] ++ Glob)) Tryz.func50 rfl rfl (Nat.le_of_ble_eq_true rfl) rfl hS ?_
  have hM := h
  clear h hS
  unfold vni_Of.f at hM
  refine WP.seq ?_
  refine WP.rh [] (fun b1 => [(3, .pointer (some ⟨b1, 0, none⟩)), (4, .pointer (some ⟨(b1 + 1), 0, none⟩)), (5, .bool false)]) (fun b1 => []) (fun b1 => [(b1, .cells #[.int .i64 a1] 3 (0, 0)), ((b1 + 1), .cells #[.int .i64 0, .int .i64 0, .slice none 0 0] 93 (0, 0))]) (fun b1 => ?_)
  refine WP.seq ?_
  refine WP.region ?_
  refine WL.rn 2 [] [(6, slcV A00 a0.length), (7, .func (.func 85) #[] #[.pointer (some ⟨b1, 0, none⟩)])] ?_
  obtain ⟨⟨r2, r3⟩, h4, hM⟩ := bind_some hM
  dsimp only at hM
  refine WL.callX (F0 := [Row 3 api_Seg.encS api_Seg.inK A00 a0]) [] [] [true, false] (fun _ => _) [0] (by kernel_rfl) (vni_first_calls k b1 A00 a0 a1 _ h4) rfl rfl (by kernel_rfl) (by kernel_rfl) (fun _ => rfl) (fun A5 => ?_)
  refine WL.rh 4 [1, 1, 1] (fun _ => [(5, .bool r3)]) (fun _ => [(1, 0, [.int .i64 r2.Vid, .int .i64 r2.Vni, slcV A5 r2.Peers.length])]) (fun _ => []) (fun _ => ?_)
  refine WP.done ?_
  refine WP.kp [false, true] ?_
  obtain rfl := Option.some.inj hM
  exact WP.ret [0, 0, 0] [(b1 + 1), (b1 + 1), (b1 + 1)] (.tuple #[.agg #[.int .i64 r2.Vid, .int .i64 r2.Vni, slcV A5 r2.Peers.length], .bool r3]) (by kernel_rfl) (fun w' hw => ⟨A5, rfl, (hw.pick [] (by kernel_rfl)).less (sub_ret [0] [1] (by kernel_rfl) (by kernel_rfl))⟩)

end Go.Proofs.YtbbekdmndifkpaaGreatDoor

namespace Go.Proofs.YtbbekdmndifkpaaGreatDoor
open Go Eng
set_option linter.unusedVariables false
set_option linter.unusedSimpArgs false

/-! ### gangway/trace.same: function 30 -/
def trace_same.f (k : Nat) (a0 : (List api_Gate)) (a1 : trace_seen) (a2 : trace_seen) : Option (Bool) :=
  bif ((!a1.is_) || (!a2.is_)) then
    some false
  else
    bif ((a1.Event.Gate == a2.Event.Gate) && (a1.vid == a2.vid)) then
      some true
    else
      (getL a0.length a0 (i64 (a1.Event.Gate - 1))).bind fun t5 =>
      (vni_Of.f k t5.Segs a1.vid).bind fun (r7, r8) =>
      (getL a0.length a0 (i64 (a2.Event.Gate - 1))).bind fun t13 =>
      (vni_Of.f k t13.Segs a2.vid).bind fun (r15, r16) =>
      some ((r8 && r16) && (r7.Vni == r15.Vni))

set_option maxRecDepth 100000 in
theorem trace_same_calls (k : Nat) (A00 : SkL ((SkL (SkL Unit)) × (SkL Unit) × (SkL (SkL Unit)) × (SkL Unit))) (a0 : (List api_Gate)) (a1 : trace_seen) (a2 : trace_seen) (r : Bool) (h : trace_same.f k a0 a1 a2 = some r) : Pure Tryz.prog ([Row 21 api_Gate.encS api_Gate.inK A00 a0] ++ Glob) 30 #[slcV A00 a0.length, trace_seen.v a1, trace_seen.v a2] (.bool r) := by
  intro w Z hS
  refine calls_of (args := [slcV A00 a0.length, trace_seen.v a1, trace_seen.v a2]) (L := [(0, slcV A00 a0.length), (1, trace_seen.v a1), (2, trace_seen.v a2)]) (N := 72) (S := Sat w Z [] [] ([Row 21 api_Gate.encS api_Gate.inK A00 a0] ++ Glob)) Tryz.func30 rfl rfl (Nat.le_of_ble_eq_true rfl) rfl hS ?_
  have hM := h
  clear h hS
  unfold trace_same.f at hM
  refine WP.seq ?_
  refine WP.rh [] (fun b1 => [(4, .pointer (some ⟨b1, 0, none⟩)), (5, .pointer (some ⟨(b1 + 1), 0, none⟩)), (6, .bool false)]) (fun b1 => []) (fun b1 => [(b1, trace_seen.o a1), ((b1 + 1), trace_seen.o a2)]) (fun b1 => ?_)
  refine WP.seq ?_
  refine WP.seq ?_
  refine WP.region ?_
  refine WL.rn 4 [0] [(14, .bool (!a1.is_))] ?_
  refine WL.bo 14 (!a1.is_) 4 [] [1] (fun b' => [(18, .bool (b' || (!a2.is_)))]) ?_
  refine WP.done ?_
  refine WP.cond ((!a1.is_) || (!a2.is_)) rfl rfl (fun c2 => ?_) (fun c2 => ?_)
  · replace hM := cond_t hM c2
    refine WP.seq ?_
    refine WP.rn [] [(6, .bool false)] ?_
    obtain rfl := Option.some.inj hM
    exact WP.ret [] [] (.bool false) (by kernel_rfl) (fun w' hw => ⟨rfl, (hw.pick [] rfl).lessF [0] (by kernel_rfl)⟩)
  · replace hM := cond_f hM c2
    refine WP.skip ?_
    refine WP.seq ?_
    refine WP.seq ?_
    refine WP.region ?_
    refine WL.rn 8 [0, 1] [(26, .bool (a1.Event.Gate == a2.Event.Gate))] ?_
    refine WL.bo 26 (a1.Event.Gate == a2.Event.Gate) 6 [0, 1] [] (fun b' => [(32, .bool (b' && (a1.vid == a2.vid)))]) ?_
    refine WP.done ?_
    refine WP.cond ((a1.Event.Gate == a2.Event.Gate) && (a1.vid == a2.vid)) rfl rfl (fun c3 => ?_) (fun c3 => ?_)
    · replace hM := cond_t hM c3
      refine WP.seq ?_
      refine WP.rn [] [(6, .bool true)] ?_
      obtain rfl := Option.some.inj hM
      exact WP.ret [] [] (.bool true) (by kernel_rfl) (fun w' hw => ⟨rfl, (hw.pick [] rfl).lessF [0] (by kernel_rfl)⟩)
    · replace hM := cond_f hM c3
      refine WP.skip ?_
      refine WP.seq ?_
      obtain ⟨t5, h6, hM⟩ := bind_some hM
      obtain ⟨⟨r7, r8⟩, h9, hM⟩ := bind_some hM
      dsimp only at hM
      refine WP.sub [0, 4, 5, 6] (L' := [(0, slcV A00 a0.length), (4, .pointer (some ⟨b1, 0, none⟩)), (5, .pointer (some ⟨(b1 + 1), 0, none⟩)), (6, .bool false)]) (by kernel_rfl) ?_
      refine WP.mixed (X := (SkL Unit)) 16 [.val (slcV A00 a0.length), .val (.pointer (some ⟨b1, 0, none⟩)), .val (.pointer (some ⟨b1, 1, none⟩)), .val (.int .i64 a1.Event.Gate), .val (.int .i64 (i64 (a1.Event.Gate - 1))), .val (ptrV A00 (Int.toNat (i64 (a1.Event.Gate - 1)) * 21)), .val (ptrV A00 (Int.toNat (i64 (a1.Event.Gate - 1)) * 21 + 17)), .val (slcV ((A00.s (Int.toNat (i64 (a1.Event.Gate - 1)))).2.2.1) t5.Segs.length), .val (.pointer (some ⟨b1, 4, none⟩)), .val (.int .i64 a1.vid), .ex [] (fun tt => .tuple #[.agg #[.int .i64 r7.Vid, .int .i64 r7.Vni, slcV (tt 10) r7.Peers.length], .bool r8]) (fun tt => [Row 1 (pl (encI .u32)) noK (tt 10) r7.Peers]), .valX [10] (fun tt => .tuple #[.agg #[.int .i64 r7.Vid, .int .i64 r7.Vni, slcV (tt 10) r7.Peers.length], .bool r8]), .valX [10] (fun tt => .agg #[.int .i64 r7.Vid, .int .i64 r7.Vni, slcV (tt 10) r7.Peers.length]), .val (.bool r8), .alloc (.cells #[.int .i64 0, .int .i64 0, .slice none 0 0] 93 (0, 0)) (fun b => .pointer (some ⟨b, 0, none⟩)), .fill 14 [10] (fun tt => .cells #[.int .i64 r7.Vid, .int .i64 r7.Vni, slcV (tt 10) r7.Peers.length] 93 (0, 0))] [(b1, trace_seen.o a1), ((b1 + 1), trace_seen.o a2)] [] (by kernel_rfl) (by kernel_rfl) (by kernel_rfl) (by kernel_rfl) (Heads.val (fun tt Ψ => OpV.run [] [] (by kernel_rfl) (fun _ => by kernel_rfl)) (Heads.val (fun tt Ψ => OpV.run [] [] (by kernel_rfl) (fun _ => by kernel_rfl)) (Heads.val (fun tt Ψ => OpV.run [] [] (by kernel_rfl) (fun _ => by kernel_rfl)) (Heads.val (fun tt Ψ => OpV.run [0] [b1] (by kernel_rfl) (fun _ => by kernel_rfl)) (Heads.val (fun tt Ψ => OpV.run [] [] (by kernel_rfl) (fun _ => by kernel_rfl)) (Heads.val (fun tt Ψ => OpV.valF (φ := Row 21 api_Gate.encS api_Gate.inK A00 a0) (List.mem_append_right _ (fact_at 0 rfl)) (fun w hR => run_indexRowF (A := A00) (xs := a0) (i := i64 (a1.Event.Gate - 1)) (k := .i64) (e := 73) (m := 21) (by kernel_rfl) (by kernel_rfl) h6 (by kernel_rfl) (by kernel_rfl) hR) (by kernel_rfl)) (Heads.val (fun tt Ψ => OpV.valF (φ := Row 21 api_Gate.encS api_Gate.inK A00 a0) (List.mem_append_right _ (fact_at 0 rfl)) (fun w hR => run_fieldRowF (A := A00) (xs := a0) (i := i64 (a1.Event.Gate - 1)) (n := Int.toNat (i64 (a1.Event.Gate - 1)) * 21 + 0) (n' := Int.toNat (i64 (a1.Event.Gate - 1)) * 21 + 17) h6 (by kernel_rfl) (fun _ _ => by kernel_rfl) hR) (by kernel_rfl)) (Heads.val (fun tt Ψ => OpV.valF (φ := Row 21 api_Gate.encS api_Gate.inK A00 a0) (List.mem_append_right _ (fact_at 0 rfl)) (fun w hR => run_loadRowF (A := A00) (xs := a0) (i := i64 (a1.Event.Gate - 1)) (j := 17) (v := slcV ((A00.s (Int.toNat (i64 (a1.Event.Gate - 1)))).2.2.1) t5.Segs.length) h6 (fun _ => by kernel_rfl) (by kernel_rfl) (by kernel_rfl) hR) (by kernel_rfl)) (Heads.val (fun tt Ψ => OpV.run [] [] (by kernel_rfl) (fun _ => by kernel_rfl)) (Heads.val (fun tt Ψ => OpV.run [0] [b1] (by kernel_rfl) (fun _ => by kernel_rfl)) (Heads.ex (fun x x' h => ⟨(by first | rfl | simp only [h 10 (List.mem_cons_self ..)]), (by first | rfl | simp only [h 10 (List.mem_cons_self ..)])⟩) (fun tt Ψ hΨ => OpX.know (φ := Row 3 api_Seg.encS api_Seg.inK ((A00.s (Int.toNat (i64 (a1.Event.Gate - 1)))).2.2.1) t5.Segs) [Row 21 api_Gate.encS api_Gate.inK A00 a0] (one_fact (List.mem_append_right _ (fact_at 0 rfl))) (fun w hψ => ((hψ _ (List.mem_singleton.2 rfl)).inner _ _ (getL_parts h6).2).2.2.1) (OpX.callX (F0 := [Row 3 api_Seg.encS api_Seg.inK ((A00.s (Int.toNat (i64 (a1.Event.Gate - 1)))).2.2.1) t5.Segs]) (fun u => u) [] [] (app2 (mem2 (List.mem_cons_self ..) no_facts) (fun _ h => (List.mem_cons_of_mem _ (List.mem_append_right _ (List.mem_append_right _ h))))) (fun _ h => (List.mem_cons_of_mem _ h)) (vni_Of_calls k ((A00.s (Int.toNat (i64 (a1.Event.Gate - 1)))).2.2.1) t5.Segs a1.vid _ h9) (fun x => ⟨x, rfl⟩) (fun _ => by kernel_rfl) (fun _ => by kernel_rfl) (fun _ => by kernel_rfl))) (Heads.valX (fun x x' h => (by first | rfl | simp only [h 10 (List.mem_of_getElem? (i := 0) rfl)])) (fun tt Ψ hΨ => OpV.run [] [] (by kernel_rfl) (fun _ => by kernel_rfl)) (Heads.valX (fun x x' h => (by first | rfl | simp only [h 10 (List.mem_of_getElem? (i := 0) rfl)])) (fun tt Ψ hΨ => OpV.run [] [] (by kernel_rfl) (fun _ => by kernel_rfl)) (Heads.val (fun tt Ψ => OpV.run [] [] (by kernel_rfl) (fun _ => by kernel_rfl)) (Heads.alloc (fun _ => by kernel_rfl) (fun _ _ => by kernel_rfl) (Heads.fill (fun x x' h => (by first | rfl | simp only [h 10 (List.mem_of_getElem? (i := 0) rfl)])) 7 (fun b => .pointer (some ⟨b, 0, none⟩)) (.cells #[.int .i64 0, .int .i64 0, .slice none 0 0] 93 (0, 0)) rfl rfl (fun tt Ψ => OpF.run [2, 2, 2] (fun b => [b, b, b]) (fun _ => by kernel_rfl) (fun _ _ _ => by kernel_rfl) (fun _ _ _ => by kernel_rfl)) Heads.nil)))))))))))))))) (fun s4 tt => [(34, slcV A00 a0.length), (35, .pointer (some ⟨b1, 0, none⟩)), (36, .pointer (some ⟨b1, 1, none⟩)), (37, .int .i64 a1.Event.Gate), (38, .int .i64 (i64 (a1.Event.Gate - 1))), (39, ptrV A00 (Int.toNat (i64 (a1.Event.Gate - 1)) * 21)), (40, ptrV A00 (Int.toNat (i64 (a1.Event.Gate - 1)) * 21 + 17)), (41, slcV ((A00.s (Int.toNat (i64 (a1.Event.Gate - 1)))).2.2.1) t5.Segs.length), (42, .pointer (some ⟨b1, 4, none⟩)), (43, .int .i64 a1.vid), (44, .tuple #[.agg #[.int .i64 r7.Vid, .int .i64 r7.Vni, slcV (tt 10) r7.Peers.length], .bool r8]), (33, .tuple #[.agg #[.int .i64 r7.Vid, .int .i64 r7.Vni, slcV (tt 10) r7.Peers.length], .bool r8]), (45, .agg #[.int .i64 r7.Vid, .int .i64 r7.Vni, slcV (tt 10) r7.Peers.length]), (46, .bool r8), (7, .pointer (some ⟨(s4 14), 0, none⟩)), (0, slcV A00 a0.length), (4, .pointer (some ⟨b1, 0, none⟩)), (5, .pointer (some ⟨(b1 + 1), 0, none⟩)), (6, .bool false)]) (fun s4 tt => [(b1, trace_seen.o a1), ((b1 + 1), trace_seen.o a2), ((s4 14), .cells #[.int .i64 r7.Vid, .int .i64 r7.Vni, slcV (tt 10) r7.Peers.length] 93 (0, 0))]) (fun tt => ([Row 1 (pl (encI .u32)) noK (tt 10) r7.Peers] ++ [Row 21 api_Gate.encS api_Gate.inK A00 a0]) ++ Glob) (fun _ _ => by kernel_rfl) (fun _ _ => by kernel_rfl) (fun _ => by kernel_rfl) (fun s4 tt => ?_)
      generalize s4 14 = b11
      generalize (tt 10) = A10
      refine WL.rn 1 [] [(8, .bool r8)] ?_
      refine WP.done ?_
      refine WP.kp [false, true, true] ?_
      refine WP.seq ?_
      obtain ⟨t13, h14, hM⟩ := bind_some hM
      obtain ⟨⟨r15, r16⟩, h17, hM⟩ := bind_some hM
      dsimp only at hM
      refine WP.sub [0, 5, 6, 7, 8] (L' := [(0, slcV A00 a0.length), (5, .pointer (some ⟨(b1 + 1), 0, none⟩)), (6, .bool false), (7, .pointer (some ⟨b11, 0, none⟩)), (8, .bool r8)]) (by kernel_rfl) ?_
      refine WP.mixed (X := (SkL Unit)) 16 [.val (slcV A00 a0.length), .val (.pointer (some ⟨(b1 + 1), 0, none⟩)), .val (.pointer (some ⟨(b1 + 1), 1, none⟩)), .val (.int .i64 a2.Event.Gate), .val (.int .i64 (i64 (a2.Event.Gate - 1))), .val (ptrV A00 (Int.toNat (i64 (a2.Event.Gate - 1)) * 21)), .val (ptrV A00 (Int.toNat (i64 (a2.Event.Gate - 1)) * 21 + 17)), .val (slcV ((A00.s (Int.toNat (i64 (a2.Event.Gate - 1)))).2.2.1) t13.Segs.length), .val (.pointer (some ⟨(b1 + 1), 4, none⟩)), .val (.int .i64 a2.vid), .ex [] (fun tt => .tuple #[.agg #[.int .i64 r15.Vid, .int .i64 r15.Vni, slcV (tt 10) r15.Peers.length], .bool r16]) (fun tt => [Row 1 (pl (encI .u32)) noK (tt 10) r15.Peers]), .valX [10] (fun tt => .tuple #[.agg #[.int .i64 r15.Vid, .int .i64 r15.Vni, slcV (tt 10) r15.Peers.length], .bool r16]), .valX [10] (fun tt => .agg #[.int .i64 r15.Vid, .int .i64 r15.Vni, slcV (tt 10) r15.Peers.length]), .val (.bool r16), .alloc (.cells #[.int .i64 0, .int .i64 0, .slice none 0 0] 93 (0, 0)) (fun b => .pointer (some ⟨b, 0, none⟩)), .fill 14 [10] (fun tt => .cells #[.int .i64 r15.Vid, .int .i64 r15.Vni, slcV (tt 10) r15.Peers.length] 93 (0, 0))] [((b1 + 1), trace_seen.o a2), (b11, .cells #[.int .i64 r7.Vid, .int .i64 r7.Vni, slcV A10 r7.Peers.length] 93 (0, 0))] [] (by kernel_rfl) (by kernel_rfl) (by kernel_rfl) (by kernel_rfl) (Heads.val (fun tt Ψ => OpV.run [] [] (by kernel_rfl) (fun _ => by kernel_rfl)) (Heads.val (fun tt Ψ => OpV.run [] [] (by kernel_rfl) (fun _ => by kernel_rfl)) (Heads.val (fun tt Ψ => OpV.run [] [] (by kernel_rfl) (fun _ => by kernel_rfl)) (Heads.val (fun tt Ψ => OpV.run [0] [(b1 + 1)] (by kernel_rfl) (fun _ => by kernel_rfl)) (Heads.val (fun tt Ψ => OpV.run [] [] (by kernel_rfl) (fun _ => by kernel_rfl)) (Heads.val (fun tt Ψ => OpV.valF (φ := Row 21 api_Gate.encS api_Gate.inK A00 a0) (List.mem_append_right _ (fact_at 1 rfl)) (fun w hR => run_indexRowF (A := A00) (xs := a0) (i := i64 (a2.Event.Gate - 1)) (k := .i64) (e := 73) (m := 21) (by kernel_rfl) (by kernel_rfl) h14 (by kernel_rfl) (by kernel_rfl) hR) (by kernel_rfl)) (Heads.val (fun tt Ψ => OpV.valF (φ := Row 21 api_Gate.encS api_Gate.inK A00 a0) (List.mem_append_right _ (fact_at 1 rfl)) (fun w hR => run_fieldRowF (A := A00) (xs := a0) (i := i64 (a2.Event.Gate - 1)) (n := Int.toNat (i64 (a2.Event.Gate - 1)) * 21 + 0) (n' := Int.toNat (i64 (a2.Event.Gate - 1)) * 21 + 17) h14 (by kernel_rfl) (fun _ _ => by kernel_rfl) hR) (by kernel_rfl)) (Heads.val (fun tt Ψ => OpV.valF (φ := Row 21 api_Gate.encS api_Gate.inK A00 a0) (List.mem_append_right _ (fact_at 1 rfl)) (fun w hR => run_loadRowF (A := A00) (xs := a0) (i := i64 (a2.Event.Gate - 1)) (j := 17) (v := slcV ((A00.s (Int.toNat (i64 (a2.Event.Gate - 1)))).2.2.1) t13.Segs.length) h14 (fun _ => by kernel_rfl) (by kernel_rfl) (by kernel_rfl) hR) (by kernel_rfl)) (Heads.val (fun tt Ψ => OpV.run [] [] (by kernel_rfl) (fun _ => by kernel_rfl)) (Heads.val (fun tt Ψ => OpV.run [0] [(b1 + 1)] (by kernel_rfl) (fun _ => by kernel_rfl)) (Heads.ex (fun x x' h => ⟨(by first | rfl | simp only [h 10 (List.mem_cons_self ..)]), (by first | rfl | simp only [h 10 (List.mem_cons_self ..)])⟩) (fun tt Ψ hΨ => OpX.know (φ := Row 3 api_Seg.encS api_Seg.inK ((A00.s (Int.toNat (i64 (a2.Event.Gate - 1)))).2.2.1) t13.Segs) [Row 21 api_Gate.encS api_Gate.inK A00 a0] (one_fact (List.mem_append_right _ (fact_at 1 rfl))) (fun w hψ => ((hψ _ (List.mem_singleton.2 rfl)).inner _ _ (getL_parts h14).2).2.2.1) (OpX.callX (F0 := [Row 3 api_Seg.encS api_Seg.inK ((A00.s (Int.toNat (i64 (a2.Event.Gate - 1)))).2.2.1) t13.Segs]) (fun u => u) [] [] (app2 (mem2 (List.mem_cons_self ..) no_facts) (fun _ h => (List.mem_cons_of_mem _ (List.mem_append_right _ (List.mem_append_right _ h))))) (fun _ h => (List.mem_cons_of_mem _ h)) (vni_Of_calls k ((A00.s (Int.toNat (i64 (a2.Event.Gate - 1)))).2.2.1) t13.Segs a2.vid _ h17) (fun x => ⟨x, rfl⟩) (fun _ => by kernel_rfl) (fun _ => by kernel_rfl) (fun _ => by kernel_rfl))) (Heads.valX (fun x x' h => (by first | rfl | simp only [h 10 (List.mem_of_getElem? (i := 0) rfl)])) (fun tt Ψ hΨ => OpV.run [] [] (by kernel_rfl) (fun _ => by kernel_rfl)) (Heads.valX (fun x x' h => (by first | rfl | simp only [h 10 (List.mem_of_getElem? (i := 0) rfl)])) (fun tt Ψ hΨ => OpV.run [] [] (by kernel_rfl) (fun _ => by kernel_rfl)) (Heads.val (fun tt Ψ => OpV.run [] [] (by kernel_rfl) (fun _ => by kernel_rfl)) (Heads.alloc (fun _ => by kernel_rfl) (fun _ _ => by kernel_rfl) (Heads.fill (fun x x' h => (by first | rfl | simp only [h 10 (List.mem_of_getElem? (i := 0) rfl)])) 9 (fun b => .pointer (some ⟨b, 0, none⟩)) (.cells #[.int .i64 0, .int .i64 0, .slice none 0 0] 93 (0, 0)) rfl rfl (fun tt Ψ => OpF.run [2, 2, 2] (fun b => [b, b, b]) (fun _ => by kernel_rfl) (fun _ _ _ => by kernel_rfl) (fun _ _ _ => by kernel_rfl)) Heads.nil)))))))))))))))) (fun s12 tt => [(48, slcV A00 a0.length), (49, .pointer (some ⟨(b1 + 1), 0, none⟩)), (50, .pointer (some ⟨(b1 + 1), 1, none⟩)), (51, .int .i64 a2.Event.Gate), (52, .int .i64 (i64 (a2.Event.Gate - 1))), (53, ptrV A00 (Int.toNat (i64 (a2.Event.Gate - 1)) * 21)), (54, ptrV A00 (Int.toNat (i64 (a2.Event.Gate - 1)) * 21 + 17)), (55, slcV ((A00.s (Int.toNat (i64 (a2.Event.Gate - 1)))).2.2.1) t13.Segs.length), (56, .pointer (some ⟨(b1 + 1), 4, none⟩)), (57, .int .i64 a2.vid), (58, .tuple #[.agg #[.int .i64 r15.Vid, .int .i64 r15.Vni, slcV (tt 10) r15.Peers.length], .bool r16]), (47, .tuple #[.agg #[.int .i64 r15.Vid, .int .i64 r15.Vni, slcV (tt 10) r15.Peers.length], .bool r16]), (59, .agg #[.int .i64 r15.Vid, .int .i64 r15.Vni, slcV (tt 10) r15.Peers.length]), (60, .bool r16), (9, .pointer (some ⟨(s12 14), 0, none⟩)), (0, slcV A00 a0.length), (5, .pointer (some ⟨(b1 + 1), 0, none⟩)), (6, .bool false), (7, .pointer (some ⟨b11, 0, none⟩)), (8, .bool r8)]) (fun s12 tt => [((b1 + 1), trace_seen.o a2), (b11, .cells #[.int .i64 r7.Vid, .int .i64 r7.Vni, slcV A10 r7.Peers.length] 93 (0, 0)), ((s12 14), .cells #[.int .i64 r15.Vid, .int .i64 r15.Vni, slcV (tt 10) r15.Peers.length] 93 (0, 0))]) (fun tt => ([Row 1 (pl (encI .u32)) noK (tt 10) r15.Peers] ++ [Row 1 (pl (encI .u32)) noK A10 r7.Peers, Row 21 api_Gate.encS api_Gate.inK A00 a0]) ++ Glob) (fun _ _ => by kernel_rfl) (fun _ _ => by kernel_rfl) (fun _ => by kernel_rfl) (fun s12 tt => ?_)
      generalize s12 14 = b19
      generalize (tt 10) = A18
      refine WL.rn 1 [] [(10, .bool r16)] ?_
      refine WP.done ?_
      refine WP.kp [false, true, true] ?_
      refine WP.seq ?_
      refine WP.region ?_
      refine WL.rn 2 [] [(62, .bool r8)] ?_
      refine WL.bo 62 r8 2 [] [] (fun b' => [(64, .bool (b' && r16))]) ?_
      refine WL.rn 1 [] [(65, .bool (r8 && r16))] ?_
      refine WL.bo 65 (r8 && r16) 6 [0, 1] [] (fun b' => [(71, .bool (b' && (r7.Vni == r15.Vni)))]) ?_
      refine WL.rn 1 [] [(6, .bool ((r8 && r16) && (r7.Vni == r15.Vni)))] ?_
      refine WP.done ?_
      refine WP.kp [false, false] ?_
      obtain rfl := Option.some.inj hM
      exact WP.ret [] [] (.bool ((r8 && r16) && (r7.Vni == r15.Vni))) (by kernel_rfl) (fun w' hw => ⟨rfl, (hw.pick [] rfl).lessF [2] (by kernel_rfl)⟩)

end Go.Proofs.YtbbekdmndifkpaaGreatDoor

namespace Go.Proofs.YtbbekdmndifkpaaGreatDoor
open Go Eng
set_option linter.unusedVariables false
set_option linter.unusedSimpArgs false

/-! ### gangway/trace.carried: function 16 -/
def trace_carried.k1 (x16 : Bool) : Option (Option (Bool)) :=
  bif x16 then
    some (some true)
  else
    some none

def trace_carried.k2 (x9 : trace_seen) (t2 : trace_seen) (x14 : Bool) : Option (Option (Bool)) :=
  bif x14 then
    trace_carried.k1 ((x9.f.Dst == t2.f.Dst) && ((x9.f.Src == t2.f.Src) && (((x9.f.Tag.Has == t2.f.Tag.Has) && ((x9.f.Tag.Pri == t2.f.Tag.Pri) && ((x9.f.Tag.Dei == t2.f.Tag.Dei) && ((x9.f.Tag.Vid == t2.f.Tag.Vid) && true)))) && ((x9.f.Type_ == t2.f.Type_) && ((x9.f.Body == t2.f.Body) && true)))))
  else
    trace_carried.k1 false

def trace_carried.b3 (t2 : trace_seen) (k : Nat) (a0 : (List api_Gate)) (x9 : trace_seen) : Option (Option (Bool)) :=
  bif ((x9.Event.Gate != t2.Event.Gate) || (x9.Event.Port != t2.Event.Port)) then
    (trace_same.f k a0 x9 t2).bind fun r12 =>
    trace_carried.k2 x9 t2 r12
  else
    trace_carried.k2 x9 t2 false

def trace_carried.f (k : Nat) (a0 : (List api_Gate)) (a1 : (List trace_seen)) (a2 : Int) : Option (Bool) :=
  (getL a1.length a1 a2).bind fun t2 =>
  (trace_came.f a1 a2).bind fun (r5, r6) =>
  trace_came_1.f k r5 r6 (trace_carried.b3 t2 k a0) (
    some false)

set_option maxRecDepth 100000 in
theorem trace_carried_calls (k : Nat) (A00 : SkL ((SkL (SkL Unit)) × (SkL Unit) × (SkL (SkL Unit)) × (SkL Unit))) (A01 : SkL Unit) (a0 : (List api_Gate)) (a1 : (List trace_seen)) (a2 : Int) (r : Bool) (h : trace_carried.f k a0 a1 a2 = some r) : Pure Tryz.prog ([Row 21 api_Gate.encS api_Gate.inK A00 a0, Row 14 (pl trace_seen.enc) noK A01 a1] ++ Glob) 16 #[slcV A00 a0.length, slcV A01 a1.length, .int .i64 a2] (.bool r) := by
  intro w Z hS
  refine calls_of (args := [slcV A00 a0.length, slcV A01 a1.length, .int .i64 a2]) (L := [(0, slcV A00 a0.length), (1, slcV A01 a1.length), (2, .int .i64 a2)]) (N := 46) (S := Sat w Z [] [] ([Row 21 api_Gate.encS api_Gate.inK A00 a0, Row 14 (pl trace_seen.enc) noK A01 a1] ++ Glob)) Tryz.func16 rfl rfl (Nat.le_of_ble_eq_true rfl) rfl hS ?_
  have hM := h
  clear h hS
  unfold trace_carried.f at hM
  refine WP.seq ?_
  refine WP.rh [] (fun b1 => [(3, .pointer (some ⟨b1, 0, none⟩)), (6, .pointer (some ⟨(b1 + 1), 0, none⟩))]) (fun b1 => []) (fun b1 => [(b1, .cells #[slcV A00 a0.length] 22 (0, 0)), ((b1 + 1), .cells #[.bool false] 4 (0, 0))]) (fun b1 => ?_)
  refine WP.seq ?_
  refine WP.region ?_
  refine WL.rn 2 [] [(9, slcV A01 a1.length), (10, .int .i64 a2)] ?_
  obtain ⟨t2, h3, hM⟩ := bind_some hM
  refine WL.valF (φ := Row 14 (pl trace_seen.enc) noK A01 a1) (fact_at 1 rfl) (fun w hR => run_indexRowF (A := A01) (xs := a1) (i := a2) (k := .i64) (e := 42) (m := 14) (by kernel_rfl) (by kernel_rfl) h3 (by kernel_rfl) (by kernel_rfl) hR) (by kernel_rfl) (by kernel_rfl) rfl ?_
  refine WL.valF (φ := Row 14 (pl trace_seen.enc) noK A01 a1) (fact_at 1 rfl) (fun w hR => run_loadRowFA (A := A01) (xs := a1) (i := a2) (j := 0) (n := 14) (vs := [.bool t2.Event.In, .int .i64 t2.Event.Gate, .int .i64 t2.Event.Port, .string t2.Event.S, .int .i64 t2.vid, .int .u64 t2.f.Dst, .int .u64 t2.f.Src, .bool t2.f.Tag.Has, .int .i64 t2.f.Tag.Pri, .bool t2.f.Tag.Dei, .int .i64 t2.f.Tag.Vid, .int .i64 t2.f.Type_, .string t2.f.Body, .bool t2.is_]) h3 (fun _ => by kernel_rfl) (by kernel_rfl) (by kernel_rfl) (by kernel_rfl) rfl hR) (by kernel_rfl) (by kernel_rfl) rfl ?_
  refine WL.rh 2 [2, 2, 2, 2, 2, 2, 2, 2, 2, 2, 2, 2, 2, 2] (fun b4 => [(7, .pointer (some ⟨b4, 0, none⟩))]) (fun b4 => []) (fun b4 => [(b4, trace_seen.o t2)]) (fun b4 => ?_)
  refine WP.done ?_
  refine WP.seq ?_
  refine WP.seq ?_
  refine WP.region ?_
  refine WL.rn 2 [] [(13, slcV A01 a1.length), (14, .int .i64 a2)] ?_
  obtain ⟨⟨r5, r6⟩, h7, hM⟩ := bind_some hM
  dsimp only at hM
  refine WL.callX (F0 := [Row 14 (pl trace_seen.enc) noK A01 a1]) [] [] [false, false, false] (fun _ => _) [1] (by kernel_rfl) (trace_came_calls A01 a1 a2 _ h7) rfl rfl (by kernel_rfl) (by kernel_rfl) (fun _ => rfl) (fun A8 => ?_)
  refine WP.done ?_
  refine WP.block ?_
  refine WP.rangeFunc (Hi := [(A8.1, .cells #[slcV A8.2.1 r5.length] 35 (0, 0)), (A8.2.2, .cells #[.int .i64 r6] 3 (0, 0))]) (Hr := [(b1, .cells #[slcV A00 a0.length] 22 (0, 0)), ((b1 + 1), .cells #[.bool false] 4 (0, 0)), (b4, trace_seen.o t2)]) (trace_came_1_calls k A8.1 A8.2.2 A8.2.1 r5 r6) _ _ r hM (by kernel_rfl) [0] (by kernel_rfl) rfl rfl (entersE Tryz.func72 rfl rfl) rfl (fun q => [(b1, .cells #[slcV A00 a0.length] 22 (0, 0)), ((b1 + 1), .cells #[.bool q] 4 (0, 0)), (b4, trace_seen.o t2)]) ?_ ?_ ?_
  ·
    intro l K1 K2 hbg x9 r hM w Z
    replace hM : trace_carried.b3 t2 k a0 x9 = some r := hM
    unfold trace_carried.b3 at hM
    refine WP.rh [3, 3, 3, 3, 3, 3, 3, 3, 3, 3, 3, 3, 3, 3] (fun b10 => [(8, .pointer (some ⟨b10, 0, none⟩))]) (fun b10 => []) (fun b10 => [(b10, trace_seen.o x9)]) (fun b10 => ?_)
    refine WP.begin hbg ?_
    refine WP.block ?_
    refine WP.seq ?_
    refine WP.region ?_
    refine WL.rn 8 [3, 2] [(24, .bool (x9.Event.Gate != t2.Event.Gate))] ?_
    refine WL.bo 24 (x9.Event.Gate != t2.Event.Gate) 8 [] [3, 2] (fun b' => [(32, .bool (b' || (x9.Event.Port != t2.Event.Port)))]) ?_
    refine WL.rn 1 [] [(33, .bool ((x9.Event.Gate != t2.Event.Gate) || (x9.Event.Port != t2.Event.Port)))] ?_
    refine WL.join (σ := Bool) 5 (fun st => trace_carried.k2 x9 t2 st = some r) (fun st => [(6, .pointer (some ⟨(b1 + 1), 0, none⟩)), (7, .pointer (some ⟨b4, 0, none⟩)), (8, .pointer (some ⟨b10, 0, none⟩)), (38, .bool st)]) (fun st => Sat w Z [(b1, .cells #[slcV A00 a0.length] 22 (0, 0)), ((b1 + 1), .cells #[.bool false] 4 (0, 0)), (b4, trace_seen.o t2), (b10, trace_seen.o x9)] [K2] ([Row 14 (pl trace_seen.enc) noK A8.2.1 r5, Row 21 api_Gate.encS api_Gate.inK A00 a0, Row 14 (pl trace_seen.enc) noK A01 a1] ++ Glob)) (fun st hM => ?_) (fun K2 => ?_)
    ·
      obtain ⟨x14, rfl⟩ : ∃ y, y = st := ⟨st, rfl⟩
      replace hM : trace_carried.k2 x9 t2 x14 = some r := hM
      unfold trace_carried.k2 at hM
      show WL _ _ _ _ _ [(6, .pointer (some ⟨(b1 + 1), 0, none⟩)), (7, .pointer (some ⟨b4, 0, none⟩)), (8, .pointer (some ⟨b10, 0, none⟩)), (38, .bool x14)] (Sat w Z [(b1, .cells #[slcV A00 a0.length] 22 (0, 0)), ((b1 + 1), .cells #[.bool false] 4 (0, 0)), (b4, trace_seen.o t2), (b10, trace_seen.o x9)] [K2] ([Row 14 (pl trace_seen.enc) noK A8.2.1 r5, Row 21 api_Gate.encS api_Gate.inK A00 a0, Row 14 (pl trace_seen.enc) noK A01 a1] ++ Glob))
      refine WL.rn 1 [] [(39, .bool x14)] ?_
      refine WL.join (σ := Bool) 6 (fun st => trace_carried.k1 st = some r) (fun st => [(6, .pointer (some ⟨(b1 + 1), 0, none⟩)), (45, .bool st)]) (fun st => Sat w Z [(b1, .cells #[slcV A00 a0.length] 22 (0, 0)), ((b1 + 1), .cells #[.bool false] 4 (0, 0)), (b4, trace_seen.o t2)] [K2] ([Row 14 (pl trace_seen.enc) noK A8.2.1 r5, Row 21 api_Gate.encS api_Gate.inK A00 a0, Row 14 (pl trace_seen.enc) noK A01 a1] ++ Glob)) (fun st hM => ?_) (fun K1 => ?_)
      ·
        obtain ⟨x16, rfl⟩ : ∃ y, y = st := ⟨st, rfl⟩
        replace hM : trace_carried.k1 x16 = some r := hM
        unfold trace_carried.k1 at hM
        show WL _ _ _ _ _ [(6, .pointer (some ⟨(b1 + 1), 0, none⟩)), (45, .bool x16)] (Sat w Z [(b1, .cells #[slcV A00 a0.length] 22 (0, 0)), ((b1 + 1), .cells #[.bool false] 4 (0, 0)), (b4, trace_seen.o t2)] [K2] ([Row 14 (pl trace_seen.enc) noK A8.2.1 r5, Row 21 api_Gate.encS api_Gate.inK A00 a0, Row 14 (pl trace_seen.enc) noK A01 a1] ++ Glob))
        refine WP.done ?_
        refine WP.cond x16 rfl rfl (fun c17 => ?_) (fun c17 => ?_)
        · replace hM := cond_t hM c17
          refine WP.seq ?_
          refine WP.rh [1] (fun _ => []) (fun _ => [(1, 0, [.bool true])]) (fun _ => []) (fun _ => ?_)
          obtain rfl := Option.some.inj hM
          exact WP.roundRet (fun w' hw => ⟨_, rfl, (hw.pick [0, 1, 2] (by kernel_rfl)).lessF [0, 1, 2] (by kernel_rfl)⟩)
        · replace hM := cond_f hM c17
          refine WP.skip ?_
          refine WP.leave ?_
          obtain rfl := Option.some.inj hM
          exact WP.roundEnd (fun w' hw => ⟨rfl, (hw.pick [0, 1, 2] (by kernel_rfl)).lessF [0, 1, 2] (by kernel_rfl)⟩)
      ·
        refine WL.sp 39 x14 (fun c15 => ?_) (fun c15 => ?_)
        · replace hM := cond_t hM c15
          refine WL.rn 4 [3, 3, 3, 3, 3, 3, 3, 3, 2, 2, 2, 2, 2, 2, 2, 2] [(41, api_Frame.v x9.f), (43, api_Frame.v t2.f)] ?_
          refine WL.val (fun _ => run_structEq (xs := #[.int .u64 x9.f.Dst, .int .u64 x9.f.Src, .bool x9.f.Tag.Has, .int .i64 x9.f.Tag.Pri, .bool x9.f.Tag.Dei, .int .i64 x9.f.Tag.Vid, .int .i64 x9.f.Type_, .string x9.f.Body]) (ys := #[.int .u64 t2.f.Dst, .int .u64 t2.f.Src, .bool t2.f.Tag.Has, .int .i64 t2.f.Tag.Pri, .bool t2.f.Tag.Dei, .int .i64 t2.f.Tag.Vid, .int .i64 t2.f.Type_, .string t2.f.Body]) (b := ((x9.f.Dst == t2.f.Dst) && ((x9.f.Src == t2.f.Src) && (((x9.f.Tag.Has == t2.f.Tag.Has) && ((x9.f.Tag.Pri == t2.f.Tag.Pri) && ((x9.f.Tag.Dei == t2.f.Tag.Dei) && ((x9.f.Tag.Vid == t2.f.Tag.Vid) && true)))) && ((x9.f.Type_ == t2.f.Type_) && ((x9.f.Body == t2.f.Body) && true)))))) (by kernel_rfl) (by kernel_rfl) (by kernel_rfl) (by kernel_rfl)) (by kernel_rfl) (by kernel_rfl) rfl ?_
          refine WL.rn 1 [] [(45, .bool ((x9.f.Dst == t2.f.Dst) && ((x9.f.Src == t2.f.Src) && (((x9.f.Tag.Has == t2.f.Tag.Has) && ((x9.f.Tag.Pri == t2.f.Tag.Pri) && ((x9.f.Tag.Dei == t2.f.Tag.Dei) && ((x9.f.Tag.Vid == t2.f.Tag.Vid) && true)))) && ((x9.f.Type_ == t2.f.Type_) && ((x9.f.Body == t2.f.Body) && true))))))] ?_
          exact WL.sub [6, 45] (by kernel_rfl) (WL.pick [0, 1, 2] (by kernel_rfl) (by kernel_rfl) (WL.pickG [0] [] 1 rfl (by decide) (by kernel_rfl) (WL.lessF [0, 1, 2] (by kernel_rfl) (K1 ((x9.f.Dst == t2.f.Dst) && ((x9.f.Src == t2.f.Src) && (((x9.f.Tag.Has == t2.f.Tag.Has) && ((x9.f.Tag.Pri == t2.f.Tag.Pri) && ((x9.f.Tag.Dei == t2.f.Tag.Dei) && ((x9.f.Tag.Vid == t2.f.Tag.Vid) && true)))) && ((x9.f.Type_ == t2.f.Type_) && ((x9.f.Body == t2.f.Body) && true))))) hM))))
        · replace hM := cond_f hM c15
          refine WL.rn 6 [] [(45, .bool false)] ?_
          exact WL.sub [6, 45] (by kernel_rfl) (WL.pick [0, 1, 2] (by kernel_rfl) (by kernel_rfl) (WL.pickG [0] [] 1 rfl (by decide) (by kernel_rfl) (WL.lessF [0, 1, 2] (by kernel_rfl) (K1 false hM))))
    ·
      refine WL.sp 33 ((x9.Event.Gate != t2.Event.Gate) || (x9.Event.Port != t2.Event.Port)) (fun c11 => ?_) (fun c11 => ?_)
      · replace hM := cond_t hM c11
        refine WL.rn 3 [0, 3, 3, 3, 3, 3, 3, 3, 3, 3, 3, 3, 3, 3, 3, 2, 2, 2, 2, 2, 2, 2, 2, 2, 2, 2, 2, 2, 2] [(34, slcV A00 a0.length), (35, trace_seen.v x9), (36, trace_seen.v t2)] ?_
        obtain ⟨r12, h13, hM⟩ := bind_some hM
        refine WL.callP [] [] (trace_same_calls k A00 a0 x9 t2 _ h13) (sub_pick [1] (by kernel_rfl)) (by kernel_rfl) (by kernel_rfl) rfl ?_
        refine WL.rn 1 [] [(38, .bool r12)] ?_
        exact WL.sub [6, 7, 8, 38] (by kernel_rfl) (WL.pick [0, 1, 2, 3] (by kernel_rfl) (by kernel_rfl) (WL.pickG [0] [] 1 rfl (by decide) (by kernel_rfl) (WL.lessF [0, 1, 2] (by kernel_rfl) (K2 r12 hM))))
      · replace hM := cond_f hM c11
        refine WL.rn 5 [] [(38, .bool false)] ?_
        exact WL.sub [6, 7, 8, 38] (by kernel_rfl) (WL.pick [0, 1, 2, 3] (by kernel_rfl) (by kernel_rfl) (WL.pickG [0] [] 1 rfl (by decide) (by kernel_rfl) (WL.lessF [0, 1, 2] (by kernel_rfl) (K2 false hM))))
  ·
    intro hM D18
    refine WP.markBlock ?_
    refine WP.markCode ?_
    refine WP.seq ?_
    refine WP.rn [3] [] ?_
    refine WP.kp [false, false, false, true, false, true] ?_
    obtain rfl := Option.some.inj hM
    exact WP.retM 1 [0] [(b1 + 1)] (.bool false) (by kernel_rfl) rfl (by kernel_rfl) (fun w' hw => ⟨rfl, (hw.pick [] rfl).lessF [1, 2] (by kernel_rfl)⟩)
  ·
    intro D19
    exact WP.retM 5 [3] [(b1 + 1)] (.bool r) (by kernel_rfl) rfl (by kernel_rfl) (fun w' hw => ⟨rfl, (hw.pick [] rfl).lessF [1, 2] (by kernel_rfl)⟩)

end Go.Proofs.YtbbekdmndifkpaaGreatDoor

namespace Go.Proofs.YtbbekdmndifkpaaGreatDoor
open Go Eng
set_option linter.unusedVariables false
set_option linter.unusedSimpArgs false

/-! ### gangway/arp.Parse$1: function 77 -/
def arp_Parse_1.f (k : Nat) (a0 : Int) (a1 : ByteArray) (a2 : Int) : Option (Int × Int) :=
  (octets_Get.f k a1 a2 a0).bind fun (r1, r2) =>
  some (r1, i64 (a2 + a0))

set_option maxRecDepth 100000 in
theorem arp_Parse_1_calls (k : Nat) (b_0 : Nat) (b_1 : Nat) (a0 : Int) (a1 : ByteArray) (a2 : Int) (r : Int × Int) (h : arp_Parse_1.f k a0 a1 a2 = some r) : Does Tryz.prog 77 #[.int .i64 a0, .pointer (some ⟨b_0, 0, none⟩), .pointer (some ⟨b_1, 0, none⟩)] [(b_0, .cells #[.string a1] 9 (0, 0)), (b_1, .cells #[.int .i64 a2] 3 (0, 0))] Glob (fun _ : Unit => .int .u64 r.1) (fun _ => [(b_0, .cells #[.string a1] 9 (0, 0)), (b_1, .cells #[.int .i64 r.2] 3 (0, 0))]) (fun _ => []) (fun _ => Glob) := by
  intro w Z hS
  refine calls_of (args := [.int .i64 a0, .pointer (some ⟨b_0, 0, none⟩), .pointer (some ⟨b_1, 0, none⟩)]) (L := [(0, .int .i64 a0), (1, .pointer (some ⟨b_0, 0, none⟩)), (2, .pointer (some ⟨b_1, 0, none⟩))]) (N := 18) (S := Sat w Z [(b_0, .cells #[.string a1] 9 (0, 0)), (b_1, .cells #[.int .i64 a2] 3 (0, 0))] [] Glob) Tryz.func77 rfl rfl (Nat.le_of_ble_eq_true rfl) rfl hS ?_
  have hM := h
  clear h hS
  unfold arp_Parse_1.f at hM
  refine WP.seq ?_
  refine WP.rn [] [(4, .int .u64 0)] ?_
  refine WP.seq ?_
  refine WP.region ?_
  refine WL.rn 3 [0, 1] [(8, .string a1), (9, .int .i64 a2), (10, .int .i64 a0)] ?_
  obtain ⟨⟨r1, r2⟩, h3, hM⟩ := bind_some hM
  dsimp only at hM
  refine WL.callP [] [] (octets_Get_calls k a1 a2 a0 _ h3) (fun _ h => h) (by kernel_rfl) (by kernel_rfl) rfl ?_
  refine WL.rn 5 [] [(5, .int .u64 r1)] ?_
  refine WP.done ?_
  refine WP.seq ?_
  refine WP.rh [1, 1] (fun _ => []) (fun _ => [(1, 0, [.int .i64 (i64 (a2 + a0))])]) (fun _ => []) (fun _ => ?_)
  refine WP.seq ?_
  refine WP.rn [] [(4, .int .u64 r1)] ?_
  obtain rfl := Option.some.inj hM
  exact WP.ret [] [] (.int .u64 r1) (by kernel_rfl) (fun w' hw => ⟨(), rfl, hw.pick [0, 1] (by kernel_rfl)⟩)

end Go.Proofs.YtbbekdmndifkpaaGreatDoor

namespace Go.Proofs.YtbbekdmndifkpaaGreatDoor
open Go Eng
set_option linter.unusedVariables false
set_option linter.unusedSimpArgs false

/-! ### internal/stringslite.HasPrefix: function 128 -/
def stringslite_HasPrefix.k1 (x4 : Bool) : Option (Bool) :=
  some x4

def stringslite_HasPrefix.f (a0 : ByteArray) (a1 : ByteArray) : Option (Bool) :=
  bif decide ((a0.size : Int) ≥ (a1.size : Int)) then
    (sliceS a0 0 (a1.size : Int)).bind fun t2 =>
    stringslite_HasPrefix.k1 (t2.toList == a1.toList)
  else
    stringslite_HasPrefix.k1 false

set_option maxRecDepth 100000 in
theorem stringslite_HasPrefix_calls (a0 : ByteArray) (a1 : ByteArray) (r : Bool) (h : stringslite_HasPrefix.f a0 a1 = some r) : Pure Tryz.prog Glob 128 #[.string a0, .string a1] (.bool r) := by
  intro w Z hS
  refine calls_of (args := [.string a0, .string a1]) (L := [(0, .string a0), (1, .string a1)]) (N := 18) (S := Sat w Z [] [] Glob) Tryz.func128 rfl rfl (Nat.le_of_ble_eq_true rfl) rfl hS ?_
  have hM := h
  clear h hS
  unfold stringslite_HasPrefix.f at hM
  refine WP.seq ?_
  refine WP.rn [] [(4, .bool false)] ?_
  refine WP.seq ?_
  refine WP.region ?_
  refine WL.rn 6 [] [(10, .bool (decide ((a0.size : Int) ≥ (a1.size : Int))))] ?_
  refine WL.join (σ := Bool) 7 (fun st => stringslite_HasPrefix.k1 st = some r) (fun st => [(4, .bool false), (17, .bool st)]) (fun st => Sat w Z [] [] Glob) (fun st hM => ?_) (fun K1 => ?_)
  ·
    obtain ⟨x4, rfl⟩ : ∃ y, y = st := ⟨st, rfl⟩
    replace hM : stringslite_HasPrefix.k1 x4 = some r := hM
    unfold stringslite_HasPrefix.k1 at hM
    show WL _ _ _ _ _ [(4, .bool false), (17, .bool x4)] (Sat w Z [] [] Glob)
    refine WL.rn 1 [] [(4, .bool x4)] ?_
    refine WP.done ?_
    obtain rfl := Option.some.inj hM
    exact WP.ret [] [] (.bool x4) (by kernel_rfl) (fun w' hw => ⟨rfl, hw.pick [] rfl⟩)
  ·
    refine WL.sp 10 (decide ((a0.size : Int) ≥ (a1.size : Int))) (fun c1 => ?_) (fun c1 => ?_)
    · replace hM := cond_t hM c1
      refine WL.rn 3 [] [(11, .string a0), (13, .int .i64 (a1.size : Int))] ?_
      obtain ⟨t2, h3, hM⟩ := bind_some hM
      refine WL.val (fun _ => run_sliceS_hi (s := a0) (kh := .i64) (h := (a1.size : Int)) (by kernel_rfl) (by kernel_rfl) (by kernel_rfl) h3) (by kernel_rfl) (by kernel_rfl) rfl ?_
      refine WL.rn 3 [] [(17, .bool (t2.toList == a1.toList))] ?_
      exact WL.sub [4, 17] (by kernel_rfl) (WL.pick [] (by kernel_rfl) (by kernel_rfl) (K1 (t2.toList == a1.toList) hM))
    · replace hM := cond_f hM c1
      refine WL.rn 7 [] [(17, .bool false)] ?_
      exact WL.sub [4, 17] (by kernel_rfl) (WL.pick [] (by kernel_rfl) (by kernel_rfl) (K1 false hM))

end Go.Proofs.YtbbekdmndifkpaaGreatDoor

namespace Go.Proofs.YtbbekdmndifkpaaGreatDoor
open Go Eng
set_option linter.unusedVariables false
set_option linter.unusedSimpArgs false

/-! ### strings.HasPrefix: function 79 -/
def strings_HasPrefix.f (a0 : ByteArray) (a1 : ByteArray) : Option (Bool) :=
  (stringslite_HasPrefix.f a0 a1).bind fun r1 =>
  some r1

set_option maxRecDepth 100000 in
theorem strings_HasPrefix_calls (a0 : ByteArray) (a1 : ByteArray) (r : Bool) (h : strings_HasPrefix.f a0 a1 = some r) : Pure Tryz.prog Glob 79 #[.string a0, .string a1] (.bool r) := by
  intro w Z hS
  refine calls_of (args := [.string a0, .string a1]) (L := [(0, .string a0), (1, .string a1)]) (N := 8) (S := Sat w Z [] [] Glob) Tryz.func79 rfl rfl (Nat.le_of_ble_eq_true rfl) rfl hS ?_
  have hM := h
  clear h hS
  unfold strings_HasPrefix.f at hM
  refine WP.seq ?_
  refine WP.rn [] [(4, .bool false)] ?_
  refine WP.seq ?_
  refine WP.region ?_
  refine WL.rn 2 [] [(5, .string a0), (6, .string a1)] ?_
  obtain ⟨r1, h2, hM⟩ := bind_some hM
  refine WL.callP [] [] (stringslite_HasPrefix_calls a0 a1 _ h2) (fun _ h => h) (by kernel_rfl) (by kernel_rfl) rfl ?_
  refine WL.rn 1 [] [(4, .bool r1)] ?_
  refine WP.done ?_
  obtain rfl := Option.some.inj hM
  exact WP.ret [] [] (.bool r1) (by kernel_rfl) (fun w' hw => ⟨rfl, hw.pick [] rfl⟩)

end Go.Proofs.YtbbekdmndifkpaaGreatDoor

namespace Go.Proofs.YtbbekdmndifkpaaGreatDoor
open Go Eng
set_option linter.unusedVariables false
set_option linter.unusedSimpArgs false

/-! ### gangway/addrs.Group: function 80 -/
def addrs_Group.f (a0 : Int) : Option (Bool) :=
  some ((bAnd .u64 a0 1099511627776) != 0)

set_option maxRecDepth 100000 in
theorem addrs_Group_calls (a0 : Int) (r : Bool) (h : addrs_Group.f a0 = some r) : Pure Tryz.prog Glob 80 #[.int .u64 a0] (.bool r) := by
  intro w Z hS
  refine calls_of (args := [.int .u64 a0]) (L := [(0, .int .u64 a0)]) (N := 6) (S := Sat w Z [] [] Glob) Tryz.func80 rfl rfl (Nat.le_of_ble_eq_true rfl) rfl hS ?_
  have hM := h
  clear h hS
  unfold addrs_Group.f at hM
  refine WP.seq ?_
  refine WP.rn [] [(2, .bool false)] ?_
  refine WP.seq ?_
  refine WP.rn [] [(2, .bool ((bAnd .u64 a0 1099511627776) != 0))] ?_
  obtain rfl := Option.some.inj hM
  exact WP.ret [] [] (.bool ((bAnd .u64 a0 1099511627776) != 0)) (by kernel_rfl) (fun w' hw => ⟨rfl, hw.pick [] rfl⟩)

end Go.Proofs.YtbbekdmndifkpaaGreatDoor

namespace Go.Proofs.YtbbekdmndifkpaaGreatDoor
open Go Eng
set_option linter.unusedVariables false
set_option linter.unusedSimpArgs false

/-! ### gangway/addrs.Own: function 44 -/
def addrs_Own.k1 (x4 : Bool) : Option (Bool) :=
  some x4

def addrs_Own.f (a0 : Int) : Option (Bool) :=
  bif ((a0 != 0) && (decide (a0 < 281474976710656))) then
    (addrs_Group.f a0).bind fun r2 =>
    addrs_Own.k1 (!r2)
  else
    addrs_Own.k1 false

set_option maxRecDepth 100000 in
theorem addrs_Own_calls (a0 : Int) (r : Bool) (h : addrs_Own.f a0 = some r) : Pure Tryz.prog Glob 44 #[.int .u64 a0] (.bool r) := by
  intro w Z hS
  refine calls_of (args := [.int .u64 a0]) (L := [(0, .int .u64 a0)]) (N := 14) (S := Sat w Z [] [] Glob) Tryz.func44 rfl rfl (Nat.le_of_ble_eq_true rfl) rfl hS ?_
  have hM := h
  clear h hS
  unfold addrs_Own.f at hM
  refine WP.seq ?_
  refine WP.rn [] [(2, .bool false)] ?_
  refine WP.seq ?_
  refine WP.region ?_
  refine WL.rn 3 [] [(5, .bool (a0 != 0))] ?_
  refine WL.bo 5 (a0 != 0) 3 [] [] (fun b' => [(8, .bool (b' && (decide (a0 < 281474976710656))))]) ?_
  refine WL.rn 1 [] [(9, .bool ((a0 != 0) && (decide (a0 < 281474976710656))))] ?_
  refine WL.join (σ := Bool) 4 (fun st => addrs_Own.k1 st = some r) (fun st => [(2, .bool false), (13, .bool st)]) (fun st => Sat w Z [] [] Glob) (fun st hM => ?_) (fun K1 => ?_)
  ·
    obtain ⟨x4, rfl⟩ : ∃ y, y = st := ⟨st, rfl⟩
    replace hM : addrs_Own.k1 x4 = some r := hM
    unfold addrs_Own.k1 at hM
    show WL _ _ _ _ _ [(2, .bool false), (13, .bool x4)] (Sat w Z [] [] Glob)
    refine WL.rn 1 [] [(2, .bool x4)] ?_
    refine WP.done ?_
    obtain rfl := Option.some.inj hM
    exact WP.ret [] [] (.bool x4) (by kernel_rfl) (fun w' hw => ⟨rfl, hw.pick [] rfl⟩)
  ·
    refine WL.sp 9 ((a0 != 0) && (decide (a0 < 281474976710656))) (fun c1 => ?_) (fun c1 => ?_)
    · replace hM := cond_t hM c1
      refine WL.rn 1 [] [(10, .int .u64 a0)] ?_
      obtain ⟨r2, h3, hM⟩ := bind_some hM
      refine WL.callP [] [] (addrs_Group_calls a0 _ h3) (fun _ h => h) (by kernel_rfl) (by kernel_rfl) rfl ?_
      refine WL.rn 2 [] [(13, .bool (!r2))] ?_
      exact WL.sub [2, 13] (by kernel_rfl) (WL.pick [] (by kernel_rfl) (by kernel_rfl) (K1 (!r2) hM))
    · replace hM := cond_f hM c1
      refine WL.rn 4 [] [(13, .bool false)] ?_
      exact WL.sub [2, 13] (by kernel_rfl) (WL.pick [] (by kernel_rfl) (by kernel_rfl) (K1 false hM))

end Go.Proofs.YtbbekdmndifkpaaGreatDoor

namespace Go.Proofs.YtbbekdmndifkpaaGreatDoor
open Go Eng
set_option linter.unusedVariables false
set_option linter.unusedSimpArgs false

/-! ### gangway/arp.Check: function 43 -/
def arp_Check.k1 (a0 : api_Arp) (x5 : Bool) : Option (Int) :=
  bif (x5 || (decide (a0.TMac ≥ 281474976710656))) then
    some 51
  else
    some 0

def arp_Check.f (a0 : api_Arp) : Option (Int) :=
  bif ((a0.Op != 1) && (a0.Op != 2)) then
    arp_Check.k1 a0 true
  else
    (addrs_Own.f a0.SMac).bind fun r3 =>
    arp_Check.k1 a0 (!r3)

set_option maxRecDepth 100000 in
theorem arp_Check_calls (a0 : api_Arp) (r : Int) (h : arp_Check.f a0 = some r) : Pure Tryz.prog Glob 43 #[api_Arp.v a0] (.int .i64 r) := by
  intro w Z hS
  refine calls_of (args := [api_Arp.v a0]) (L := [(0, api_Arp.v a0)]) (N := 22) (S := Sat w Z [] [] Glob) Tryz.func43 rfl rfl (Nat.le_of_ble_eq_true rfl) rfl hS ?_
  have hM := h
  clear h hS
  unfold arp_Check.f at hM
  refine WP.seq ?_
  refine WP.rh [] (fun b1 => [(1, .pointer (some ⟨b1, 0, none⟩)), (2, .int .i64 0)]) (fun b1 => []) (fun b1 => [(b1, api_Arp.o a0)]) (fun b1 => ?_)
  refine WP.seq ?_
  refine WP.seq ?_
  refine WP.region ?_
  refine WL.rn 4 [0] [(6, .bool (a0.Op != 1))] ?_
  refine WL.bo 6 (a0.Op != 1) 4 [0] [] (fun b' => [(10, .bool (b' && (a0.Op != 2)))]) ?_
  refine WL.rn 1 [] [(11, .bool ((a0.Op != 1) && (a0.Op != 2)))] ?_
  refine WL.join (σ := Bool) 5 (fun st => arp_Check.k1 a0 st = some r) (fun st => [(1, .pointer (some ⟨b1, 0, none⟩)), (2, .int .i64 0), (16, .bool st)]) (fun st => Sat w Z [(b1, api_Arp.o a0)] [] Glob) (fun st hM => ?_) (fun K1 => ?_)
  ·
    obtain ⟨x5, rfl⟩ : ∃ y, y = st := ⟨st, rfl⟩
    replace hM : arp_Check.k1 a0 x5 = some r := hM
    unfold arp_Check.k1 at hM
    show WL _ _ _ _ _ [(1, .pointer (some ⟨b1, 0, none⟩)), (2, .int .i64 0), (16, .bool x5)] (Sat w Z [(b1, api_Arp.o a0)] [] Glob)
    refine WL.rn 1 [] [(17, .bool x5)] ?_
    refine WL.bo 17 x5 4 [] [0] (fun b' => [(21, .bool (b' || (decide (a0.TMac ≥ 281474976710656))))]) ?_
    refine WP.done ?_
    refine WP.kp [false] ?_
    refine WP.cond (x5 || (decide (a0.TMac ≥ 281474976710656))) rfl rfl (fun c6 => ?_) (fun c6 => ?_)
    · replace hM := cond_t hM c6
      refine WP.seq ?_
      refine WP.rn [] [(2, .int .i64 51)] ?_
      obtain rfl := Option.some.inj hM
      exact WP.ret [] [] (.int .i64 51) (by kernel_rfl) (fun w' hw => ⟨rfl, hw.pick [] rfl⟩)
    · replace hM := cond_f hM c6
      refine WP.skip ?_
      refine WP.seq ?_
      refine WP.rn [] [(2, .int .i64 0)] ?_
      obtain rfl := Option.some.inj hM
      exact WP.ret [] [] (.int .i64 0) (by kernel_rfl) (fun w' hw => ⟨rfl, hw.pick [] rfl⟩)
  ·
    refine WL.sp 11 ((a0.Op != 1) && (a0.Op != 2)) (fun c2 => ?_) (fun c2 => ?_)
    · replace hM := cond_t hM c2
      refine WL.rn 5 [] [(16, .bool true)] ?_
      exact WL.sub [1, 2, 16] (by kernel_rfl) (WL.pick [0] (by kernel_rfl) (by kernel_rfl) (K1 true hM))
    · replace hM := cond_f hM c2
      refine WL.rn 2 [0] [(13, .int .u64 a0.SMac)] ?_
      obtain ⟨r3, h4, hM⟩ := bind_some hM
      refine WL.callP [] [] (addrs_Own_calls a0.SMac _ h4) (fun _ h => h) (by kernel_rfl) (by kernel_rfl) rfl ?_
      refine WL.rn 2 [] [(16, .bool (!r3))] ?_
      exact WL.sub [1, 2, 16] (by kernel_rfl) (WL.pick [0] (by kernel_rfl) (by kernel_rfl) (K1 (!r3) hM))

end Go.Proofs.YtbbekdmndifkpaaGreatDoor

namespace Go.Proofs.YtbbekdmndifkpaaGreatDoor
open Go Eng
set_option linter.unusedVariables false
set_option linter.unusedSimpArgs false

/-! ### gangway/arp.Parse: function 42 -/
def arp_Parse.k1 (r4 : Int) (r7 : Int) (r10 : Int) (r13 : Int) (r16 : Int) (x25 : Bool) : Option (api_Arp × Int) :=
  bif x25 then
    some ((api_Arp.mk 0 0 0 0 0), 51)
  else
    some ((api_Arp.mk (i64 r4) r7 (u32 r10) r13 (u32 r16)), 0)

def arp_Parse.f (k : Nat) (a0 : ByteArray) : Option (api_Arp × Int) :=
  bif decide ((a0.size : Int) < 28) then
    some ((api_Arp.mk 0 0 0 0 0), 50)
  else
    (arp_Parse_1.f k 2 a0 6).bind fun (r4, r5) =>
    (arp_Parse_1.f k 6 a0 r5).bind fun (r7, r8) =>
    (arp_Parse_1.f k 4 a0 r8).bind fun (r10, r11) =>
    (arp_Parse_1.f k 6 a0 r11).bind fun (r13, r14) =>
    (arp_Parse_1.f k 4 a0 r14).bind fun (r16, r17) =>
    (strings_HasPrefix.f a0 (⟨#[0, 1, 8, 0, 6, 4]⟩ : ByteArray)).bind fun r20 =>
    bif !r20 then
      arp_Parse.k1 r4 r7 r10 r13 r16 true
    else
      (arp_Check.f (api_Arp.mk (i64 r4) r7 (u32 r10) r13 (u32 r16))).bind fun r23 =>
      arp_Parse.k1 r4 r7 r10 r13 r16 (r23 != 0)

set_option maxRecDepth 100000 in
theorem arp_Parse_calls (k : Nat) (a0 : ByteArray) (r : api_Arp × Int) (h : arp_Parse.f k a0 = some r) : Pure Tryz.prog Glob 42 #[.string a0] (.tuple #[api_Arp.v r.1, .int .i64 r.2]) := by
  intro w Z hS
  refine calls_of (args := [.string a0]) (L := [(0, .string a0)]) (N := 36) (S := Sat w Z [] [] Glob) Tryz.func42 rfl rfl (Nat.le_of_ble_eq_true rfl) rfl hS ?_
  have hM := h
  clear h hS
  unfold arp_Parse.f at hM
  refine WP.seq ?_
  refine WP.rh [] (fun b1 => [(1, .pointer (some ⟨b1, 0, none⟩)), (2, .pointer (some ⟨(b1 + 1), 0, none⟩)), (3, .int .i64 0)]) (fun b1 => []) (fun b1 => [(b1, .cells #[.string a0] 9 (0, 0)), ((b1 + 1), .cells #[.int .i64 0, .int .u64 0, .int .u32 0, .int .u64 0, .int .u32 0] 51 (0, 0))]) (fun b1 => ?_)
  refine WP.seq ?_
  refine WP.seq ?_
  refine WP.rn [0] [(9, .bool (decide ((a0.size : Int) < 28)))] ?_
  refine WP.cond (decide ((a0.size : Int) < 28)) rfl rfl (fun c2 => ?_) (fun c2 => ?_)
  · replace hM := cond_t hM c2
    refine WP.seq ?_
    refine WP.rn [1, 1, 1, 1, 1] [(3, .int .i64 50)] ?_
    obtain rfl := Option.some.inj hM
    exact WP.ret [1, 1, 1, 1, 1] [(b1 + 1), (b1 + 1), (b1 + 1), (b1 + 1), (b1 + 1)] (.tuple #[.agg #[.int .i64 0, .int .u64 0, .int .u32 0, .int .u64 0, .int .u32 0], .int .i64 50]) (by kernel_rfl) (fun w' hw => ⟨rfl, hw.pick [] rfl⟩)
  · replace hM := cond_f hM c2
    refine WP.skip ?_
    refine WP.seq ?_
    refine WP.rh [2] (fun b3 => [(4, .pointer (some ⟨b3, 0, none⟩))]) (fun b3 => []) (fun b3 => [(b3, .cells #[.int .i64 6] 3 (0, 0))]) (fun b3 => ?_)
    refine WP.seq ?_
    refine WP.rn [] [(5, .func (.func 77) #[] #[.pointer (some ⟨b1, 0, none⟩), .pointer (some ⟨b3, 0, none⟩)])] ?_
    refine WP.seq ?_
    refine WP.region ?_
    refine WL.rn 1 [] [(12, .func (.func 77) #[] #[.pointer (some ⟨b1, 0, none⟩), .pointer (some ⟨b3, 0, none⟩)])] ?_
    obtain ⟨⟨r4, r5⟩, h6, hM⟩ := bind_some hM
    dsimp only at hM
    refine WL.callE (X := Unit) [] [] [true, false, true] (fun _ => _) (arp_Parse_1_calls k b1 b3 2 a0 6 _ h6) rfl rfl (fun _ h => h) (by kernel_rfl) (by kernel_rfl) (fun _ => rfl) (fun _ => ?_)
    refine WL.rn 2 [] [(14, .int .i64 (i64 r4)), (15, .func (.func 77) #[] #[.pointer (some ⟨b1, 0, none⟩), .pointer (some ⟨b3, 0, none⟩)])] ?_
    obtain ⟨⟨r7, r8⟩, h9, hM⟩ := bind_some hM
    dsimp only at hM
    refine WL.callE (X := Unit) [] [] [true, true, false] (fun _ => _) (arp_Parse_1_calls k b1 b3 6 a0 r5 _ h9) rfl rfl (fun _ h => h) (by kernel_rfl) (by kernel_rfl) (fun _ => rfl) (fun _ => ?_)
    refine WL.rn 1 [] [(17, .func (.func 77) #[] #[.pointer (some ⟨b1, 0, none⟩), .pointer (some ⟨b3, 0, none⟩)])] ?_
    obtain ⟨⟨r10, r11⟩, h12, hM⟩ := bind_some hM
    dsimp only at hM
    refine WL.callE (X := Unit) [] [] [true, true, false] (fun _ => _) (arp_Parse_1_calls k b1 b3 4 a0 r8 _ h12) rfl rfl (fun _ h => h) (by kernel_rfl) (by kernel_rfl) (fun _ => rfl) (fun _ => ?_)
    refine WL.rn 2 [] [(19, .int .u32 (u32 r10)), (20, .func (.func 77) #[] #[.pointer (some ⟨b1, 0, none⟩), .pointer (some ⟨b3, 0, none⟩)])] ?_
    obtain ⟨⟨r13, r14⟩, h15, hM⟩ := bind_some hM
    dsimp only at hM
    refine WL.callE (X := Unit) [] [] [true, true, false] (fun _ => _) (arp_Parse_1_calls k b1 b3 6 a0 r11 _ h15) rfl rfl (fun _ h => h) (by kernel_rfl) (by kernel_rfl) (fun _ => rfl) (fun _ => ?_)
    refine WL.rn 1 [] [(22, .func (.func 77) #[] #[.pointer (some ⟨b1, 0, none⟩), .pointer (some ⟨b3, 0, none⟩)])] ?_
    obtain ⟨⟨r16, r17⟩, h18, hM⟩ := bind_some hM
    dsimp only at hM
    refine WL.callE (X := Unit) [] [] [true, true, false] (fun _ => _) (arp_Parse_1_calls k b1 b3 4 a0 r14 _ h18) rfl rfl (fun _ h => h) (by kernel_rfl) (by kernel_rfl) (fun _ => rfl) (fun _ => ?_)
    refine WL.rh 4 [3, 3, 3, 3, 3] (fun b19 => [(6, .pointer (some ⟨b19, 0, none⟩))]) (fun b19 => []) (fun b19 => [(b19, .cells #[.int .i64 (i64 r4), .int .u64 r7, .int .u32 (u32 r10), .int .u64 r13, .int .u32 (u32 r16)] 51 (0, 0))]) (fun b19 => ?_)
    refine WP.done ?_
    refine WP.kp [true, false, true, true] ?_
    refine WP.seq ?_
    refine WP.seq ?_
    refine WP.region ?_
    refine WL.rn 1 [0] [(26, .string a0)] ?_
    obtain ⟨r20, h21, hM⟩ := bind_some hM
    refine WL.callP [] [] (strings_HasPrefix_calls a0 (⟨#[0, 1, 8, 0, 6, 4]⟩ : ByteArray) _ h21) (fun _ h => h) (by kernel_rfl) (by kernel_rfl) rfl ?_
    refine WL.rn 2 [] [(29, .bool (!r20))] ?_
    refine WL.join (σ := Bool) 4 (fun st => arp_Parse.k1 r4 r7 r10 r13 r16 st = some r) (fun st => [(2, .pointer (some ⟨(b1 + 1), 0, none⟩)), (3, .int .i64 0), (6, .pointer (some ⟨b19, 0, none⟩)), (33, .bool st)]) (fun st => Sat w Z [((b1 + 1), .cells #[.int .i64 0, .int .u64 0, .int .u32 0, .int .u64 0, .int .u32 0] 51 (0, 0)), (b19, .cells #[.int .i64 (i64 r4), .int .u64 r7, .int .u32 (u32 r10), .int .u64 r13, .int .u32 (u32 r16)] 51 (0, 0))] [] Glob) (fun st hM => ?_) (fun K1 => ?_)
    ·
      obtain ⟨x25, rfl⟩ : ∃ y, y = st := ⟨st, rfl⟩
      replace hM : arp_Parse.k1 r4 r7 r10 r13 r16 x25 = some r := hM
      unfold arp_Parse.k1 at hM
      show WL _ _ _ _ _ [(2, .pointer (some ⟨(b1 + 1), 0, none⟩)), (3, .int .i64 0), (6, .pointer (some ⟨b19, 0, none⟩)), (33, .bool x25)] (Sat w Z [((b1 + 1), .cells #[.int .i64 0, .int .u64 0, .int .u32 0, .int .u64 0, .int .u32 0] 51 (0, 0)), (b19, .cells #[.int .i64 (i64 r4), .int .u64 r7, .int .u32 (u32 r10), .int .u64 r13, .int .u32 (u32 r16)] 51 (0, 0))] [] Glob)
      refine WP.done ?_
      refine WP.cond x25 rfl rfl (fun c26 => ?_) (fun c26 => ?_)
      · replace hM := cond_t hM c26
        refine WP.seq ?_
        refine WP.rn [0, 0, 0, 0, 0] [(3, .int .i64 51)] ?_
        obtain rfl := Option.some.inj hM
        exact WP.ret [0, 0, 0, 0, 0] [(b1 + 1), (b1 + 1), (b1 + 1), (b1 + 1), (b1 + 1)] (.tuple #[.agg #[.int .i64 0, .int .u64 0, .int .u32 0, .int .u64 0, .int .u32 0], .int .i64 51]) (by kernel_rfl) (fun w' hw => ⟨rfl, hw.pick [] rfl⟩)
      · replace hM := cond_f hM c26
        refine WP.skip ?_
        refine WP.seq ?_
        refine WP.rh [1, 1, 1, 1, 1, 0, 0, 0, 0, 0] (fun _ => [(3, .int .i64 0)]) (fun _ => [(0, 0, [.int .i64 (i64 r4), .int .u64 r7, .int .u32 (u32 r10), .int .u64 r13, .int .u32 (u32 r16)])]) (fun _ => []) (fun _ => ?_)
        refine WP.kp [true, false] ?_
        obtain rfl := Option.some.inj hM
        exact WP.ret [0, 0, 0, 0, 0] [(b1 + 1), (b1 + 1), (b1 + 1), (b1 + 1), (b1 + 1)] (.tuple #[.agg #[.int .i64 (i64 r4), .int .u64 r7, .int .u32 (u32 r10), .int .u64 r13, .int .u32 (u32 r16)], .int .i64 0]) (by kernel_rfl) (fun w' hw => ⟨rfl, hw.pick [] rfl⟩)
    ·
      refine WL.sp 29 (!r20) (fun c22 => ?_) (fun c22 => ?_)
      · replace hM := cond_t hM c22
        refine WL.rn 4 [] [(33, .bool true)] ?_
        exact WL.sub [2, 3, 6, 33] (by kernel_rfl) (WL.pick [1, 2] (by kernel_rfl) (by kernel_rfl) (K1 true hM))
      · replace hM := cond_f hM c22
        refine WL.rn 1 [2, 2, 2, 2, 2] [(30, .agg #[.int .i64 (i64 r4), .int .u64 r7, .int .u32 (u32 r10), .int .u64 r13, .int .u32 (u32 r16)])] ?_
        obtain ⟨r23, h24, hM⟩ := bind_some hM
        refine WL.callP [] [] (arp_Check_calls (api_Arp.mk (i64 r4) r7 (u32 r10) r13 (u32 r16)) _ h24) (fun _ h => h) (by kernel_rfl) (by kernel_rfl) rfl ?_
        refine WL.rn 2 [] [(33, .bool (r23 != 0))] ?_
        exact WL.sub [2, 3, 6, 33] (by kernel_rfl) (WL.pick [1, 2] (by kernel_rfl) (by kernel_rfl) (K1 (r23 != 0) hM))

end Go.Proofs.YtbbekdmndifkpaaGreatDoor

namespace Go.Proofs.YtbbekdmndifkpaaGreatDoor
open Go Eng
set_option linter.unusedVariables false
set_option linter.unusedSimpArgs false

/-! ### gangway/arp.Of: function 21 -/
def arp_Of.f (k : Nat) (a0 : api_Frame) : Option (api_Arp × Bool) :=
  bif (a0.Type_ != 2054) then
    some ((api_Arp.mk 0 0 0 0 0), false)
  else
    (arp_Parse.f k a0.Body).bind fun (r3, r4) =>
    some (r3, (r4 == 0))

set_option maxRecDepth 100000 in
theorem arp_Of_calls (k : Nat) (a0 : api_Frame) (r : api_Arp × Bool) (h : arp_Of.f k a0 = some r) : Pure Tryz.prog Glob 21 #[api_Frame.v a0] (.tuple #[api_Arp.v r.1, .bool r.2]) := by
  intro w Z hS
  refine calls_of (args := [api_Frame.v a0]) (L := [(0, api_Frame.v a0)]) (N := 19) (S := Sat w Z [] [] Glob) Tryz.func21 rfl rfl (Nat.le_of_ble_eq_true rfl) rfl hS ?_
  have hM := h
  clear h hS
  unfold arp_Of.f at hM
  refine WP.seq ?_
  refine WP.rh [] (fun b1 => [(1, .pointer (some ⟨b1, 0, none⟩)), (2, .pointer (some ⟨(b1 + 1), 0, none⟩)), (3, .bool false)]) (fun b1 => []) (fun b1 => [(b1, api_Frame.o a0), ((b1 + 1), .cells #[.int .i64 0, .int .u64 0, .int .u32 0, .int .u64 0, .int .u32 0] 51 (0, 0))]) (fun b1 => ?_)
  refine WP.seq ?_
  refine WP.seq ?_
  refine WP.rn [0] [(8, .bool (a0.Type_ != 2054))] ?_
  refine WP.cond (a0.Type_ != 2054) rfl rfl (fun c2 => ?_) (fun c2 => ?_)
  · replace hM := cond_t hM c2
    refine WP.seq ?_
    refine WP.rn [1, 1, 1, 1, 1] [(3, .bool false)] ?_
    obtain rfl := Option.some.inj hM
    exact WP.ret [1, 1, 1, 1, 1] [(b1 + 1), (b1 + 1), (b1 + 1), (b1 + 1), (b1 + 1)] (.tuple #[.agg #[.int .i64 0, .int .u64 0, .int .u32 0, .int .u64 0, .int .u32 0], .bool false]) (by kernel_rfl) (fun w' hw => ⟨rfl, hw.pick [] rfl⟩)
  · replace hM := cond_f hM c2
    refine WP.skip ?_
    refine WP.seq ?_
    refine WP.region ?_
    refine WL.rn 2 [0] [(12, .string a0.Body)] ?_
    obtain ⟨⟨r3, r4⟩, h5, hM⟩ := bind_some hM
    dsimp only at hM
    refine WL.callP [] [] (arp_Parse_calls k a0.Body _ h5) (fun _ h => h) (by kernel_rfl) (by kernel_rfl) rfl ?_
    refine WL.rh 6 [2, 2, 2, 2, 2] (fun b6 => [(4, .pointer (some ⟨b6, 0, none⟩)), (5, .int .i64 r4)]) (fun b6 => []) (fun b6 => [(b6, api_Arp.o r3)]) (fun b6 => ?_)
    refine WP.done ?_
    refine WP.kp [false, true, true] ?_
    refine WP.seq ?_
    refine WP.rh [1, 1, 1, 1, 1, 0, 0, 0, 0, 0] (fun _ => [(3, .bool (r4 == 0))]) (fun _ => [(0, 0, [.int .i64 r3.Op, .int .u64 r3.SMac, .int .u32 r3.SIp, .int .u64 r3.TMac, .int .u32 r3.TIp])]) (fun _ => []) (fun _ => ?_)
    refine WP.kp [true, false] ?_
    obtain rfl := Option.some.inj hM
    exact WP.ret [0, 0, 0, 0, 0] [(b1 + 1), (b1 + 1), (b1 + 1), (b1 + 1), (b1 + 1)] (.tuple #[api_Arp.v r3, .bool (r4 == 0)]) (by kernel_rfl) (fun w' hw => ⟨rfl, hw.pick [] rfl⟩)

end Go.Proofs.YtbbekdmndifkpaaGreatDoor

namespace Go.Proofs.YtbbekdmndifkpaaGreatDoor
open Go Eng
set_option linter.unusedVariables false
set_option linter.unusedSimpArgs false

/-! ### gangway/trace.asked: function 37 -/
def trace_asked.b1 (k : Nat) (t2 : trace_seen) (a2 : api_Arp) (x9 : trace_seen) : Option (Option (Bool)) :=
  (arp_Of.f k x9.f).bind fun (r11, r12) =>
  bif ((((((r12 && (((x9.Event.Gate == t2.Event.Gate) && (x9.Event.Port == t2.Event.Port)) && (x9.vid == t2.vid))) && (r11.Op == 1)) && (x9.f.Dst == 281474976710655)) && (r11.SMac == a2.TMac)) && (r11.SIp == a2.TIp)) && (r11.TIp == a2.SIp)) then
    some (some true)
  else
    some none

def trace_asked.f (k : Nat) (a0 : (List trace_seen)) (a1 : Int) (a2 : api_Arp) : Option (Bool) :=
  (getL a0.length a0 a1).bind fun t2 =>
  (trace_came.f a0 a1).bind fun (r5, r6) =>
  trace_came_1.f k r5 r6 (trace_asked.b1 k t2 a2) (
    some false)

set_option maxRecDepth 100000 in
theorem trace_asked_calls (k : Nat) (A00 : SkL Unit) (a0 : (List trace_seen)) (a1 : Int) (a2 : api_Arp) (r : Bool) (h : trace_asked.f k a0 a1 a2 = some r) : Pure Tryz.prog ([Row 14 (pl trace_seen.enc) noK A00 a0] ++ Glob) 37 #[slcV A00 a0.length, .int .i64 a1, api_Arp.v a2] (.bool r) := by
  intro w Z hS
  refine calls_of (args := [slcV A00 a0.length, .int .i64 a1, api_Arp.v a2]) (L := [(0, slcV A00 a0.length), (1, .int .i64 a1), (2, api_Arp.v a2)]) (N := 85) (S := Sat w Z [] [] ([Row 14 (pl trace_seen.enc) noK A00 a0] ++ Glob)) Tryz.func37 rfl rfl (Nat.le_of_ble_eq_true rfl) rfl hS ?_
  have hM := h
  clear h hS
  unfold trace_asked.f at hM
  refine WP.seq ?_
  refine WP.rh [] (fun b1 => [(5, .pointer (some ⟨b1, 0, none⟩)), (6, .pointer (some ⟨(b1 + 1), 0, none⟩))]) (fun b1 => []) (fun b1 => [(b1, api_Arp.o a2), ((b1 + 1), .cells #[.bool false] 4 (0, 0))]) (fun b1 => ?_)
  refine WP.seq ?_
  refine WP.region ?_
  refine WL.rn 2 [] [(12, slcV A00 a0.length), (13, .int .i64 a1)] ?_
  obtain ⟨t2, h3, hM⟩ := bind_some hM
  refine WL.valF (φ := Row 14 (pl trace_seen.enc) noK A00 a0) (fact_at 0 rfl) (fun w hR => run_indexRowF (A := A00) (xs := a0) (i := a1) (k := .i64) (e := 42) (m := 14) (by kernel_rfl) (by kernel_rfl) h3 (by kernel_rfl) (by kernel_rfl) hR) (by kernel_rfl) (by kernel_rfl) rfl ?_
  refine WL.valF (φ := Row 14 (pl trace_seen.enc) noK A00 a0) (fact_at 0 rfl) (fun w hR => run_loadRowFA (A := A00) (xs := a0) (i := a1) (j := 0) (n := 14) (vs := [.bool t2.Event.In, .int .i64 t2.Event.Gate, .int .i64 t2.Event.Port, .string t2.Event.S, .int .i64 t2.vid, .int .u64 t2.f.Dst, .int .u64 t2.f.Src, .bool t2.f.Tag.Has, .int .i64 t2.f.Tag.Pri, .bool t2.f.Tag.Dei, .int .i64 t2.f.Tag.Vid, .int .i64 t2.f.Type_, .string t2.f.Body, .bool t2.is_]) h3 (fun _ => by kernel_rfl) (by kernel_rfl) (by kernel_rfl) (by kernel_rfl) rfl hR) (by kernel_rfl) (by kernel_rfl) rfl ?_
  refine WL.rh 2 [2, 2, 2, 2, 2, 2, 2, 2, 2, 2, 2, 2, 2, 2] (fun b4 => [(7, .pointer (some ⟨b4, 0, none⟩))]) (fun b4 => []) (fun b4 => [(b4, trace_seen.o t2)]) (fun b4 => ?_)
  refine WP.done ?_
  refine WP.seq ?_
  refine WP.seq ?_
  refine WP.region ?_
  refine WL.rn 2 [] [(16, slcV A00 a0.length), (17, .int .i64 a1)] ?_
  obtain ⟨⟨r5, r6⟩, h7, hM⟩ := bind_some hM
  dsimp only at hM
  refine WL.callX (F0 := [Row 14 (pl trace_seen.enc) noK A00 a0]) [] [] [false, false, false] (fun _ => _) [0] (by kernel_rfl) (trace_came_calls A00 a0 a1 _ h7) rfl rfl (by kernel_rfl) (by kernel_rfl) (fun _ => rfl) (fun A8 => ?_)
  refine WP.done ?_
  refine WP.block ?_
  refine WP.rangeFunc (Hi := [(A8.1, .cells #[slcV A8.2.1 r5.length] 35 (0, 0)), (A8.2.2, .cells #[.int .i64 r6] 3 (0, 0))]) (Hr := [(b1, api_Arp.o a2), ((b1 + 1), .cells #[.bool false] 4 (0, 0)), (b4, trace_seen.o t2)]) (trace_came_1_calls k A8.1 A8.2.2 A8.2.1 r5 r6) _ _ r hM (by kernel_rfl) [0] (by kernel_rfl) rfl rfl (entersE Tryz.func72 rfl rfl) rfl (fun q => [(b1, api_Arp.o a2), ((b1 + 1), .cells #[.bool q] 4 (0, 0)), (b4, trace_seen.o t2)]) ?_ ?_ ?_
  ·
    intro l K1 K2 hbg x9 r hM w Z
    replace hM : trace_asked.b1 k t2 a2 x9 = some r := hM
    unfold trace_asked.b1 at hM
    refine WP.rh [3, 3, 3, 3, 3, 3, 3, 3, 3, 3, 3, 3, 3, 3] (fun b10 => [(8, .pointer (some ⟨b10, 0, none⟩))]) (fun b10 => []) (fun b10 => [(b10, trace_seen.o x9)]) (fun b10 => ?_)
    refine WP.begin hbg ?_
    refine WP.block ?_
    refine WP.seq ?_
    refine WP.region ?_
    refine WL.rn 2 [3, 3, 3, 3, 3, 3, 3, 3] [(22, api_Frame.v x9.f)] ?_
    obtain ⟨⟨r11, r12⟩, h13, hM⟩ := bind_some hM
    dsimp only at hM
    refine WL.callP [] [] (arp_Of_calls k x9.f _ h13) (fun _ h => List.mem_append_right _ h) (by kernel_rfl) (by kernel_rfl) rfl ?_
    refine WL.rh 6 [4, 4, 4, 4, 4] (fun b14 => [(9, .pointer (some ⟨b14, 0, none⟩)), (10, .bool r12)]) (fun b14 => []) (fun b14 => [(b14, api_Arp.o r11)]) (fun b14 => ?_)
    refine WP.done ?_
    refine WP.seq ?_
    refine WP.region ?_
    refine WL.rn 8 [3, 2] [(33, .bool (x9.Event.Gate == t2.Event.Gate))] ?_
    refine WL.bo 33 (x9.Event.Gate == t2.Event.Gate) 8 [3, 2] [] (fun b' => [(41, .bool (b' && (x9.Event.Port == t2.Event.Port)))]) ?_
    refine WL.rn 1 [] [(42, .bool ((x9.Event.Gate == t2.Event.Gate) && (x9.Event.Port == t2.Event.Port)))] ?_
    refine WL.bo 42 ((x9.Event.Gate == t2.Event.Gate) && (x9.Event.Port == t2.Event.Port)) 6 [3, 2] [] (fun b' => [(48, .bool (b' && (x9.vid == t2.vid)))]) ?_
    refine WL.rn 1 [] [(11, .bool (((x9.Event.Gate == t2.Event.Gate) && (x9.Event.Port == t2.Event.Port)) && (x9.vid == t2.vid)))] ?_
    refine WP.done ?_
    refine WP.seq ?_
    refine WP.region ?_
    refine WL.rn 2 [] [(50, .bool r12)] ?_
    refine WL.bo 50 r12 2 [] [] (fun b' => [(52, .bool (b' && (((x9.Event.Gate == t2.Event.Gate) && (x9.Event.Port == t2.Event.Port)) && (x9.vid == t2.vid))))]) ?_
    refine WL.rn 1 [] [(53, .bool (r12 && (((x9.Event.Gate == t2.Event.Gate) && (x9.Event.Port == t2.Event.Port)) && (x9.vid == t2.vid))))] ?_
    refine WL.bo 53 (r12 && (((x9.Event.Gate == t2.Event.Gate) && (x9.Event.Port == t2.Event.Port)) && (x9.vid == t2.vid))) 4 [4] [] (fun b' => [(57, .bool (b' && (r11.Op == 1)))]) ?_
    refine WL.rn 1 [] [(58, .bool ((r12 && (((x9.Event.Gate == t2.Event.Gate) && (x9.Event.Port == t2.Event.Port)) && (x9.vid == t2.vid))) && (r11.Op == 1)))] ?_
    refine WL.bo 58 ((r12 && (((x9.Event.Gate == t2.Event.Gate) && (x9.Event.Port == t2.Event.Port)) && (x9.vid == t2.vid))) && (r11.Op == 1)) 5 [3] [] (fun b' => [(63, .bool (b' && (x9.f.Dst == 281474976710655)))]) ?_
    refine WL.rn 1 [] [(64, .bool (((r12 && (((x9.Event.Gate == t2.Event.Gate) && (x9.Event.Port == t2.Event.Port)) && (x9.vid == t2.vid))) && (r11.Op == 1)) && (x9.f.Dst == 281474976710655)))] ?_
    refine WL.bo 64 (((r12 && (((x9.Event.Gate == t2.Event.Gate) && (x9.Event.Port == t2.Event.Port)) && (x9.vid == t2.vid))) && (r11.Op == 1)) && (x9.f.Dst == 281474976710655)) 6 [4, 0] [] (fun b' => [(70, .bool (b' && (r11.SMac == a2.TMac)))]) ?_
    refine WL.rn 1 [] [(71, .bool ((((r12 && (((x9.Event.Gate == t2.Event.Gate) && (x9.Event.Port == t2.Event.Port)) && (x9.vid == t2.vid))) && (r11.Op == 1)) && (x9.f.Dst == 281474976710655)) && (r11.SMac == a2.TMac)))] ?_
    refine WL.bo 71 ((((r12 && (((x9.Event.Gate == t2.Event.Gate) && (x9.Event.Port == t2.Event.Port)) && (x9.vid == t2.vid))) && (r11.Op == 1)) && (x9.f.Dst == 281474976710655)) && (r11.SMac == a2.TMac)) 6 [4, 0] [] (fun b' => [(77, .bool (b' && (r11.SIp == a2.TIp)))]) ?_
    refine WL.rn 1 [] [(78, .bool (((((r12 && (((x9.Event.Gate == t2.Event.Gate) && (x9.Event.Port == t2.Event.Port)) && (x9.vid == t2.vid))) && (r11.Op == 1)) && (x9.f.Dst == 281474976710655)) && (r11.SMac == a2.TMac)) && (r11.SIp == a2.TIp)))] ?_
    refine WL.bo 78 (((((r12 && (((x9.Event.Gate == t2.Event.Gate) && (x9.Event.Port == t2.Event.Port)) && (x9.vid == t2.vid))) && (r11.Op == 1)) && (x9.f.Dst == 281474976710655)) && (r11.SMac == a2.TMac)) && (r11.SIp == a2.TIp)) 6 [4, 0] [] (fun b' => [(84, .bool (b' && (r11.TIp == a2.SIp)))]) ?_
    refine WP.done ?_
    refine WP.kp [true, true, true, false, false] ?_
    refine WP.cond ((((((r12 && (((x9.Event.Gate == t2.Event.Gate) && (x9.Event.Port == t2.Event.Port)) && (x9.vid == t2.vid))) && (r11.Op == 1)) && (x9.f.Dst == 281474976710655)) && (r11.SMac == a2.TMac)) && (r11.SIp == a2.TIp)) && (r11.TIp == a2.SIp)) rfl rfl (fun c15 => ?_) (fun c15 => ?_)
    · replace hM := cond_t hM c15
      refine WP.seq ?_
      refine WP.rh [1] (fun _ => []) (fun _ => [(1, 0, [.bool true])]) (fun _ => []) (fun _ => ?_)
      obtain rfl := Option.some.inj hM
      exact WP.roundRet (fun w' hw => ⟨_, rfl, (hw.pick [0, 1, 2] (by kernel_rfl)).lessF [0, 1] (by kernel_rfl)⟩)
    · replace hM := cond_f hM c15
      refine WP.skip ?_
      refine WP.leave ?_
      obtain rfl := Option.some.inj hM
      exact WP.roundEnd (fun w' hw => ⟨rfl, (hw.pick [0, 1, 2] (by kernel_rfl)).lessF [0, 1] (by kernel_rfl)⟩)
  ·
    intro hM D16
    refine WP.markBlock ?_
    refine WP.markCode ?_
    refine WP.seq ?_
    refine WP.rn [3] [] ?_
    refine WP.kp [false, false, false, true, false, true] ?_
    obtain rfl := Option.some.inj hM
    exact WP.retM 1 [0] [(b1 + 1)] (.bool false) (by kernel_rfl) rfl (by kernel_rfl) (fun w' hw => ⟨rfl, (hw.pick [] rfl).lessF [1] (by kernel_rfl)⟩)
  ·
    intro D17
    exact WP.retM 5 [3] [(b1 + 1)] (.bool r) (by kernel_rfl) rfl (by kernel_rfl) (fun w' hw => ⟨rfl, (hw.pick [] rfl).lessF [1] (by kernel_rfl)⟩)

end Go.Proofs.YtbbekdmndifkpaaGreatDoor

namespace Go.Proofs.YtbbekdmndifkpaaGreatDoor
open Go Eng
set_option linter.unusedVariables false
set_option linter.unusedSimpArgs false

/-! ### gangway/trace.told: function 38 -/
def trace_told.k1 (r8 : api_Arp) (x6 : trace_seen) (a3 : api_Arp) (x17 : Bool) : Option (Option (Bool)) :=
  bif (((x17 && (r8.SMac == x6.f.Src)) && (r8.SMac == a3.SMac)) && (r8.SIp == a3.SIp)) then
    some (some true)
  else
    some none

def trace_told.b2 (k : Nat) (a1 : (List trace_seen)) (a2 : Int) (a0 : (List api_Gate)) (a3 : api_Arp) (x6 : trace_seen) : Option (Option (Bool)) :=
  (arp_Of.f k x6.f).bind fun (r8, r9) =>
  bif r9 then
    (getL a1.length a1 a2).bind fun t13 =>
    (trace_same.f k a0 x6 t13).bind fun r15 =>
    trace_told.k1 r8 x6 a3 r15
  else
    trace_told.k1 r8 x6 a3 false

def trace_told.f (k : Nat) (a0 : (List api_Gate)) (a1 : (List trace_seen)) (a2 : Int) (a3 : api_Arp) : Option (Bool) :=
  (trace_came.f a1 a2).bind fun (r2, r3) =>
  trace_came_1.f k r2 r3 (trace_told.b2 k a1 a2 a0 a3) (
    some false)

set_option maxRecDepth 100000 in
theorem trace_told_calls (k : Nat) (A00 : SkL ((SkL (SkL Unit)) × (SkL Unit) × (SkL (SkL Unit)) × (SkL Unit))) (A01 : SkL Unit) (a0 : (List api_Gate)) (a1 : (List trace_seen)) (a2 : Int) (a3 : api_Arp) (r : Bool) (h : trace_told.f k a0 a1 a2 a3 = some r) : Pure Tryz.prog ([Row 21 api_Gate.encS api_Gate.inK A00 a0, Row 14 (pl trace_seen.enc) noK A01 a1] ++ Glob) 38 #[slcV A00 a0.length, slcV A01 a1.length, .int .i64 a2, api_Arp.v a3] (.bool r) := by
  intro w Z hS
  refine calls_of (args := [slcV A00 a0.length, slcV A01 a1.length, .int .i64 a2, api_Arp.v a3]) (L := [(0, slcV A00 a0.length), (1, slcV A01 a1.length), (2, .int .i64 a2), (3, api_Arp.v a3)]) (N := 54) (S := Sat w Z [] [] ([Row 21 api_Gate.encS api_Gate.inK A00 a0, Row 14 (pl trace_seen.enc) noK A01 a1] ++ Glob)) Tryz.func38 rfl rfl (Nat.le_of_ble_eq_true rfl) rfl hS ?_
  have hM := h
  clear h hS
  unfold trace_told.f at hM
  refine WP.seq ?_
  refine WP.rh [] (fun b1 => [(4, .pointer (some ⟨b1, 0, none⟩)), (5, .pointer (some ⟨(b1 + 1), 0, none⟩)), (6, .pointer (some ⟨(b1 + 2), 0, none⟩)), (7, .pointer (some ⟨(b1 + 3), 0, none⟩)), (8, .pointer (some ⟨(b1 + 4), 0, none⟩))]) (fun b1 => []) (fun b1 => [(b1, .cells #[slcV A00 a0.length] 22 (0, 0)), ((b1 + 1), .cells #[slcV A01 a1.length] 35 (0, 0)), ((b1 + 2), .cells #[.int .i64 a2] 3 (0, 0)), ((b1 + 3), api_Arp.o a3), ((b1 + 4), .cells #[.bool false] 4 (0, 0))]) (fun b1 => ?_)
  refine WP.seq ?_
  refine WP.seq ?_
  refine WP.region ?_
  refine WL.rn 2 [1, 2] [(12, slcV A01 a1.length), (13, .int .i64 a2)] ?_
  obtain ⟨⟨r2, r3⟩, h4, hM⟩ := bind_some hM
  dsimp only at hM
  refine WL.callX (F0 := [Row 14 (pl trace_seen.enc) noK A01 a1]) [] [] [false, false, false, false, false] (fun _ => _) [1] (by kernel_rfl) (trace_came_calls A01 a1 a2 _ h4) rfl rfl (by kernel_rfl) (by kernel_rfl) (fun _ => rfl) (fun A5 => ?_)
  refine WP.done ?_
  refine WP.block ?_
  refine WP.rangeFunc (Hi := [(A5.1, .cells #[slcV A5.2.1 r2.length] 35 (0, 0)), (A5.2.2, .cells #[.int .i64 r3] 3 (0, 0))]) (Hr := [(b1, .cells #[slcV A00 a0.length] 22 (0, 0)), ((b1 + 1), .cells #[slcV A01 a1.length] 35 (0, 0)), ((b1 + 2), .cells #[.int .i64 a2] 3 (0, 0)), ((b1 + 3), api_Arp.o a3), ((b1 + 4), .cells #[.bool false] 4 (0, 0))]) (trace_came_1_calls k A5.1 A5.2.2 A5.2.1 r2 r3) _ _ r hM (by kernel_rfl) [0] (by kernel_rfl) rfl rfl (entersE Tryz.func72 rfl rfl) rfl (fun q => [(b1, .cells #[slcV A00 a0.length] 22 (0, 0)), ((b1 + 1), .cells #[slcV A01 a1.length] 35 (0, 0)), ((b1 + 2), .cells #[.int .i64 a2] 3 (0, 0)), ((b1 + 3), api_Arp.o a3), ((b1 + 4), .cells #[.bool q] 4 (0, 0))]) ?_ ?_ ?_
  ·
    intro l K1 K2 hbg x6 r hM w Z
    replace hM : trace_told.b2 k a1 a2 a0 a3 x6 = some r := hM
    unfold trace_told.b2 at hM
    refine WP.rh [5, 5, 5, 5, 5, 5, 5, 5, 5, 5, 5, 5, 5, 5] (fun b7 => [(9, .pointer (some ⟨b7, 0, none⟩))]) (fun b7 => []) (fun b7 => [(b7, trace_seen.o x6)]) (fun b7 => ?_)
    refine WP.begin hbg ?_
    refine WP.block ?_
    refine WP.seq ?_
    refine WP.region ?_
    refine WL.rn 2 [5, 5, 5, 5, 5, 5, 5, 5] [(18, api_Frame.v x6.f)] ?_
    obtain ⟨⟨r8, r9⟩, h10, hM⟩ := bind_some hM
    dsimp only at hM
    refine WL.callP [] [] (arp_Of_calls k x6.f _ h10) (fun _ h => List.mem_append_right _ h) (by kernel_rfl) (by kernel_rfl) rfl ?_
    refine WL.rh 6 [6, 6, 6, 6, 6] (fun b11 => [(10, .pointer (some ⟨b11, 0, none⟩)), (11, .bool r9)]) (fun b11 => []) (fun b11 => [(b11, api_Arp.o r8)]) (fun b11 => ?_)
    refine WP.done ?_
    refine WP.seq ?_
    refine WP.quiet (by kernel_rfl) (by kernel_rfl) ?_
    refine QL.rn 2 [] [(23, .bool r9)] ?_
    refine QL.join (σ := Bool) 8 (fun st => trace_told.k1 r8 x6 a3 st = some r) (fun st => [(7, .pointer (some ⟨(b1 + 3), 0, none⟩)), (8, .pointer (some ⟨(b1 + 4), 0, none⟩)), (9, .pointer (some ⟨b7, 0, none⟩)), (10, .pointer (some ⟨b11, 0, none⟩)), (31, .bool st)]) (fun st hM => ?_) (fun K1 => ?_)
    ·
      obtain ⟨x17, rfl⟩ : ∃ y, y = st := ⟨st, rfl⟩
      replace hM : trace_told.k1 r8 x6 a3 x17 = some r := hM
      unfold trace_told.k1 at hM
      show QL _ _ _ _ _ _ [(7, .pointer (some ⟨(b1 + 3), 0, none⟩)), (8, .pointer (some ⟨(b1 + 4), 0, none⟩)), (9, .pointer (some ⟨b7, 0, none⟩)), (10, .pointer (some ⟨b11, 0, none⟩)), (31, .bool x17)]
      refine QL.rn 1 [] [(32, .bool x17)] ?_
      refine QL.bo 32 x17 7 [6, 5] [] (fun b' => [(39, .bool (b' && (r8.SMac == x6.f.Src)))]) ?_
      refine QL.rn 1 [] [(40, .bool (x17 && (r8.SMac == x6.f.Src)))] ?_
      refine QL.bo 40 (x17 && (r8.SMac == x6.f.Src)) 6 [6, 3] [] (fun b' => [(46, .bool (b' && (r8.SMac == a3.SMac)))]) ?_
      refine QL.rn 1 [] [(47, .bool ((x17 && (r8.SMac == x6.f.Src)) && (r8.SMac == a3.SMac)))] ?_
      refine QL.bo 47 ((x17 && (r8.SMac == x6.f.Src)) && (r8.SMac == a3.SMac)) 6 [6, 3] [] (fun b' => [(53, .bool (b' && (r8.SIp == a3.SIp)))]) ?_
      refine QL.done ?_
      refine WP.kp [true, true, true, true, true, false, false] ?_
      refine WP.cond (((x17 && (r8.SMac == x6.f.Src)) && (r8.SMac == a3.SMac)) && (r8.SIp == a3.SIp)) rfl rfl (fun c18 => ?_) (fun c18 => ?_)
      · replace hM := cond_t hM c18
        refine WP.seq ?_
        refine WP.rh [4] (fun _ => []) (fun _ => [(4, 0, [.bool true])]) (fun _ => []) (fun _ => ?_)
        obtain rfl := Option.some.inj hM
        exact WP.roundRet (fun w' hw => ⟨_, rfl, (hw.pick [0, 1, 2, 3, 4] (by kernel_rfl)).lessF [0, 1, 2] (by kernel_rfl)⟩)
      · replace hM := cond_f hM c18
        refine WP.skip ?_
        refine WP.leave ?_
        obtain rfl := Option.some.inj hM
        exact WP.roundEnd (fun w' hw => ⟨rfl, (hw.pick [0, 1, 2, 3, 4] (by kernel_rfl)).lessF [0, 1, 2] (by kernel_rfl)⟩)
    ·
      refine QL.sp 23 r9 (fun c12 => ?_) (fun c12 => ?_)
      · replace hM := cond_t hM c12
        refine QL.rn 4 [0, 5, 5, 5, 5, 5, 5, 5, 5, 5, 5, 5, 5, 5, 5, 1, 2] [(24, slcV A00 a0.length), (25, trace_seen.v x6), (26, slcV A01 a1.length), (27, .int .i64 a2)] ?_
        obtain ⟨t13, h14, hM⟩ := bind_some hM
        refine QL.valF (φ := Row 14 (pl trace_seen.enc) noK A01 a1) (fact_at 2 rfl) (fun w hR => run_indexRowF (A := A01) (xs := a1) (i := a2) (k := .i64) (e := 42) (m := 14) (by kernel_rfl) (by kernel_rfl) h14 (by kernel_rfl) (by kernel_rfl) hR) (by kernel_rfl) (by kernel_rfl) rfl ?_
        refine QL.valF (φ := Row 14 (pl trace_seen.enc) noK A01 a1) (fact_at 2 rfl) (fun w hR => run_loadRowFA (A := A01) (xs := a1) (i := a2) (j := 0) (n := 14) (vs := [.bool t13.Event.In, .int .i64 t13.Event.Gate, .int .i64 t13.Event.Port, .string t13.Event.S, .int .i64 t13.vid, .int .u64 t13.f.Dst, .int .u64 t13.f.Src, .bool t13.f.Tag.Has, .int .i64 t13.f.Tag.Pri, .bool t13.f.Tag.Dei, .int .i64 t13.f.Tag.Vid, .int .i64 t13.f.Type_, .string t13.f.Body, .bool t13.is_]) h14 (fun _ => by kernel_rfl) (by kernel_rfl) (by kernel_rfl) (by kernel_rfl) rfl hR) (by kernel_rfl) (by kernel_rfl) rfl ?_
        obtain ⟨r15, h16, hM⟩ := bind_some hM
        refine QL.callP [] [] (trace_same_calls k A00 a0 x6 t13 _ h16) (sub_pick [1] (by kernel_rfl)) (by kernel_rfl) (by kernel_rfl) rfl ?_
        refine QL.rn 1 [] [(31, .bool r15)] ?_
        exact QL.sub [7, 8, 9, 10, 31] (by kernel_rfl) (K1 r15 hM)
      · replace hM := cond_f hM c12
        refine QL.rn 8 [] [(31, .bool false)] ?_
        exact QL.sub [7, 8, 9, 10, 31] (by kernel_rfl) (K1 false hM)
  ·
    intro hM D19
    refine WP.markBlock ?_
    refine WP.markCode ?_
    refine WP.seq ?_
    refine WP.rn [6] [] ?_
    refine WP.kp [false, false, false, false, false, false, true, true] ?_
    obtain rfl := Option.some.inj hM
    exact WP.retM 1 [0] [(b1 + 4)] (.bool false) (by kernel_rfl) rfl (by kernel_rfl) (fun w' hw => ⟨rfl, (hw.pick [] rfl).lessF [1, 2] (by kernel_rfl)⟩)
  ·
    intro D20
    exact WP.retM 7 [6] [(b1 + 4)] (.bool r) (by kernel_rfl) rfl (by kernel_rfl) (fun w' hw => ⟨rfl, (hw.pick [] rfl).lessF [1, 2] (by kernel_rfl)⟩)

end Go.Proofs.YtbbekdmndifkpaaGreatDoor

namespace Go.Proofs.YtbbekdmndifkpaaGreatDoor
open Go Eng
set_option linter.unusedVariables false
set_option linter.unusedSimpArgs false

/-! ### gangway/trace.answers: function 17 -/
def trace_answers.k1 (x14 : Bool) : Option (Bool) :=
  some x14

def trace_answers.f (k : Nat) (a0 : (List api_Gate)) (a1 : (List trace_seen)) (a2 : Int) : Option (Bool) :=
  (getL a1.length a1 a2).bind fun t1 =>
  (arp_Of.f k t1.f).bind fun (r4, r5) =>
  bif (((((!t1.is_) || (!r5)) || (r4.Op != 2)) || (r4.SMac != t1.f.Src)) || (t1.f.Dst != r4.TMac)) then
    some false
  else
    (trace_asked.f k a1 a2 r4).bind fun r9 =>
    bif r9 then
      (trace_told.f k a0 a1 a2 r4).bind fun r12 =>
      trace_answers.k1 r12
    else
      trace_answers.k1 false

set_option maxRecDepth 100000 in
theorem trace_answers_calls (k : Nat) (A00 : SkL ((SkL (SkL Unit)) × (SkL Unit) × (SkL (SkL Unit)) × (SkL Unit))) (A01 : SkL Unit) (a0 : (List api_Gate)) (a1 : (List trace_seen)) (a2 : Int) (r : Bool) (h : trace_answers.f k a0 a1 a2 = some r) : Pure Tryz.prog ([Row 21 api_Gate.encS api_Gate.inK A00 a0, Row 14 (pl trace_seen.enc) noK A01 a1] ++ Glob) 17 #[slcV A00 a0.length, slcV A01 a1.length, .int .i64 a2] (.bool r) := by
  intro w Z hS
  refine calls_of (args := [slcV A00 a0.length, slcV A01 a1.length, .int .i64 a2]) (L := [(0, slcV A00 a0.length), (1, slcV A01 a1.length), (2, .int .i64 a2)]) (N := 59) (S := Sat w Z [] [] ([Row 21 api_Gate.encS api_Gate.inK A00 a0, Row 14 (pl trace_seen.enc) noK A01 a1] ++ Glob)) Tryz.func17 rfl rfl (Nat.le_of_ble_eq_true rfl) rfl hS ?_
  have hM := h
  clear h hS
  unfold trace_answers.f at hM
  refine WP.seq ?_
  refine WP.rn [] [(6, .bool false)] ?_
  refine WP.seq ?_
  refine WP.region ?_
  refine WL.rn 2 [] [(10, slcV A01 a1.length), (11, .int .i64 a2)] ?_
  obtain ⟨t1, h2, hM⟩ := bind_some hM
  refine WL.valF (φ := Row 14 (pl trace_seen.enc) noK A01 a1) (fact_at 1 rfl) (fun w hR => run_indexRowF (A := A01) (xs := a1) (i := a2) (k := .i64) (e := 42) (m := 14) (by kernel_rfl) (by kernel_rfl) h2 (by kernel_rfl) (by kernel_rfl) hR) (by kernel_rfl) (by kernel_rfl) rfl ?_
  refine WL.valF (φ := Row 14 (pl trace_seen.enc) noK A01 a1) (fact_at 1 rfl) (fun w hR => run_loadRowFA (A := A01) (xs := a1) (i := a2) (j := 0) (n := 14) (vs := [.bool t1.Event.In, .int .i64 t1.Event.Gate, .int .i64 t1.Event.Port, .string t1.Event.S, .int .i64 t1.vid, .int .u64 t1.f.Dst, .int .u64 t1.f.Src, .bool t1.f.Tag.Has, .int .i64 t1.f.Tag.Pri, .bool t1.f.Tag.Dei, .int .i64 t1.f.Tag.Vid, .int .i64 t1.f.Type_, .string t1.f.Body, .bool t1.is_]) h2 (fun _ => by kernel_rfl) (by kernel_rfl) (by kernel_rfl) (by kernel_rfl) rfl hR) (by kernel_rfl) (by kernel_rfl) rfl ?_
  refine WL.rh 2 [0, 0, 0, 0, 0, 0, 0, 0, 0, 0, 0, 0, 0, 0] (fun b3 => [(7, .pointer (some ⟨b3, 0, none⟩))]) (fun b3 => []) (fun b3 => [(b3, trace_seen.o t1)]) (fun b3 => ?_)
  refine WP.done ?_
  refine WP.seq ?_
  refine WP.region ?_
  refine WL.rn 2 [0, 0, 0, 0, 0, 0, 0, 0] [(16, api_Frame.v t1.f)] ?_
  obtain ⟨⟨r4, r5⟩, h6, hM⟩ := bind_some hM
  dsimp only at hM
  refine WL.callP [] [] (arp_Of_calls k t1.f _ h6) (fun _ h => List.mem_append_right _ h) (by kernel_rfl) (by kernel_rfl) rfl ?_
  refine WL.rh 6 [1, 1, 1, 1, 1] (fun b7 => [(8, .pointer (some ⟨b7, 0, none⟩)), (9, .bool r5)]) (fun b7 => []) (fun b7 => [(b7, api_Arp.o r4)]) (fun b7 => ?_)
  refine WP.done ?_
  refine WP.seq ?_
  refine WP.seq ?_
  refine WP.region ?_
  refine WL.rn 4 [0] [(23, .bool (!t1.is_))] ?_
  refine WL.bo 23 (!t1.is_) 3 [] [] (fun b' => [(26, .bool (b' || (!r5)))]) ?_
  refine WL.rn 1 [] [(27, .bool ((!t1.is_) || (!r5)))] ?_
  refine WL.bo 27 ((!t1.is_) || (!r5)) 4 [] [1] (fun b' => [(31, .bool (b' || (r4.Op != 2)))]) ?_
  refine WL.rn 1 [] [(32, .bool (((!t1.is_) || (!r5)) || (r4.Op != 2)))] ?_
  refine WL.bo 32 (((!t1.is_) || (!r5)) || (r4.Op != 2)) 7 [] [1, 0] (fun b' => [(39, .bool (b' || (r4.SMac != t1.f.Src)))]) ?_
  refine WL.rn 1 [] [(40, .bool ((((!t1.is_) || (!r5)) || (r4.Op != 2)) || (r4.SMac != t1.f.Src)))] ?_
  refine WL.bo 40 ((((!t1.is_) || (!r5)) || (r4.Op != 2)) || (r4.SMac != t1.f.Src)) 7 [] [0, 1] (fun b' => [(47, .bool (b' || (t1.f.Dst != r4.TMac)))]) ?_
  refine WP.done ?_
  refine WP.kp [false, true] ?_
  refine WP.cond (((((!t1.is_) || (!r5)) || (r4.Op != 2)) || (r4.SMac != t1.f.Src)) || (t1.f.Dst != r4.TMac)) rfl rfl (fun c8 => ?_) (fun c8 => ?_)
  · replace hM := cond_t hM c8
    refine WP.seq ?_
    refine WP.rn [] [(6, .bool false)] ?_
    obtain rfl := Option.some.inj hM
    exact WP.ret [] [] (.bool false) (by kernel_rfl) (fun w' hw => ⟨rfl, (hw.pick [] rfl).lessF [0, 1] (by kernel_rfl)⟩)
  · replace hM := cond_f hM c8
    refine WP.skip ?_
    refine WP.seq ?_
    refine WP.region ?_
    refine WL.rn 3 [0, 0, 0, 0, 0] [(48, slcV A01 a1.length), (49, .int .i64 a2), (50, api_Arp.v r4)] ?_
    obtain ⟨r9, h10, hM⟩ := bind_some hM
    refine WL.callP [] [] (trace_asked_calls k A01 a1 a2 r4 _ h10) (sub_pick [1] (by kernel_rfl)) (by kernel_rfl) (by kernel_rfl) rfl ?_
    refine WL.rn 1 [] [(52, .bool r9)] ?_
    refine WL.join (σ := Bool) 6 (fun st => trace_answers.k1 st = some r) (fun st => [(6, .bool false), (58, .bool st)]) (fun st => Sat w Z [] [] ([Row 21 api_Gate.encS api_Gate.inK A00 a0, Row 14 (pl trace_seen.enc) noK A01 a1] ++ Glob)) (fun st hM => ?_) (fun K1 => ?_)
    ·
      obtain ⟨x14, rfl⟩ : ∃ y, y = st := ⟨st, rfl⟩
      replace hM : trace_answers.k1 x14 = some r := hM
      unfold trace_answers.k1 at hM
      show WL _ _ _ _ _ [(6, .bool false), (58, .bool x14)] (Sat w Z [] [] ([Row 21 api_Gate.encS api_Gate.inK A00 a0, Row 14 (pl trace_seen.enc) noK A01 a1] ++ Glob))
      refine WL.rn 1 [] [(6, .bool x14)] ?_
      refine WP.done ?_
      obtain rfl := Option.some.inj hM
      exact WP.ret [] [] (.bool x14) (by kernel_rfl) (fun w' hw => ⟨rfl, (hw.pick [] rfl).lessF [0, 1] (by kernel_rfl)⟩)
    ·
      refine WL.sp 52 r9 (fun c11 => ?_) (fun c11 => ?_)
      · replace hM := cond_t hM c11
        refine WL.rn 4 [0, 0, 0, 0, 0] [(53, slcV A00 a0.length), (54, slcV A01 a1.length), (55, .int .i64 a2), (56, api_Arp.v r4)] ?_
        obtain ⟨r12, h13, hM⟩ := bind_some hM
        refine WL.callP [] [] (trace_told_calls k A00 A01 a0 a1 a2 r4 _ h13) (sub_pick [0, 1] (by kernel_rfl)) (by kernel_rfl) (by kernel_rfl) rfl ?_
        refine WL.rn 1 [] [(58, .bool r12)] ?_
        exact WL.sub [6, 58] (by kernel_rfl) (WL.pick [] (by kernel_rfl) (by kernel_rfl) (WL.lessF [0, 1] (by kernel_rfl) (K1 r12 hM)))
      · replace hM := cond_f hM c11
        refine WL.rn 6 [] [(58, .bool false)] ?_
        exact WL.sub [6, 58] (by kernel_rfl) (WL.pick [] (by kernel_rfl) (by kernel_rfl) (WL.lessF [0, 1] (by kernel_rfl) (K1 false hM)))

end Go.Proofs.YtbbekdmndifkpaaGreatDoor

namespace Go.Proofs.YtbbekdmndifkpaaGreatDoor
open Go Eng
set_option linter.unusedVariables false
set_option linter.unusedSimpArgs false

/-! ### gangway/trace.First: function 7 -/
def trace_First.k5 (x37 : Int) (x36 : Int) (rec_l8 : Int → Int → Option (Int)) (x55 : Bool) (x56 : Bool) : Option (Int) :=
  bif x56 then
    some x37
  else
    rec_l8 x36 (i64 (x37 + 1))

def trace_First.k6 (k : Nat) (a0 : (List api_Gate)) (x1 : (List trace_seen)) (x37 : Int) (x36 : Int) (rec_l8 : Int → Int → Option (Int)) (x50 : Bool) (x51 : Bool) : Option (Int) :=
  bif x51 then
    (trace_answers.f k a0 x1 x37).bind fun r53 =>
    trace_First.k5 x37 x36 rec_l8 true (!r53)
  else
    trace_First.k5 x37 x36 rec_l8 false false

def trace_First.k7 (k : Nat) (a0 : (List api_Gate)) (x1 : (List trace_seen)) (x37 : Int) (x36 : Int) (rec_l8 : Int → Int → Option (Int)) (x45 : Bool) (x46 : Bool) : Option (Int) :=
  bif x46 then
    (trace_carried.f k a0 x1 x37).bind fun r48 =>
    trace_First.k6 k a0 x1 x37 x36 rec_l8 true (!r48)
  else
    trace_First.k6 k a0 x1 x37 x36 rec_l8 false false

def trace_First.l8 (a1 : (List api_Event)) (k : Nat) (a0 : (List api_Gate)) (x1 : (List trace_seen)) : Nat → Int → Int → Option (Int)
  | 0, _, _ => none
  | n + 1, x36, x37 =>
    bif decide (x37 < (a1.length : Int)) then
      (getL a1.length a1 x37).bind fun t39 =>
      bif !t39.In then
        (trace_bridges.f k t39).bind fun r43 =>
        trace_First.k7 k a0 x1 x37 x36 (trace_First.l8 a1 k a0 x1 n) true (!r43)
      else
        trace_First.k7 k a0 x1 x37 x36 (trace_First.l8 a1 k a0 x1 n) false false
    else
      some (-1)

def trace_First.l1 (a1 : (List api_Event)) (k : Nat) (a0 : (List api_Gate)) : Nat → (List trace_seen) → Int → Option (Int)
  | 0, _, _ => none
  | n + 1, x1, x3 =>
    bif decide (x3 < (a1.length : Int)) then
      (getL a1.length a1 x3).bind fun t5 =>
      (trace_of.f k a0 t5).bind fun r8 =>
      (roomL 128 (x1 ++ ([r8] : List trace_seen)).length).bind fun u12 =>
      trace_First.l1 a1 k a0 n (x1 ++ ([r8] : List trace_seen)) (i64 (x3 + 1))
    else
      trace_First.l8 a1 k a0 x1 k 0 0

def trace_First.f (k : Nat) (a0 : (List api_Gate)) (a1 : (List api_Event)) : Option (Int) :=
  trace_First.l1 a1 k a0 k ([] : List trace_seen) 0

set_option maxRecDepth 100000 in
theorem trace_First_calls (k : Nat) (A00 : SkL ((SkL (SkL Unit)) × (SkL Unit) × (SkL (SkL Unit)) × (SkL Unit))) (A01 : SkL Unit) (a0 : (List api_Gate)) (a1 : (List api_Event)) (r : Int) (h : trace_First.f k a0 a1 = some r) : Pure Tryz.prog ([Row 21 api_Gate.encS api_Gate.inK A00 a0, Row 4 (pl api_Event.enc) noK A01 a1] ++ Glob) 7 #[slcV A00 a0.length, slcV A01 a1.length] (.int .i64 r) := by
  intro w Z hS
  refine calls_of (args := [slcV A00 a0.length, slcV A01 a1.length]) (L := [(0, slcV A00 a0.length), (1, slcV A01 a1.length)]) (N := 54) (S := Sat w Z [] [] ([Row 21 api_Gate.encS api_Gate.inK A00 a0, Row 4 (pl api_Event.enc) noK A01 a1] ++ Glob)) Tryz.func7 rfl rfl (Nat.le_of_ble_eq_true rfl) rfl hS ?_
  have hM := h
  clear h hS
  unfold trace_First.f at hM
  refine WP.seq ?_
  refine WP.rn [] [(4, .int .i64 0)] ?_
  refine WP.seq ?_
  refine WP.rn [] [(5, .slice none 0 0)] ?_
  refine WP.seq ?_
  refine WP.seq ?_
  refine WP.rn [] [(10, slcV A01 a1.length), (11, .int .i64 (a1.length : Int)), (12, .int .i64 0)] ?_
  refine WP.block ?_
  refine WP.growNil 14 42 (pl trace_seen.enc) noK (fun _ => ()) ?_
  refine WP.sub [0, 1, 4, 5, 10, 11, 12] (L' := [(0, slcV A00 a0.length), (1, slcV A01 a1.length), (4, .int .i64 0), (5, slcV (SkL.nil (fun _ => ())) ([] : List trace_seen).length), (10, slcV A01 a1.length), (11, .int .i64 (a1.length : Int)), (12, .int .i64 0)]) (by kernel_rfl) ?_
  refine WP.lessF [0, 0, 1, 2] (F' := [GIn noK (SkL.nil (fun _ => ())) ([] : List trace_seen), GIn noK (SkL.nil (fun _ => ())) ([] : List trace_seen), Row 21 api_Gate.encS api_Gate.inK A00 a0, Row 4 (pl api_Event.enc) noK A01 a1]) (by kernel_rfl) ?_
  refine WP.loop (σ := (List trace_seen) × SkL Unit × Int) (fun n st => trace_First.l1 a1 k a0 n st.1 st.2.2) r (fun st => [(0, slcV A00 a0.length), (1, slcV A01 a1.length), (4, .int .i64 0), (5, slcV st.2.1 st.1.length), (10, slcV A01 a1.length), (11, .int .i64 (a1.length : Int)), (12, .int .i64 st.2.2)]) (fun st => Sat w Z [] [OwnR 14 42 (pl trace_seen.enc) st.2.1 st.1] ([GIn noK st.2.1 st.1, GIn noK (SkL.nil (fun _ => ())) ([] : List trace_seen), Row 21 api_Gate.encS api_Gate.inK A00 a0, Row 4 (pl api_Event.enc) noK A01 a1] ++ Glob)) (st := (([] : List trace_seen), (SkL.nil (fun _ => ())), 0)) (fun n st hM => ?_) hM
  rcases n with _ | n
  · exact nomatch (show (none : Option _) = some r from hM)
  obtain ⟨x1, A2, x3⟩ := st
  replace hM : trace_First.l1 a1 k a0 (n + 1) x1 x3 = some r := hM
  rw [trace_First.l1] at hM
  show WP _ _ _ _ _ [(0, slcV A00 a0.length), (1, slcV A01 a1.length), (4, .int .i64 0), (5, slcV A2 x1.length), (10, slcV A01 a1.length), (11, .int .i64 (a1.length : Int)), (12, .int .i64 x3)] (Sat w Z [] [OwnR 14 42 (pl trace_seen.enc) A2 x1] ([GIn noK A2 x1, GIn noK (SkL.nil (fun _ => ())) ([] : List trace_seen), Row 21 api_Gate.encS api_Gate.inK A00 a0, Row 4 (pl api_Event.enc) noK A01 a1] ++ Glob))
  refine WP.seq ?_
  refine WP.rn [] [(13, .bool (decide (x3 < (a1.length : Int))))] ?_
  refine WP.seq ?_
  refine WP.cond (decide (x3 < (a1.length : Int))) rfl rfl (fun c4 => ?_) (fun c4 => ?_)
  · replace hM := cond_t hM c4
    refine WP.skip ?_
    refine WP.seq ?_
    refine WP.block ?_
    refine WP.seq ?_
    refine WP.region ?_
    obtain ⟨t5, h6, hM⟩ := bind_some hM
    refine WL.valF (φ := Row 4 (pl api_Event.enc) noK A01 a1) (fact_at 3 rfl) (fun w hR => run_indexRowF (A := A01) (xs := a1) (i := x3) (k := .i64) (e := 28) (m := 4) (by kernel_rfl) (by kernel_rfl) h6 (by kernel_rfl) (by kernel_rfl) hR) (by kernel_rfl) (by kernel_rfl) rfl ?_
    refine WL.valF (φ := Row 4 (pl api_Event.enc) noK A01 a1) (fact_at 3 rfl) (fun w hR => run_loadRowFA (A := A01) (xs := a1) (i := x3) (j := 0) (n := 4) (vs := [.bool t5.In, .int .i64 t5.Gate, .int .i64 t5.Port, .string t5.S]) h6 (fun _ => by kernel_rfl) (by kernel_rfl) (by kernel_rfl) (by kernel_rfl) rfl hR) (by kernel_rfl) (by kernel_rfl) rfl ?_
    refine WL.rh 2 [0, 0, 0, 0] (fun b7 => [(7, .pointer (some ⟨b7, 0, none⟩))]) (fun b7 => []) (fun b7 => [(b7, api_Event.o t5)]) (fun b7 => ?_)
    refine WP.done ?_
    refine WP.region ?_
    refine WL.rn 3 [0, 0, 0, 0] [(16, slcV A2 x1.length), (17, slcV A00 a0.length), (18, api_Event.v t5)] ?_
    obtain ⟨r8, h9, hM⟩ := bind_some hM
    refine WL.callP [] [] (trace_of_calls k A00 a0 t5 _ h9) (sub_pick [2] (by kernel_rfl)) (by kernel_rfl) (by kernel_rfl) rfl ?_
    refine WL.rh 1 [] (fun b10 => [(20, .slice (some ⟨b10, 0, none⟩) 1 1)]) (fun b10 => []) (fun b10 => [(b10, trace_seen.o r8)]) (fun b10 => ?_)
    refine WL.ice (H' := [(b7, api_Event.o t5)]) (Row 14 (pl trace_seen.enc) noK (SkL.at b10 1 (fun _ => ())) ([r8] : List trace_seen)) 1 (b := b10) (ob := trace_seen.o r8) (by kernel_rfl) [] [] (by kernel_rfl) (fun w hb hψ => row_of_block hb (fun _ _ => rfl) ⟨[], by kernel_rfl⟩ (Nat.le_of_ble_eq_true rfl) (InK.no _ _)) (by kernel_rfl) ?_
    obtain ⟨u12, h11, hM⟩ := bind_some hM
    refine WL.growApp (G' := []) (A := A2) (B := (SkL.at b10 1 (fun _ => ()))) (xs := x1) (ys := ([r8] : List trace_seen)) (m := 14) (by_ := 128) (e := 42) (z := .agg #[.bool false, .int .i64 0, .int .i64 0, .string (⟨#[]⟩ : ByteArray), .int .i64 0, .int .u64 0, .int .u64 0, .bool false, .int .i64 0, .bool false, .int .i64 0, .int .i64 0, .string (⟨#[]⟩ : ByteArray), .bool false]) (f := (pl trace_seen.enc)) (K := noK) (d := 21) 0 rfl rfl (by kernel_rfl) (by kernel_rfl) (by kernel_rfl) (by kernel_rfl) (by kernel_rfl) (fun _ _ => rfl) (fun _ _ => rfl) (by kernel_rfl) (by kernel_rfl) (by kernel_rfl) (by kernel_rfl) (by kernel_rfl) (fact_at 1 rfl) (fact_at 0 rfl) h11 (by kernel_rfl) (fun A13 => ?_)
    refine WL.less (Φ' := [GIn noK A13 (x1 ++ ([r8] : List trace_seen)), Row 14 (pl trace_seen.enc) noK (SkL.at b10 1 (fun _ => ())) ([r8] : List trace_seen), GIn noK A2 x1, GIn noK (SkL.nil (fun _ => ())) ([] : List trace_seen), Row 21 api_Gate.encS api_Gate.inK A00 a0, Row 4 (pl api_Event.enc) noK A01 a1] ++ Glob) (fun _ h => h) ?_
    refine WL.rn 1 [] [(5, slcV A13 (x1 ++ ([r8] : List trace_seen)).length)] ?_
    refine WP.done ?_
    refine WP.leave ?_
    refine WP.rn [] [(12, .int .i64 (i64 (x3 + 1))), (22, .int .i64 (i64 (x3 + 1)))] ?_
    exact WP.again' [0, 1, 4, 5, 10, 11, 12] ((x1 ++ ([r8] : List trace_seen)), A13, i64 (x3 + 1)) hM (by kernel_rfl) (fun _ h => ((h.pick [] (by kernel_rfl)).lessF [0, 3, 4, 5] (by kernel_rfl)).pickG [0] [] 1 rfl (by decide) (by kernel_rfl))
  · replace hM := cond_f hM c4
    refine WP.exit rfl ?_
    refine WP.seq ?_
    refine WP.seq ?_
    refine WP.rn [] [(23, slcV A01 a1.length), (24, .int .i64 (a1.length : Int)), (25, .int .i64 0)] ?_
    refine WP.block ?_
    refine WP.growIce (G' := []) (m := 14) (e := 42) (f := (pl trace_seen.enc)) (K := noK) (A := A2) (xs := x1) 0 0 (by kernel_rfl) (by kernel_rfl) (fun _ _ => rfl) (by kernel_rfl) ?_
    refine WP.sub [0, 4, 5, 23, 24, 25] (L' := [(0, slcV A00 a0.length), (4, .int .i64 0), (5, slcV A2 x1.length), (23, slcV A01 a1.length), (24, .int .i64 (a1.length : Int)), (25, .int .i64 0)]) (by kernel_rfl) ?_
    refine WP.lessF [0, 1, 2, 3, 4] (F' := [Row 14 (pl trace_seen.enc) noK A2 x1, GIn noK A2 x1, GIn noK (SkL.nil (fun _ => ())) ([] : List trace_seen), Row 21 api_Gate.encS api_Gate.inK A00 a0, Row 4 (pl api_Event.enc) noK A01 a1]) (by kernel_rfl) ?_
    refine WP.loop (σ := Int × Int) (fun n st => trace_First.l8 a1 k a0 x1 n st.1 st.2) r (fun st => [(0, slcV A00 a0.length), (4, .int .i64 st.1), (5, slcV A2 x1.length), (23, slcV A01 a1.length), (24, .int .i64 (a1.length : Int)), (25, .int .i64 st.2)]) (fun st => Sat w Z [] [] ([Row 14 (pl trace_seen.enc) noK A2 x1, GIn noK A2 x1, GIn noK (SkL.nil (fun _ => ())) ([] : List trace_seen), Row 21 api_Gate.encS api_Gate.inK A00 a0, Row 4 (pl api_Event.enc) noK A01 a1] ++ Glob)) (st := (0, 0)) (fun n st hM => ?_) hM
    rcases n with _ | n
    · exact nomatch (show (none : Option _) = some r from hM)
    obtain ⟨x36, x37⟩ := st
    replace hM : trace_First.l8 a1 k a0 x1 (n + 1) x36 x37 = some r := hM
    rw [trace_First.l8] at hM
    show WP _ _ _ _ _ [(0, slcV A00 a0.length), (4, .int .i64 x36), (5, slcV A2 x1.length), (23, slcV A01 a1.length), (24, .int .i64 (a1.length : Int)), (25, .int .i64 x37)] (Sat w Z [] [] ([Row 14 (pl trace_seen.enc) noK A2 x1, GIn noK A2 x1, GIn noK (SkL.nil (fun _ => ())) ([] : List trace_seen), Row 21 api_Gate.encS api_Gate.inK A00 a0, Row 4 (pl api_Event.enc) noK A01 a1] ++ Glob))
    refine WP.seq ?_
    refine WP.rn [] [(26, .bool (decide (x37 < (a1.length : Int))))] ?_
    refine WP.seq ?_
    refine WP.cond (decide (x37 < (a1.length : Int))) rfl rfl (fun c38 => ?_) (fun c38 => ?_)
    · replace hM := cond_t hM c38
      refine WP.skip ?_
      refine WP.seq ?_
      refine WP.block ?_
      refine WP.seq ?_
      refine WP.region ?_
      refine WL.rn 1 [] [(27, .int .i64 x37)] ?_
      obtain ⟨t39, h40, hM⟩ := bind_some hM
      refine WL.valF (φ := Row 4 (pl api_Event.enc) noK A01 a1) (fact_at 4 rfl) (fun w hR => run_indexRowF (A := A01) (xs := a1) (i := x37) (k := .i64) (e := 28) (m := 4) (by kernel_rfl) (by kernel_rfl) h40 (by kernel_rfl) (by kernel_rfl) hR) (by kernel_rfl) (by kernel_rfl) rfl ?_
      refine WL.valF (φ := Row 4 (pl api_Event.enc) noK A01 a1) (fact_at 4 rfl) (fun w hR => run_loadRowFA (A := A01) (xs := a1) (i := x37) (j := 0) (n := 4) (vs := [.bool t39.In, .int .i64 t39.Gate, .int .i64 t39.Port, .string t39.S]) h40 (fun _ => by kernel_rfl) (by kernel_rfl) (by kernel_rfl) (by kernel_rfl) rfl hR) (by kernel_rfl) (by kernel_rfl) rfl ?_
      refine WL.rh 3 [0, 0, 0, 0] (fun b41 => [(8, .int .i64 x37), (9, .pointer (some ⟨b41, 0, none⟩))]) (fun b41 => []) (fun b41 => [(b41, api_Event.o t39)]) (fun b41 => ?_)
      refine WP.done ?_
      refine WP.seq ?_
      refine WP.region ?_
      refine WL.rn 4 [0] [(30, .pointer (some ⟨b41, 0, none⟩)), (31, .bool t39.In), (32, .bool (!t39.In)), (33, .bool (!t39.In))] ?_
      refine WL.join (σ := Bool × Bool) 4 (fun st => trace_First.k7 k a0 x1 x37 x36 (trace_First.l8 a1 k a0 x1 n) st.1 st.2 = some r) (fun st => [(0, slcV A00 a0.length), (4, .int .i64 x36), (5, slcV A2 x1.length), (8, .int .i64 x37), (9, .pointer (some ⟨b41, 0, none⟩)), (23, slcV A01 a1.length), (24, .int .i64 (a1.length : Int)), (25, .int .i64 x37), (26, .bool (decide (x37 < (a1.length : Int)))), (27, .int .i64 x37), (28, ptrV A01 (Int.toNat x37 * 4)), (29, api_Event.v t39), (30, .pointer (some ⟨b41, 0, none⟩)), (31, .bool t39.In), (32, .bool (!t39.In)), (33, .bool st.1), (37, .bool st.2)]) (fun st => Sat w Z [(b41, api_Event.o t39)] [] ([Row 14 (pl trace_seen.enc) noK A2 x1, GIn noK A2 x1, GIn noK (SkL.nil (fun _ => ())) ([] : List trace_seen), Row 21 api_Gate.encS api_Gate.inK A00 a0, Row 4 (pl api_Event.enc) noK A01 a1] ++ Glob)) (fun st hM => ?_) (fun K7 => ?_)
      ·
        obtain ⟨x45, x46⟩ := st
        replace hM : trace_First.k7 k a0 x1 x37 x36 (trace_First.l8 a1 k a0 x1 n) x45 x46 = some r := hM
        unfold trace_First.k7 at hM
        show WL _ _ _ _ _ [(0, slcV A00 a0.length), (4, .int .i64 x36), (5, slcV A2 x1.length), (8, .int .i64 x37), (9, .pointer (some ⟨b41, 0, none⟩)), (23, slcV A01 a1.length), (24, .int .i64 (a1.length : Int)), (25, .int .i64 x37), (26, .bool (decide (x37 < (a1.length : Int)))), (27, .int .i64 x37), (28, ptrV A01 (Int.toNat x37 * 4)), (29, api_Event.v t39), (30, .pointer (some ⟨b41, 0, none⟩)), (31, .bool t39.In), (32, .bool (!t39.In)), (33, .bool x45), (37, .bool x46)] (Sat w Z [(b41, api_Event.o t39)] [] ([Row 14 (pl trace_seen.enc) noK A2 x1, GIn noK A2 x1, GIn noK (SkL.nil (fun _ => ())) ([] : List trace_seen), Row 21 api_Gate.encS api_Gate.inK A00 a0, Row 4 (pl api_Event.enc) noK A01 a1] ++ Glob))
        refine WL.rn 1 [] [(38, .bool x46)] ?_
        refine WL.join (σ := Bool × Bool) 6 (fun st => trace_First.k6 k a0 x1 x37 x36 (trace_First.l8 a1 k a0 x1 n) st.1 st.2 = some r) (fun st => [(0, slcV A00 a0.length), (4, .int .i64 x36), (5, slcV A2 x1.length), (8, .int .i64 x37), (9, .pointer (some ⟨b41, 0, none⟩)), (23, slcV A01 a1.length), (24, .int .i64 (a1.length : Int)), (25, .int .i64 x37), (26, .bool (decide (x37 < (a1.length : Int)))), (27, .int .i64 x37), (28, ptrV A01 (Int.toNat x37 * 4)), (29, api_Event.v t39), (30, .pointer (some ⟨b41, 0, none⟩)), (31, .bool t39.In), (32, .bool (!t39.In)), (33, .bool x45), (37, .bool x46), (38, .bool st.1), (44, .bool st.2)]) (fun st => Sat w Z [(b41, api_Event.o t39)] [] ([Row 14 (pl trace_seen.enc) noK A2 x1, GIn noK A2 x1, GIn noK (SkL.nil (fun _ => ())) ([] : List trace_seen), Row 21 api_Gate.encS api_Gate.inK A00 a0, Row 4 (pl api_Event.enc) noK A01 a1] ++ Glob)) (fun st hM => ?_) (fun K6 => ?_)
        ·
          obtain ⟨x50, x51⟩ := st
          replace hM : trace_First.k6 k a0 x1 x37 x36 (trace_First.l8 a1 k a0 x1 n) x50 x51 = some r := hM
          unfold trace_First.k6 at hM
          show WL _ _ _ _ _ [(0, slcV A00 a0.length), (4, .int .i64 x36), (5, slcV A2 x1.length), (8, .int .i64 x37), (9, .pointer (some ⟨b41, 0, none⟩)), (23, slcV A01 a1.length), (24, .int .i64 (a1.length : Int)), (25, .int .i64 x37), (26, .bool (decide (x37 < (a1.length : Int)))), (27, .int .i64 x37), (28, ptrV A01 (Int.toNat x37 * 4)), (29, api_Event.v t39), (30, .pointer (some ⟨b41, 0, none⟩)), (31, .bool t39.In), (32, .bool (!t39.In)), (33, .bool x45), (37, .bool x46), (38, .bool x50), (44, .bool x51)] (Sat w Z [(b41, api_Event.o t39)] [] ([Row 14 (pl trace_seen.enc) noK A2 x1, GIn noK A2 x1, GIn noK (SkL.nil (fun _ => ())) ([] : List trace_seen), Row 21 api_Gate.encS api_Gate.inK A00 a0, Row 4 (pl api_Event.enc) noK A01 a1] ++ Glob))
          refine WL.rn 1 [] [(45, .bool x51)] ?_
          refine WL.join (σ := Bool × Bool) 6 (fun st => trace_First.k5 x37 x36 (trace_First.l8 a1 k a0 x1 n) st.1 st.2 = some r) (fun st => [(0, slcV A00 a0.length), (4, .int .i64 x36), (5, slcV A2 x1.length), (8, .int .i64 x37), (9, .pointer (some ⟨b41, 0, none⟩)), (23, slcV A01 a1.length), (24, .int .i64 (a1.length : Int)), (25, .int .i64 x37), (26, .bool (decide (x37 < (a1.length : Int)))), (27, .int .i64 x37), (28, ptrV A01 (Int.toNat x37 * 4)), (29, api_Event.v t39), (30, .pointer (some ⟨b41, 0, none⟩)), (31, .bool t39.In), (32, .bool (!t39.In)), (33, .bool x45), (37, .bool x46), (38, .bool x50), (44, .bool x51), (45, .bool st.1), (51, .bool st.2)]) (fun st => Sat w Z [(b41, api_Event.o t39)] [] ([Row 14 (pl trace_seen.enc) noK A2 x1, GIn noK A2 x1, GIn noK (SkL.nil (fun _ => ())) ([] : List trace_seen), Row 21 api_Gate.encS api_Gate.inK A00 a0, Row 4 (pl api_Event.enc) noK A01 a1] ++ Glob)) (fun st hM => ?_) (fun K5 => ?_)
          ·
            obtain ⟨x55, x56⟩ := st
            replace hM : trace_First.k5 x37 x36 (trace_First.l8 a1 k a0 x1 n) x55 x56 = some r := hM
            unfold trace_First.k5 at hM
            show WL _ _ _ _ _ [(0, slcV A00 a0.length), (4, .int .i64 x36), (5, slcV A2 x1.length), (8, .int .i64 x37), (9, .pointer (some ⟨b41, 0, none⟩)), (23, slcV A01 a1.length), (24, .int .i64 (a1.length : Int)), (25, .int .i64 x37), (26, .bool (decide (x37 < (a1.length : Int)))), (27, .int .i64 x37), (28, ptrV A01 (Int.toNat x37 * 4)), (29, api_Event.v t39), (30, .pointer (some ⟨b41, 0, none⟩)), (31, .bool t39.In), (32, .bool (!t39.In)), (33, .bool x45), (37, .bool x46), (38, .bool x50), (44, .bool x51), (45, .bool x55), (51, .bool x56)] (Sat w Z [(b41, api_Event.o t39)] [] ([Row 14 (pl trace_seen.enc) noK A2 x1, GIn noK A2 x1, GIn noK (SkL.nil (fun _ => ())) ([] : List trace_seen), Row 21 api_Gate.encS api_Gate.inK A00 a0, Row 4 (pl api_Event.enc) noK A01 a1] ++ Glob))
            refine WP.done ?_
            refine WP.cond x56 rfl rfl (fun c57 => ?_) (fun c57 => ?_)
            · replace hM := cond_t hM c57
              refine WP.seq ?_
              refine WP.rn [] [(4, .int .i64 x37), (52, .int .i64 x37)] ?_
              obtain rfl := Option.some.inj hM
              exact WP.ret [] [] (.int .i64 x37) (by kernel_rfl) (fun w' hw => ⟨rfl, (hw.pick [] rfl).lessF [3, 4] (by kernel_rfl)⟩)
            · replace hM := cond_f hM c57
              refine WP.skip ?_
              refine WP.leave ?_
              refine WP.rn [] [(25, .int .i64 (i64 (x37 + 1))), (53, .int .i64 (i64 (x37 + 1)))] ?_
              exact WP.again' [0, 4, 5, 23, 24, 25] (x36, i64 (x37 + 1)) hM (by kernel_rfl) (fun _ h => (h.pick [] (by kernel_rfl)).lessF [0, 1, 2, 3, 4] (by kernel_rfl))
          ·
            refine WL.sp 45 x51 (fun c52 => ?_) (fun c52 => ?_)
            · replace hM := cond_t hM c52
              refine WL.rn 3 [] [(46, slcV A00 a0.length), (47, slcV A2 x1.length), (48, .int .i64 x37)] ?_
              obtain ⟨r53, h54, hM⟩ := bind_some hM
              refine WL.callP [] [] (trace_answers_calls k A00 A2 a0 x1 x37 _ h54) (sub_pick [3, 0] (by kernel_rfl)) (by kernel_rfl) (by kernel_rfl) rfl ?_
              refine WL.rn 2 [] [(50, .bool (!r53)), (51, .bool (!r53))] ?_
              exact WL.sub [0, 4, 5, 8, 9, 23, 24, 25, 26, 27, 28, 29, 30, 31, 32, 33, 37, 38, 44, 45, 51] (by kernel_rfl) (WL.pick [0] (by kernel_rfl) (by kernel_rfl) (WL.lessF [0, 1, 2, 3, 4] (by kernel_rfl) (K5 (true, !r53) hM)))
            · replace hM := cond_f hM c52
              refine WL.rn 6 [] [(46, .tuple #[]), (47, .tuple #[]), (48, .tuple #[]), (49, .tuple #[]), (50, .tuple #[]), (51, .bool false)] ?_
              exact WL.sub [0, 4, 5, 8, 9, 23, 24, 25, 26, 27, 28, 29, 30, 31, 32, 33, 37, 38, 44, 45, 51] (by kernel_rfl) (WL.pick [0] (by kernel_rfl) (by kernel_rfl) (WL.lessF [0, 1, 2, 3, 4] (by kernel_rfl) (K5 (false, false) hM)))
        ·
          refine WL.sp 38 x46 (fun c47 => ?_) (fun c47 => ?_)
          · replace hM := cond_t hM c47
            refine WL.rn 3 [] [(39, slcV A00 a0.length), (40, slcV A2 x1.length), (41, .int .i64 x37)] ?_
            obtain ⟨r48, h49, hM⟩ := bind_some hM
            refine WL.callP [] [] (trace_carried_calls k A00 A2 a0 x1 x37 _ h49) (sub_pick [3, 0] (by kernel_rfl)) (by kernel_rfl) (by kernel_rfl) rfl ?_
            refine WL.rn 2 [] [(43, .bool (!r48)), (44, .bool (!r48))] ?_
            exact WL.sub [0, 4, 5, 8, 9, 23, 24, 25, 26, 27, 28, 29, 30, 31, 32, 33, 37, 38, 44] (by kernel_rfl) (WL.pick [0] (by kernel_rfl) (by kernel_rfl) (WL.lessF [0, 1, 2, 3, 4] (by kernel_rfl) (K6 (true, !r48) hM)))
          · replace hM := cond_f hM c47
            refine WL.rn 6 [] [(39, .tuple #[]), (40, .tuple #[]), (41, .tuple #[]), (42, .tuple #[]), (43, .tuple #[]), (44, .bool false)] ?_
            exact WL.sub [0, 4, 5, 8, 9, 23, 24, 25, 26, 27, 28, 29, 30, 31, 32, 33, 37, 38, 44] (by kernel_rfl) (WL.pick [0] (by kernel_rfl) (by kernel_rfl) (WL.lessF [0, 1, 2, 3, 4] (by kernel_rfl) (K6 (false, false) hM)))
      ·
        refine WL.sp 33 (!t39.In) (fun c42 => ?_) (fun c42 => ?_)
        · replace hM := cond_t hM c42
          refine WL.rn 1 [0, 0, 0, 0] [(34, api_Event.v t39)] ?_
          obtain ⟨r43, h44, hM⟩ := bind_some hM
          refine WL.callP [] [] (trace_bridges_calls k t39 _ h44) (fun _ h => List.mem_append_right _ h) (by kernel_rfl) (by kernel_rfl) rfl ?_
          refine WL.rn 2 [] [(36, .bool (!r43)), (37, .bool (!r43))] ?_
          exact WL.sub [0, 4, 5, 8, 9, 23, 24, 25, 26, 27, 28, 29, 30, 31, 32, 33, 37] (by kernel_rfl) (WL.pick [0] (by kernel_rfl) (by kernel_rfl) (WL.lessF [0, 1, 2, 3, 4] (by kernel_rfl) (K7 (true, !r43) hM)))
        · replace hM := cond_f hM c42
          refine WL.rn 4 [] [(34, .tuple #[]), (35, .tuple #[]), (36, .tuple #[]), (37, .bool false)] ?_
          exact WL.sub [0, 4, 5, 8, 9, 23, 24, 25, 26, 27, 28, 29, 30, 31, 32, 33, 37] (by kernel_rfl) (WL.pick [0] (by kernel_rfl) (by kernel_rfl) (WL.lessF [0, 1, 2, 3, 4] (by kernel_rfl) (K7 (false, false) hM)))
    · replace hM := cond_f hM c38
      refine WP.exit rfl ?_
      refine WP.seq ?_
      refine WP.rn [] [(4, .int .i64 (-1))] ?_
      obtain rfl := Option.some.inj hM
      exact WP.ret [] [] (.int .i64 (-1)) (by kernel_rfl) (fun w' hw => ⟨rfl, (hw.pick [] rfl).lessF [3, 4] (by kernel_rfl)⟩)

end Go.Proofs.YtbbekdmndifkpaaGreatDoor

namespace Go.Proofs.YtbbekdmndifkpaaGreatDoor
open Go Eng
set_option linter.unusedVariables false
set_option linter.unusedSimpArgs false

/-! ### gangway/gangwaylaw24.Two: function 39 -/
def gangwaylaw24_Two.f : Option (api_Gate) :=
  some (api_Gate.mk 9 2 1 ([(api_PortCfg.mk false 5 ([] : List Int)), (api_PortCfg.mk false 5 ([] : List Int))] : List api_PortCfg) ([true, true] : List Bool) (api_Keep.mk 8 99 2 9) (api_Near.mk 2 1 8 99 4 2 3) 50 ([(api_Seg.mk 5 1000 ([7, 8] : List Int))] : List api_Seg) ([(api_Route.mk (api_Net.mk 0 0) 0)] : List api_Route) 1500 true)

set_option maxRecDepth 100000 in
theorem gangwaylaw24_Two_calls (r : api_Gate) (h : gangwaylaw24_Two.f = some r) : Does Tryz.prog 39 #[] [] ([] ++ Glob) (fun x : ((SkL (SkL Unit)) × (SkL Unit) × (SkL (SkL Unit)) × (SkL Unit)) => .agg #[.int .u64 r.Bridge, .int .u64 r.Mac, .int .u32 r.Ip, slcV x.1 r.Ports.length, slcV x.2.1 r.Edges.length, .int .i64 r.Keep.Room, .int .i64 r.Keep.Life, .int .i64 r.Keep.Moves, .int .i64 r.Keep.Window, .int .u64 r.Near.Mac, .int .u32 r.Near.Ip, .int .i64 r.Near.Room, .int .i64 r.Near.Life, .int .i64 r.Near.Pend, .int .i64 r.Near.Tries, .int .i64 r.Near.Apart, .int .i64 r.Heard, slcV x.2.2.1 r.Segs.length, slcV x.2.2.2 r.Routes.length, .int .i64 r.Most, .bool r.Answers]) (fun x => []) (fun _ => []) (fun x => [Row 3 api_PortCfg.encS api_PortCfg.inK x.1 r.Ports, Row 1 (pl encB) noK x.2.1 r.Edges, Row 3 api_Seg.encS api_Seg.inK x.2.2.1 r.Segs, Row 3 (pl api_Route.enc) noK x.2.2.2 r.Routes] ++ ([] ++ Glob)) := by
  intro w Z hS
  refine calls_of (args := []) (L := []) (N := 13) (S := Sat w Z [] [] ([] ++ Glob)) Tryz.func39 rfl rfl (Nat.le_of_ble_eq_true rfl) rfl hS ?_
  have hM := h
  clear h hS
  unfold gangwaylaw24_Two.f at hM
  refine WP.seq ?_
  refine WP.rh [] (fun b1 => [(0, .pointer (some ⟨b1, 0, none⟩))]) (fun b1 => []) (fun b1 => [(b1, .cells #[.int .u64 0, .int .u64 0, .int .u32 0, .slice none 0 0, .slice none 0 0, .int .i64 0, .int .i64 0, .int .i64 0, .int .i64 0, .int .u64 0, .int .u32 0, .int .i64 0, .int .i64 0, .int .i64 0, .int .i64 0, .int .i64 0, .int .i64 0, .slice none 0 0, .slice none 0 0, .int .i64 0, .bool false] 73 (0, 0))]) (fun b1 => ?_)
  refine WP.seq ?_
  refine WP.rh [0, 0, 0, 0, 0, 0, 0, 0, 0, 0, 0, 0, 0, 0, 0, 0, 0, 0, 0, 0, 0] (fun b2 => []) (fun b2 => [(0, 0, [.int .u64 9, .int .u64 2, .int .u32 1, .slice (some ⟨b2, 0, none⟩) 2 2, .slice (some ⟨(b2 + 1), 0, none⟩) 2 2, .int .i64 8, .int .i64 99, .int .i64 2, .int .i64 9, .int .u64 2, .int .u32 1, .int .i64 8, .int .i64 99, .int .i64 4, .int .i64 2, .int .i64 3, .int .i64 50, .slice (some ⟨(b2 + 3), 0, none⟩) 1 1, .slice (some ⟨(b2 + 4), 0, none⟩) 1 1, .int .i64 1500, .bool true])]) (fun b2 => [(b2, .cells #[.bool false, .int .i64 5, .slice none 0 0, .bool false, .int .i64 5, .slice none 0 0] 84 (0, 0)), ((b2 + 1), .cells #[.bool true, .bool true] 4 (0, 0)), ((b2 + 2), .cells #[.int .u32 7, .int .u32 8] 49 (0, 0)), ((b2 + 3), .cells #[.int .i64 5, .int .i64 1000, .slice (some ⟨(b2 + 2), 0, none⟩) 2 2] 93 (0, 0)), ((b2 + 4), .cells #[.int .u32 0, .int .i64 0, .int .u32 0] 162 (0, 0))]) (fun b2 => ?_)
  refine WP.know (Row 1 (pl (encI .i64)) noK (SkL.nil (fun _ => ())) ([] : List Int)) [] [] (by kernel_rfl) (fun w _ => RowP.empty (fun _ => rfl)) ?_
  refine WP.ice (H' := [(b1, .cells #[.int .u64 9, .int .u64 2, .int .u32 1, slcV (SkL.at b2 2 (skF [(SkL.nil (fun _ => ())), (SkL.nil (fun _ => ()))] (SkL.nil (fun _ => ())))) ([(api_PortCfg.mk false 5 ([] : List Int)), (api_PortCfg.mk false 5 ([] : List Int))] : List api_PortCfg).length, .slice (some ⟨(b2 + 1), 0, none⟩) 2 2, .int .i64 8, .int .i64 99, .int .i64 2, .int .i64 9, .int .u64 2, .int .u32 1, .int .i64 8, .int .i64 99, .int .i64 4, .int .i64 2, .int .i64 3, .int .i64 50, .slice (some ⟨(b2 + 3), 0, none⟩) 1 1, .slice (some ⟨(b2 + 4), 0, none⟩) 1 1, .int .i64 1500, .bool true] 73 (0, 0)), ((b2 + 1), .cells #[.bool true, .bool true] 4 (0, 0)), ((b2 + 2), .cells #[.int .u32 7, .int .u32 8] 49 (0, 0)), ((b2 + 3), .cells #[.int .i64 5, .int .i64 1000, .slice (some ⟨(b2 + 2), 0, none⟩) 2 2] 93 (0, 0)), ((b2 + 4), .cells #[.int .u32 0, .int .i64 0, .int .u32 0] 162 (0, 0))]) (Row 3 api_PortCfg.encS api_PortCfg.inK (SkL.at b2 2 (skF [(SkL.nil (fun _ => ())), (SkL.nil (fun _ => ()))] (SkL.nil (fun _ => ())))) ([(api_PortCfg.mk false 5 ([] : List Int)), (api_PortCfg.mk false 5 ([] : List Int))] : List api_PortCfg)) 1 (b := b2) (ob := .cells #[.bool false, .int .i64 5, .slice none 0 0, .bool false, .int .i64 5, .slice none 0 0] 84 (0, 0)) (by kernel_rfl) [0, 0] [Row 1 (pl (encI .i64)) noK (SkL.nil (fun _ => ())) ([] : List Int), Row 1 (pl (encI .i64)) noK (SkL.nil (fun _ => ())) ([] : List Int)] (by kernel_rfl) (fun w hb hψ => row_of_block hb (fun _ _ => rfl) ⟨[], by kernel_rfl⟩ (Nat.le_of_ble_eq_true rfl) (And.intro (hψ _ (List.mem_of_getElem? (i := 0) rfl)) (And.intro (hψ _ (List.mem_of_getElem? (i := 1) rfl)) trivial))) (by kernel_rfl) ?_
  refine WP.ice (H' := [(b1, .cells #[.int .u64 9, .int .u64 2, .int .u32 1, slcV (SkL.at b2 2 (skF [(SkL.nil (fun _ => ())), (SkL.nil (fun _ => ()))] (SkL.nil (fun _ => ())))) ([(api_PortCfg.mk false 5 ([] : List Int)), (api_PortCfg.mk false 5 ([] : List Int))] : List api_PortCfg).length, slcV (SkL.at (b2 + 1) 2 (fun _ => ())) ([true, true] : List Bool).length, .int .i64 8, .int .i64 99, .int .i64 2, .int .i64 9, .int .u64 2, .int .u32 1, .int .i64 8, .int .i64 99, .int .i64 4, .int .i64 2, .int .i64 3, .int .i64 50, .slice (some ⟨(b2 + 3), 0, none⟩) 1 1, .slice (some ⟨(b2 + 4), 0, none⟩) 1 1, .int .i64 1500, .bool true] 73 (0, 0)), ((b2 + 2), .cells #[.int .u32 7, .int .u32 8] 49 (0, 0)), ((b2 + 3), .cells #[.int .i64 5, .int .i64 1000, .slice (some ⟨(b2 + 2), 0, none⟩) 2 2] 93 (0, 0)), ((b2 + 4), .cells #[.int .u32 0, .int .i64 0, .int .u32 0] 162 (0, 0))]) (Row 1 (pl encB) noK (SkL.at (b2 + 1) 2 (fun _ => ())) ([true, true] : List Bool)) 1 (b := (b2 + 1)) (ob := .cells #[.bool true, .bool true] 4 (0, 0)) (by kernel_rfl) [] [] (by kernel_rfl) (fun w hb hψ => row_of_block hb (fun _ _ => rfl) ⟨[], by kernel_rfl⟩ (Nat.le_of_ble_eq_true rfl) (InK.no _ _)) (by kernel_rfl) ?_
  refine WP.ice (H' := [(b1, .cells #[.int .u64 9, .int .u64 2, .int .u32 1, slcV (SkL.at b2 2 (skF [(SkL.nil (fun _ => ())), (SkL.nil (fun _ => ()))] (SkL.nil (fun _ => ())))) ([(api_PortCfg.mk false 5 ([] : List Int)), (api_PortCfg.mk false 5 ([] : List Int))] : List api_PortCfg).length, slcV (SkL.at (b2 + 1) 2 (fun _ => ())) ([true, true] : List Bool).length, .int .i64 8, .int .i64 99, .int .i64 2, .int .i64 9, .int .u64 2, .int .u32 1, .int .i64 8, .int .i64 99, .int .i64 4, .int .i64 2, .int .i64 3, .int .i64 50, .slice (some ⟨(b2 + 3), 0, none⟩) 1 1, .slice (some ⟨(b2 + 4), 0, none⟩) 1 1, .int .i64 1500, .bool true] 73 (0, 0)), ((b2 + 3), .cells #[.int .i64 5, .int .i64 1000, slcV (SkL.at (b2 + 2) 2 (fun _ => ())) ([7, 8] : List Int).length] 93 (0, 0)), ((b2 + 4), .cells #[.int .u32 0, .int .i64 0, .int .u32 0] 162 (0, 0))]) (Row 1 (pl (encI .u32)) noK (SkL.at (b2 + 2) 2 (fun _ => ())) ([7, 8] : List Int)) 1 (b := (b2 + 2)) (ob := .cells #[.int .u32 7, .int .u32 8] 49 (0, 0)) (by kernel_rfl) [] [] (by kernel_rfl) (fun w hb hψ => row_of_block hb (fun _ _ => rfl) ⟨[], by kernel_rfl⟩ (Nat.le_of_ble_eq_true rfl) (InK.no _ _)) (by kernel_rfl) ?_
  refine WP.ice (H' := [(b1, .cells #[.int .u64 9, .int .u64 2, .int .u32 1, slcV (SkL.at b2 2 (skF [(SkL.nil (fun _ => ())), (SkL.nil (fun _ => ()))] (SkL.nil (fun _ => ())))) ([(api_PortCfg.mk false 5 ([] : List Int)), (api_PortCfg.mk false 5 ([] : List Int))] : List api_PortCfg).length, slcV (SkL.at (b2 + 1) 2 (fun _ => ())) ([true, true] : List Bool).length, .int .i64 8, .int .i64 99, .int .i64 2, .int .i64 9, .int .u64 2, .int .u32 1, .int .i64 8, .int .i64 99, .int .i64 4, .int .i64 2, .int .i64 3, .int .i64 50, slcV (SkL.at (b2 + 3) 1 (skF [(SkL.at (b2 + 2) 2 (fun _ => ()))] (SkL.nil (fun _ => ())))) ([(api_Seg.mk 5 1000 ([7, 8] : List Int))] : List api_Seg).length, .slice (some ⟨(b2 + 4), 0, none⟩) 1 1, .int .i64 1500, .bool true] 73 (0, 0)), ((b2 + 4), .cells #[.int .u32 0, .int .i64 0, .int .u32 0] 162 (0, 0))]) (Row 3 api_Seg.encS api_Seg.inK (SkL.at (b2 + 3) 1 (skF [(SkL.at (b2 + 2) 2 (fun _ => ()))] (SkL.nil (fun _ => ())))) ([(api_Seg.mk 5 1000 ([7, 8] : List Int))] : List api_Seg)) 1 (b := (b2 + 3)) (ob := .cells #[.int .i64 5, .int .i64 1000, slcV (SkL.at (b2 + 2) 2 (fun _ => ())) ([7, 8] : List Int).length] 93 (0, 0)) (by kernel_rfl) [0] [Row 1 (pl (encI .u32)) noK (SkL.at (b2 + 2) 2 (fun _ => ())) ([7, 8] : List Int)] (by kernel_rfl) (fun w hb hψ => row_of_block hb (fun _ _ => rfl) ⟨[], by kernel_rfl⟩ (Nat.le_of_ble_eq_true rfl) (And.intro (hψ _ (List.mem_of_getElem? (i := 0) rfl)) trivial)) (by kernel_rfl) ?_
  refine WP.ice (H' := [(b1, .cells #[.int .u64 9, .int .u64 2, .int .u32 1, slcV (SkL.at b2 2 (skF [(SkL.nil (fun _ => ())), (SkL.nil (fun _ => ()))] (SkL.nil (fun _ => ())))) ([(api_PortCfg.mk false 5 ([] : List Int)), (api_PortCfg.mk false 5 ([] : List Int))] : List api_PortCfg).length, slcV (SkL.at (b2 + 1) 2 (fun _ => ())) ([true, true] : List Bool).length, .int .i64 8, .int .i64 99, .int .i64 2, .int .i64 9, .int .u64 2, .int .u32 1, .int .i64 8, .int .i64 99, .int .i64 4, .int .i64 2, .int .i64 3, .int .i64 50, slcV (SkL.at (b2 + 3) 1 (skF [(SkL.at (b2 + 2) 2 (fun _ => ()))] (SkL.nil (fun _ => ())))) ([(api_Seg.mk 5 1000 ([7, 8] : List Int))] : List api_Seg).length, slcV (SkL.at (b2 + 4) 1 (fun _ => ())) ([(api_Route.mk (api_Net.mk 0 0) 0)] : List api_Route).length, .int .i64 1500, .bool true] 73 (0, 0))]) (Row 3 (pl api_Route.enc) noK (SkL.at (b2 + 4) 1 (fun _ => ())) ([(api_Route.mk (api_Net.mk 0 0) 0)] : List api_Route)) 1 (b := (b2 + 4)) (ob := .cells #[.int .u32 0, .int .i64 0, .int .u32 0] 162 (0, 0)) (by kernel_rfl) [] [] (by kernel_rfl) (fun w hb hψ => row_of_block hb (fun _ _ => rfl) ⟨[], by kernel_rfl⟩ (Nat.le_of_ble_eq_true rfl) (InK.no _ _)) (by kernel_rfl) ?_
  obtain rfl := Option.some.inj hM
  exact WP.ret [0, 0, 0, 0, 0, 0, 0, 0, 0, 0, 0, 0, 0, 0, 0, 0, 0, 0, 0, 0, 0] [b1, b1, b1, b1, b1, b1, b1, b1, b1, b1, b1, b1, b1, b1, b1, b1, b1, b1, b1, b1, b1] (.agg #[.int .u64 9, .int .u64 2, .int .u32 1, slcV (SkL.at b2 2 (skF [(SkL.nil (fun _ => ())), (SkL.nil (fun _ => ()))] (SkL.nil (fun _ => ())))) ([(api_PortCfg.mk false 5 ([] : List Int)), (api_PortCfg.mk false 5 ([] : List Int))] : List api_PortCfg).length, slcV (SkL.at (b2 + 1) 2 (fun _ => ())) ([true, true] : List Bool).length, .int .i64 8, .int .i64 99, .int .i64 2, .int .i64 9, .int .u64 2, .int .u32 1, .int .i64 8, .int .i64 99, .int .i64 4, .int .i64 2, .int .i64 3, .int .i64 50, slcV (SkL.at (b2 + 3) 1 (skF [(SkL.at (b2 + 2) 2 (fun _ => ()))] (SkL.nil (fun _ => ())))) ([(api_Seg.mk 5 1000 ([7, 8] : List Int))] : List api_Seg).length, slcV (SkL.at (b2 + 4) 1 (fun _ => ())) ([(api_Route.mk (api_Net.mk 0 0) 0)] : List api_Route).length, .int .i64 1500, .bool true]) (by kernel_rfl) (fun w' hw => ⟨((SkL.at b2 2 (skF [(SkL.nil (fun _ => ())), (SkL.nil (fun _ => ()))] (SkL.nil (fun _ => ())))), (SkL.at (b2 + 1) 2 (fun _ => ())), (SkL.at (b2 + 3) 1 (skF [(SkL.at (b2 + 2) 2 (fun _ => ()))] (SkL.nil (fun _ => ())))), (SkL.at (b2 + 4) 1 (fun _ => ()))), rfl, (hw.pick [] (by kernel_rfl)).less (sub_ret [4, 3, 1, 0] [] (by kernel_rfl) (by kernel_rfl))⟩)

end Go.Proofs.YtbbekdmndifkpaaGreatDoor

namespace Go.Proofs.YtbbekdmndifkpaaGreatDoor
open Go Eng
set_option linter.unusedVariables false
set_option linter.unusedSimpArgs false

/-! ### gangway/gangwaylaw27.Pair: function 18 -/
def gangwaylaw27_Pair.f : Option ((List api_Gate)) :=
  (gangwaylaw24_Two.f).bind fun r1 =>
  (gangwaylaw24_Two.f).bind fun r4 =>
  some ([(api_Gate.mk r1.Bridge r1.Mac r1.Ip r1.Ports r1.Edges r1.Keep r1.Near r1.Heard ([(api_Seg.mk 5 1000 ([7] : List Int))] : List api_Seg) r1.Routes r1.Most r1.Answers), (api_Gate.mk 10 14 7 r4.Ports r4.Edges r4.Keep (api_Near.mk 14 7 r4.Near.Room r4.Near.Life r4.Near.Pend r4.Near.Tries r4.Near.Apart) r4.Heard ([(api_Seg.mk 5 1000 ([1] : List Int))] : List api_Seg) r4.Routes r4.Most r4.Answers)] : List api_Gate)

set_option maxRecDepth 100000 in
theorem gangwaylaw27_Pair_calls (r : (List api_Gate)) (h : gangwaylaw27_Pair.f = some r) : Does Tryz.prog 18 #[] [] ([] ++ Glob) (fun x : (SkL ((SkL (SkL Unit)) × (SkL Unit) × (SkL (SkL Unit)) × (SkL Unit))) => slcV x r.length) (fun x => []) (fun _ => []) (fun x => [Row 21 api_Gate.encS api_Gate.inK x r] ++ ([] ++ Glob)) := by
  intro w Z hS
  refine calls_of (args := []) (L := []) (N := 23) (S := Sat w Z [] [] ([] ++ Glob)) Tryz.func18 rfl rfl (Nat.le_of_ble_eq_true rfl) rfl hS ?_
  have hM := h
  clear h hS
  unfold gangwaylaw27_Pair.f at hM
  refine WP.seq ?_
  refine WP.rn [] [(0, .slice none 0 0)] ?_
  refine WP.seq ?_
  refine WP.region ?_
  obtain ⟨r1, h2, hM⟩ := bind_some hM
  refine WL.callX (F0 := []) [] [] [] (fun _ => _) [] (by kernel_rfl) (gangwaylaw24_Two_calls _ h2) rfl rfl (by kernel_rfl) (by kernel_rfl) (fun _ => rfl) (fun A3 => ?_)
  obtain ⟨r4, h5, hM⟩ := bind_some hM
  refine WL.callX (F0 := []) [] [] [] (fun _ => _) [] (by kernel_rfl) (gangwaylaw24_Two_calls _ h5) rfl rfl (by kernel_rfl) (by kernel_rfl) (fun _ => rfl) (fun A6 => ?_)
  refine WL.rh 4 [0, 0, 0, 0, 0, 0, 0, 0, 0, 0, 0, 0, 0, 0, 0, 0, 0, 0, 0, 0, 0, 1, 1, 1, 1, 1, 1, 1, 1, 1, 1, 1, 1, 1, 1, 1, 1, 1, 1, 1, 1, 1] (fun b7 => [(1, .pointer (some ⟨b7, 0, none⟩)), (2, .pointer (some ⟨(b7 + 1), 0, none⟩))]) (fun b7 => []) (fun b7 => [(b7, .cells #[.int .u64 r1.Bridge, .int .u64 r1.Mac, .int .u32 r1.Ip, slcV A3.1 r1.Ports.length, slcV A3.2.1 r1.Edges.length, .int .i64 r1.Keep.Room, .int .i64 r1.Keep.Life, .int .i64 r1.Keep.Moves, .int .i64 r1.Keep.Window, .int .u64 r1.Near.Mac, .int .u32 r1.Near.Ip, .int .i64 r1.Near.Room, .int .i64 r1.Near.Life, .int .i64 r1.Near.Pend, .int .i64 r1.Near.Tries, .int .i64 r1.Near.Apart, .int .i64 r1.Heard, slcV A3.2.2.1 r1.Segs.length, slcV A3.2.2.2 r1.Routes.length, .int .i64 r1.Most, .bool r1.Answers] 73 (0, 0)), ((b7 + 1), .cells #[.int .u64 r4.Bridge, .int .u64 r4.Mac, .int .u32 r4.Ip, slcV A6.1 r4.Ports.length, slcV A6.2.1 r4.Edges.length, .int .i64 r4.Keep.Room, .int .i64 r4.Keep.Life, .int .i64 r4.Keep.Moves, .int .i64 r4.Keep.Window, .int .u64 r4.Near.Mac, .int .u32 r4.Near.Ip, .int .i64 r4.Near.Room, .int .i64 r4.Near.Life, .int .i64 r4.Near.Pend, .int .i64 r4.Near.Tries, .int .i64 r4.Near.Apart, .int .i64 r4.Heard, slcV A6.2.2.1 r4.Segs.length, slcV A6.2.2.2 r4.Routes.length, .int .i64 r4.Most, .bool r4.Answers] 73 (0, 0))]) (fun b7 => ?_)
  refine WP.done ?_
  refine WP.seq ?_
  refine WP.rh [0] (fun b8 => []) (fun b8 => [(0, 17, [.slice (some ⟨(b8 + 1), 0, none⟩) 1 1])]) (fun b8 => [(b8, .cells #[.int .u32 7] 49 (0, 0)), ((b8 + 1), .cells #[.int .i64 5, .int .i64 1000, .slice (some ⟨b8, 0, none⟩) 1 1] 93 (0, 0))]) (fun b8 => ?_)
  refine WP.seq ?_
  refine WP.rh [1] (fun b9 => []) (fun b9 => [(1, 17, [.slice (some ⟨(b9 + 1), 0, none⟩) 1 1])]) (fun b9 => [(b9, .cells #[.int .u32 1] 49 (0, 0)), ((b9 + 1), .cells #[.int .i64 5, .int .i64 1000, .slice (some ⟨b9, 0, none⟩) 1 1] 93 (0, 0))]) (fun b9 => ?_)
  refine WP.seq ?_
  refine WP.rh [1] (fun _ => []) (fun _ => [(1, 0, [.int .u64 10])]) (fun _ => []) (fun _ => ?_)
  refine WP.seq ?_
  refine WP.rh [1] (fun _ => []) (fun _ => [(1, 1, [.int .u64 14])]) (fun _ => []) (fun _ => ?_)
  refine WP.seq ?_
  refine WP.rh [1] (fun _ => []) (fun _ => [(1, 9, [.int .u64 14])]) (fun _ => []) (fun _ => ?_)
  refine WP.seq ?_
  refine WP.rh [1] (fun _ => []) (fun _ => [(1, 2, [.int .u32 7])]) (fun _ => []) (fun _ => ?_)
  refine WP.seq ?_
  refine WP.rh [1] (fun _ => []) (fun _ => [(1, 10, [.int .u32 7])]) (fun _ => []) (fun _ => ?_)
  refine WP.seq ?_
  refine WP.rh [0, 0, 0, 0, 0, 0, 0, 0, 0, 0, 0, 0, 0, 0, 0, 0, 0, 0, 0, 0, 0, 1, 1, 1, 1, 1, 1, 1, 1, 1, 1, 1, 1, 1, 1, 1, 1, 1, 1, 1, 1, 1] (fun b10 => [(0, .slice (some ⟨b10, 0, none⟩) 2 2)]) (fun b10 => []) (fun b10 => [(b10, .cells #[.int .u64 r1.Bridge, .int .u64 r1.Mac, .int .u32 r1.Ip, slcV A3.1 r1.Ports.length, slcV A3.2.1 r1.Edges.length, .int .i64 r1.Keep.Room, .int .i64 r1.Keep.Life, .int .i64 r1.Keep.Moves, .int .i64 r1.Keep.Window, .int .u64 r1.Near.Mac, .int .u32 r1.Near.Ip, .int .i64 r1.Near.Room, .int .i64 r1.Near.Life, .int .i64 r1.Near.Pend, .int .i64 r1.Near.Tries, .int .i64 r1.Near.Apart, .int .i64 r1.Heard, .slice (some ⟨(b8 + 1), 0, none⟩) 1 1, slcV A3.2.2.2 r1.Routes.length, .int .i64 r1.Most, .bool r1.Answers, .int .u64 10, .int .u64 14, .int .u32 7, slcV A6.1 r4.Ports.length, slcV A6.2.1 r4.Edges.length, .int .i64 r4.Keep.Room, .int .i64 r4.Keep.Life, .int .i64 r4.Keep.Moves, .int .i64 r4.Keep.Window, .int .u64 14, .int .u32 7, .int .i64 r4.Near.Room, .int .i64 r4.Near.Life, .int .i64 r4.Near.Pend, .int .i64 r4.Near.Tries, .int .i64 r4.Near.Apart, .int .i64 r4.Heard, .slice (some ⟨(b9 + 1), 0, none⟩) 1 1, slcV A6.2.2.2 r4.Routes.length, .int .i64 r4.Most, .bool r4.Answers] 73 (0, 0))]) (fun b10 => ?_)
  refine WP.kp [false, false, true, true, true, true, true] ?_
  refine WP.ice (H' := [((b8 + 1), .cells #[.int .i64 5, .int .i64 1000, slcV (SkL.at b8 1 (fun _ => ())) ([7] : List Int).length] 93 (0, 0)), (b9, .cells #[.int .u32 1] 49 (0, 0)), ((b9 + 1), .cells #[.int .i64 5, .int .i64 1000, .slice (some ⟨b9, 0, none⟩) 1 1] 93 (0, 0)), (b10, .cells #[.int .u64 r1.Bridge, .int .u64 r1.Mac, .int .u32 r1.Ip, slcV A3.1 r1.Ports.length, slcV A3.2.1 r1.Edges.length, .int .i64 r1.Keep.Room, .int .i64 r1.Keep.Life, .int .i64 r1.Keep.Moves, .int .i64 r1.Keep.Window, .int .u64 r1.Near.Mac, .int .u32 r1.Near.Ip, .int .i64 r1.Near.Room, .int .i64 r1.Near.Life, .int .i64 r1.Near.Pend, .int .i64 r1.Near.Tries, .int .i64 r1.Near.Apart, .int .i64 r1.Heard, .slice (some ⟨(b8 + 1), 0, none⟩) 1 1, slcV A3.2.2.2 r1.Routes.length, .int .i64 r1.Most, .bool r1.Answers, .int .u64 10, .int .u64 14, .int .u32 7, slcV A6.1 r4.Ports.length, slcV A6.2.1 r4.Edges.length, .int .i64 r4.Keep.Room, .int .i64 r4.Keep.Life, .int .i64 r4.Keep.Moves, .int .i64 r4.Keep.Window, .int .u64 14, .int .u32 7, .int .i64 r4.Near.Room, .int .i64 r4.Near.Life, .int .i64 r4.Near.Pend, .int .i64 r4.Near.Tries, .int .i64 r4.Near.Apart, .int .i64 r4.Heard, .slice (some ⟨(b9 + 1), 0, none⟩) 1 1, slcV A6.2.2.2 r4.Routes.length, .int .i64 r4.Most, .bool r4.Answers] 73 (0, 0))]) (Row 1 (pl (encI .u32)) noK (SkL.at b8 1 (fun _ => ())) ([7] : List Int)) 0 (b := b8) (ob := .cells #[.int .u32 7] 49 (0, 0)) (by kernel_rfl) [] [] (by kernel_rfl) (fun w hb hψ => row_of_block hb (fun _ _ => rfl) ⟨[], by kernel_rfl⟩ (Nat.le_of_ble_eq_true rfl) (InK.no _ _)) (by kernel_rfl) ?_
  refine WP.ice (H' := [(b9, .cells #[.int .u32 1] 49 (0, 0)), ((b9 + 1), .cells #[.int .i64 5, .int .i64 1000, .slice (some ⟨b9, 0, none⟩) 1 1] 93 (0, 0)), (b10, .cells #[.int .u64 r1.Bridge, .int .u64 r1.Mac, .int .u32 r1.Ip, slcV A3.1 r1.Ports.length, slcV A3.2.1 r1.Edges.length, .int .i64 r1.Keep.Room, .int .i64 r1.Keep.Life, .int .i64 r1.Keep.Moves, .int .i64 r1.Keep.Window, .int .u64 r1.Near.Mac, .int .u32 r1.Near.Ip, .int .i64 r1.Near.Room, .int .i64 r1.Near.Life, .int .i64 r1.Near.Pend, .int .i64 r1.Near.Tries, .int .i64 r1.Near.Apart, .int .i64 r1.Heard, slcV (SkL.at (b8 + 1) 1 (skF [(SkL.at b8 1 (fun _ => ()))] (SkL.nil (fun _ => ())))) ([(api_Seg.mk 5 1000 ([7] : List Int))] : List api_Seg).length, slcV A3.2.2.2 r1.Routes.length, .int .i64 r1.Most, .bool r1.Answers, .int .u64 10, .int .u64 14, .int .u32 7, slcV A6.1 r4.Ports.length, slcV A6.2.1 r4.Edges.length, .int .i64 r4.Keep.Room, .int .i64 r4.Keep.Life, .int .i64 r4.Keep.Moves, .int .i64 r4.Keep.Window, .int .u64 14, .int .u32 7, .int .i64 r4.Near.Room, .int .i64 r4.Near.Life, .int .i64 r4.Near.Pend, .int .i64 r4.Near.Tries, .int .i64 r4.Near.Apart, .int .i64 r4.Heard, .slice (some ⟨(b9 + 1), 0, none⟩) 1 1, slcV A6.2.2.2 r4.Routes.length, .int .i64 r4.Most, .bool r4.Answers] 73 (0, 0))]) (Row 3 api_Seg.encS api_Seg.inK (SkL.at (b8 + 1) 1 (skF [(SkL.at b8 1 (fun _ => ()))] (SkL.nil (fun _ => ())))) ([(api_Seg.mk 5 1000 ([7] : List Int))] : List api_Seg)) 0 (b := (b8 + 1)) (ob := .cells #[.int .i64 5, .int .i64 1000, slcV (SkL.at b8 1 (fun _ => ())) ([7] : List Int).length] 93 (0, 0)) (by kernel_rfl) [0] [Row 1 (pl (encI .u32)) noK (SkL.at b8 1 (fun _ => ())) ([7] : List Int)] (by kernel_rfl) (fun w hb hψ => row_of_block hb (fun _ _ => rfl) ⟨[], by kernel_rfl⟩ (Nat.le_of_ble_eq_true rfl) (And.intro (hψ _ (List.mem_of_getElem? (i := 0) rfl)) trivial)) (by kernel_rfl) ?_
  refine WP.ice (H' := [((b9 + 1), .cells #[.int .i64 5, .int .i64 1000, slcV (SkL.at b9 1 (fun _ => ())) ([1] : List Int).length] 93 (0, 0)), (b10, .cells #[.int .u64 r1.Bridge, .int .u64 r1.Mac, .int .u32 r1.Ip, slcV A3.1 r1.Ports.length, slcV A3.2.1 r1.Edges.length, .int .i64 r1.Keep.Room, .int .i64 r1.Keep.Life, .int .i64 r1.Keep.Moves, .int .i64 r1.Keep.Window, .int .u64 r1.Near.Mac, .int .u32 r1.Near.Ip, .int .i64 r1.Near.Room, .int .i64 r1.Near.Life, .int .i64 r1.Near.Pend, .int .i64 r1.Near.Tries, .int .i64 r1.Near.Apart, .int .i64 r1.Heard, slcV (SkL.at (b8 + 1) 1 (skF [(SkL.at b8 1 (fun _ => ()))] (SkL.nil (fun _ => ())))) ([(api_Seg.mk 5 1000 ([7] : List Int))] : List api_Seg).length, slcV A3.2.2.2 r1.Routes.length, .int .i64 r1.Most, .bool r1.Answers, .int .u64 10, .int .u64 14, .int .u32 7, slcV A6.1 r4.Ports.length, slcV A6.2.1 r4.Edges.length, .int .i64 r4.Keep.Room, .int .i64 r4.Keep.Life, .int .i64 r4.Keep.Moves, .int .i64 r4.Keep.Window, .int .u64 14, .int .u32 7, .int .i64 r4.Near.Room, .int .i64 r4.Near.Life, .int .i64 r4.Near.Pend, .int .i64 r4.Near.Tries, .int .i64 r4.Near.Apart, .int .i64 r4.Heard, .slice (some ⟨(b9 + 1), 0, none⟩) 1 1, slcV A6.2.2.2 r4.Routes.length, .int .i64 r4.Most, .bool r4.Answers] 73 (0, 0))]) (Row 1 (pl (encI .u32)) noK (SkL.at b9 1 (fun _ => ())) ([1] : List Int)) 0 (b := b9) (ob := .cells #[.int .u32 1] 49 (0, 0)) (by kernel_rfl) [] [] (by kernel_rfl) (fun w hb hψ => row_of_block hb (fun _ _ => rfl) ⟨[], by kernel_rfl⟩ (Nat.le_of_ble_eq_true rfl) (InK.no _ _)) (by kernel_rfl) ?_
  refine WP.ice (H' := [(b10, .cells #[.int .u64 r1.Bridge, .int .u64 r1.Mac, .int .u32 r1.Ip, slcV A3.1 r1.Ports.length, slcV A3.2.1 r1.Edges.length, .int .i64 r1.Keep.Room, .int .i64 r1.Keep.Life, .int .i64 r1.Keep.Moves, .int .i64 r1.Keep.Window, .int .u64 r1.Near.Mac, .int .u32 r1.Near.Ip, .int .i64 r1.Near.Room, .int .i64 r1.Near.Life, .int .i64 r1.Near.Pend, .int .i64 r1.Near.Tries, .int .i64 r1.Near.Apart, .int .i64 r1.Heard, slcV (SkL.at (b8 + 1) 1 (skF [(SkL.at b8 1 (fun _ => ()))] (SkL.nil (fun _ => ())))) ([(api_Seg.mk 5 1000 ([7] : List Int))] : List api_Seg).length, slcV A3.2.2.2 r1.Routes.length, .int .i64 r1.Most, .bool r1.Answers, .int .u64 10, .int .u64 14, .int .u32 7, slcV A6.1 r4.Ports.length, slcV A6.2.1 r4.Edges.length, .int .i64 r4.Keep.Room, .int .i64 r4.Keep.Life, .int .i64 r4.Keep.Moves, .int .i64 r4.Keep.Window, .int .u64 14, .int .u32 7, .int .i64 r4.Near.Room, .int .i64 r4.Near.Life, .int .i64 r4.Near.Pend, .int .i64 r4.Near.Tries, .int .i64 r4.Near.Apart, .int .i64 r4.Heard, slcV (SkL.at (b9 + 1) 1 (skF [(SkL.at b9 1 (fun _ => ()))] (SkL.nil (fun _ => ())))) ([(api_Seg.mk 5 1000 ([1] : List Int))] : List api_Seg).length, slcV A6.2.2.2 r4.Routes.length, .int .i64 r4.Most, .bool r4.Answers] 73 (0, 0))]) (Row 3 api_Seg.encS api_Seg.inK (SkL.at (b9 + 1) 1 (skF [(SkL.at b9 1 (fun _ => ()))] (SkL.nil (fun _ => ())))) ([(api_Seg.mk 5 1000 ([1] : List Int))] : List api_Seg)) 0 (b := (b9 + 1)) (ob := .cells #[.int .i64 5, .int .i64 1000, slcV (SkL.at b9 1 (fun _ => ())) ([1] : List Int).length] 93 (0, 0)) (by kernel_rfl) [0] [Row 1 (pl (encI .u32)) noK (SkL.at b9 1 (fun _ => ())) ([1] : List Int)] (by kernel_rfl) (fun w hb hψ => row_of_block hb (fun _ _ => rfl) ⟨[], by kernel_rfl⟩ (Nat.le_of_ble_eq_true rfl) (And.intro (hψ _ (List.mem_of_getElem? (i := 0) rfl)) trivial)) (by kernel_rfl) ?_
  refine WP.ice (H' := []) (Row 21 api_Gate.encS api_Gate.inK (SkL.at b10 2 (skF [(A3.1, A3.2.1, (SkL.at (b8 + 1) 1 (skF [(SkL.at b8 1 (fun _ => ()))] (SkL.nil (fun _ => ())))), A3.2.2.2), (A6.1, A6.2.1, (SkL.at (b9 + 1) 1 (skF [(SkL.at b9 1 (fun _ => ()))] (SkL.nil (fun _ => ())))), A6.2.2.2)] ((SkL.nil (fun _ => (SkL.nil (fun _ => ())))), (SkL.nil (fun _ => ())), (SkL.nil (fun _ => (SkL.nil (fun _ => ())))), (SkL.nil (fun _ => ()))))) ([(api_Gate.mk r1.Bridge r1.Mac r1.Ip r1.Ports r1.Edges r1.Keep r1.Near r1.Heard ([(api_Seg.mk 5 1000 ([7] : List Int))] : List api_Seg) r1.Routes r1.Most r1.Answers), (api_Gate.mk 10 14 7 r4.Ports r4.Edges r4.Keep (api_Near.mk 14 7 r4.Near.Room r4.Near.Life r4.Near.Pend r4.Near.Tries r4.Near.Apart) r4.Heard ([(api_Seg.mk 5 1000 ([1] : List Int))] : List api_Seg) r4.Routes r4.Most r4.Answers)] : List api_Gate)) 0 (b := b10) (ob := .cells #[.int .u64 r1.Bridge, .int .u64 r1.Mac, .int .u32 r1.Ip, slcV A3.1 r1.Ports.length, slcV A3.2.1 r1.Edges.length, .int .i64 r1.Keep.Room, .int .i64 r1.Keep.Life, .int .i64 r1.Keep.Moves, .int .i64 r1.Keep.Window, .int .u64 r1.Near.Mac, .int .u32 r1.Near.Ip, .int .i64 r1.Near.Room, .int .i64 r1.Near.Life, .int .i64 r1.Near.Pend, .int .i64 r1.Near.Tries, .int .i64 r1.Near.Apart, .int .i64 r1.Heard, slcV (SkL.at (b8 + 1) 1 (skF [(SkL.at b8 1 (fun _ => ()))] (SkL.nil (fun _ => ())))) ([(api_Seg.mk 5 1000 ([7] : List Int))] : List api_Seg).length, slcV A3.2.2.2 r1.Routes.length, .int .i64 r1.Most, .bool r1.Answers, .int .u64 10, .int .u64 14, .int .u32 7, slcV A6.1 r4.Ports.length, slcV A6.2.1 r4.Edges.length, .int .i64 r4.Keep.Room, .int .i64 r4.Keep.Life, .int .i64 r4.Keep.Moves, .int .i64 r4.Keep.Window, .int .u64 14, .int .u32 7, .int .i64 r4.Near.Room, .int .i64 r4.Near.Life, .int .i64 r4.Near.Pend, .int .i64 r4.Near.Tries, .int .i64 r4.Near.Apart, .int .i64 r4.Heard, slcV (SkL.at (b9 + 1) 1 (skF [(SkL.at b9 1 (fun _ => ()))] (SkL.nil (fun _ => ())))) ([(api_Seg.mk 5 1000 ([1] : List Int))] : List api_Seg).length, slcV A6.2.2.2 r4.Routes.length, .int .i64 r4.Most, .bool r4.Answers] 73 (0, 0)) (by kernel_rfl) [8, 9, 2, 11, 4, 5, 0, 7] [Row 3 api_PortCfg.encS api_PortCfg.inK A3.1 r1.Ports, Row 1 (pl encB) noK A3.2.1 r1.Edges, Row 3 api_Seg.encS api_Seg.inK (SkL.at (b8 + 1) 1 (skF [(SkL.at b8 1 (fun _ => ()))] (SkL.nil (fun _ => ())))) ([(api_Seg.mk 5 1000 ([7] : List Int))] : List api_Seg), Row 3 (pl api_Route.enc) noK A3.2.2.2 r1.Routes, Row 3 api_PortCfg.encS api_PortCfg.inK A6.1 r4.Ports, Row 1 (pl encB) noK A6.2.1 r4.Edges, Row 3 api_Seg.encS api_Seg.inK (SkL.at (b9 + 1) 1 (skF [(SkL.at b9 1 (fun _ => ()))] (SkL.nil (fun _ => ())))) ([(api_Seg.mk 5 1000 ([1] : List Int))] : List api_Seg), Row 3 (pl api_Route.enc) noK A6.2.2.2 r4.Routes] (by kernel_rfl) (fun w hb hψ => row_of_block hb (fun _ _ => rfl) ⟨[], by kernel_rfl⟩ (Nat.le_of_ble_eq_true rfl) (And.intro (And.intro (hψ _ (List.mem_of_getElem? (i := 0) rfl)) (And.intro (hψ _ (List.mem_of_getElem? (i := 1) rfl)) (And.intro (hψ _ (List.mem_of_getElem? (i := 2) rfl)) (hψ _ (List.mem_of_getElem? (i := 3) rfl))))) (And.intro (And.intro (hψ _ (List.mem_of_getElem? (i := 4) rfl)) (And.intro (hψ _ (List.mem_of_getElem? (i := 5) rfl)) (And.intro (hψ _ (List.mem_of_getElem? (i := 6) rfl)) (hψ _ (List.mem_of_getElem? (i := 7) rfl))))) trivial))) (by kernel_rfl) ?_
  obtain rfl := Option.some.inj hM
  exact WP.ret [] [] (slcV (SkL.at b10 2 (skF [(A3.1, A3.2.1, (SkL.at (b8 + 1) 1 (skF [(SkL.at b8 1 (fun _ => ()))] (SkL.nil (fun _ => ())))), A3.2.2.2), (A6.1, A6.2.1, (SkL.at (b9 + 1) 1 (skF [(SkL.at b9 1 (fun _ => ()))] (SkL.nil (fun _ => ())))), A6.2.2.2)] ((SkL.nil (fun _ => (SkL.nil (fun _ => ())))), (SkL.nil (fun _ => ())), (SkL.nil (fun _ => (SkL.nil (fun _ => ())))), (SkL.nil (fun _ => ()))))) ([(api_Gate.mk r1.Bridge r1.Mac r1.Ip r1.Ports r1.Edges r1.Keep r1.Near r1.Heard ([(api_Seg.mk 5 1000 ([7] : List Int))] : List api_Seg) r1.Routes r1.Most r1.Answers), (api_Gate.mk 10 14 7 r4.Ports r4.Edges r4.Keep (api_Near.mk 14 7 r4.Near.Room r4.Near.Life r4.Near.Pend r4.Near.Tries r4.Near.Apart) r4.Heard ([(api_Seg.mk 5 1000 ([1] : List Int))] : List api_Seg) r4.Routes r4.Most r4.Answers)] : List api_Gate).length) (by kernel_rfl) (fun w' hw => ⟨(SkL.at b10 2 (skF [(A3.1, A3.2.1, (SkL.at (b8 + 1) 1 (skF [(SkL.at b8 1 (fun _ => ()))] (SkL.nil (fun _ => ())))), A3.2.2.2), (A6.1, A6.2.1, (SkL.at (b9 + 1) 1 (skF [(SkL.at b9 1 (fun _ => ()))] (SkL.nil (fun _ => ())))), A6.2.2.2)] ((SkL.nil (fun _ => (SkL.nil (fun _ => ())))), (SkL.nil (fun _ => ())), (SkL.nil (fun _ => (SkL.nil (fun _ => ())))), (SkL.nil (fun _ => ()))))), rfl, (hw.pick [] (by kernel_rfl)).less (sub_ret [0] [] (by kernel_rfl) (by kernel_rfl))⟩)

end Go.Proofs.YtbbekdmndifkpaaGreatDoor

namespace Go.Proofs.YtbbekdmndifkpaaGreatDoor
open Go Eng
set_option linter.unusedVariables false
set_option linter.unusedSimpArgs false

/-! ### gangway/ether.tag: function 121 -/
def ether_tag.f (a0 : api_Tag) : Option (Bool) :=
  bif !a0.Has then
    some ((a0.Has == false) && ((a0.Pri == 0) && ((a0.Dei == false) && ((a0.Vid == 0) && true))))
  else
    some ((((decide (a0.Pri ≥ 0)) && (decide (a0.Pri < 8))) && (decide (a0.Vid ≥ 0))) && (decide (a0.Vid < 4096)))

set_option maxRecDepth 100000 in
theorem ether_tag_calls (a0 : api_Tag) (r : Bool) (h : ether_tag.f a0 = some r) : Pure Tryz.prog Glob 121 #[api_Tag.v a0] (.bool r) := by
  intro w Z hS
  refine calls_of (args := [api_Tag.v a0]) (L := [(0, api_Tag.v a0)]) (N := 27) (S := Sat w Z [] [] Glob) Tryz.func121 rfl rfl (Nat.le_of_ble_eq_true rfl) rfl hS ?_
  have hM := h
  clear h hS
  unfold ether_tag.f at hM
  refine WP.seq ?_
  refine WP.rh [] (fun b1 => [(1, .pointer (some ⟨b1, 0, none⟩)), (2, .bool false)]) (fun b1 => []) (fun b1 => [(b1, api_Tag.o a0)]) (fun b1 => ?_)
  refine WP.seq ?_
  refine WP.seq ?_
  refine WP.rn [0] [(5, .bool (!a0.Has))] ?_
  refine WP.cond (!a0.Has) rfl rfl (fun c2 => ?_) (fun c2 => ?_)
  · replace hM := cond_t hM c2
    refine WP.seq ?_
    refine WP.region ?_
    refine WL.rn 2 [0, 0, 0, 0] [(6, api_Tag.v a0), (7, .agg #[.bool false, .int .i64 0, .bool false, .int .i64 0])] ?_
    refine WL.val (fun _ => run_structEq (xs := #[.bool a0.Has, .int .i64 a0.Pri, .bool a0.Dei, .int .i64 a0.Vid]) (ys := #[.bool false, .int .i64 0, .bool false, .int .i64 0]) (b := ((a0.Has == false) && ((a0.Pri == 0) && ((a0.Dei == false) && ((a0.Vid == 0) && true))))) (by kernel_rfl) (by kernel_rfl) (by kernel_rfl) (by kernel_rfl)) (by kernel_rfl) (by kernel_rfl) rfl ?_
    refine WL.rn 1 [] [(2, .bool ((a0.Has == false) && ((a0.Pri == 0) && ((a0.Dei == false) && ((a0.Vid == 0) && true)))))] ?_
    refine WP.done ?_
    obtain rfl := Option.some.inj hM
    exact WP.ret [] [] (.bool ((a0.Has == false) && ((a0.Pri == 0) && ((a0.Dei == false) && ((a0.Vid == 0) && true))))) (by kernel_rfl) (fun w' hw => ⟨rfl, hw.pick [] rfl⟩)
  · replace hM := cond_f hM c2
    refine WP.skip ?_
    refine WP.seq ?_
    refine WP.region ?_
    refine WL.rn 4 [0] [(12, .bool (decide (a0.Pri ≥ 0)))] ?_
    refine WL.bo 12 (decide (a0.Pri ≥ 0)) 4 [0] [] (fun b' => [(16, .bool (b' && (decide (a0.Pri < 8))))]) ?_
    refine WL.rn 1 [] [(17, .bool ((decide (a0.Pri ≥ 0)) && (decide (a0.Pri < 8))))] ?_
    refine WL.bo 17 ((decide (a0.Pri ≥ 0)) && (decide (a0.Pri < 8))) 4 [0] [] (fun b' => [(21, .bool (b' && (decide (a0.Vid ≥ 0))))]) ?_
    refine WL.rn 1 [] [(22, .bool (((decide (a0.Pri ≥ 0)) && (decide (a0.Pri < 8))) && (decide (a0.Vid ≥ 0))))] ?_
    refine WL.bo 22 (((decide (a0.Pri ≥ 0)) && (decide (a0.Pri < 8))) && (decide (a0.Vid ≥ 0))) 4 [0] [] (fun b' => [(26, .bool (b' && (decide (a0.Vid < 4096))))]) ?_
    refine WL.rn 1 [] [(2, .bool ((((decide (a0.Pri ≥ 0)) && (decide (a0.Pri < 8))) && (decide (a0.Vid ≥ 0))) && (decide (a0.Vid < 4096))))] ?_
    refine WP.done ?_
    refine WP.kp [false] ?_
    obtain rfl := Option.some.inj hM
    exact WP.ret [] [] (.bool ((((decide (a0.Pri ≥ 0)) && (decide (a0.Pri < 8))) && (decide (a0.Vid ≥ 0))) && (decide (a0.Vid < 4096)))) (by kernel_rfl) (fun w' hw => ⟨rfl, hw.pick [] rfl⟩)

end Go.Proofs.YtbbekdmndifkpaaGreatDoor

namespace Go.Proofs.YtbbekdmndifkpaaGreatDoor
open Go Eng
set_option linter.unusedVariables false
set_option linter.unusedSimpArgs false

/-! ### gangway/ether.size: function 122 -/
def ether_size.k1 (x3 : Int) : Option (Int) :=
  some x3

def ether_size.f (a0 : api_Frame) : Option (Int) :=
  bif a0.Tag.Has then
    ether_size.k1 (i64 ((i64 (14 + (a0.Body.size : Int))) + 4))
  else
    ether_size.k1 (i64 (14 + (a0.Body.size : Int)))

set_option maxRecDepth 100000 in
theorem ether_size_calls (a0 : api_Frame) (r : Int) (h : ether_size.f a0 = some r) : Pure Tryz.prog Glob 122 #[api_Frame.v a0] (.int .i64 r) := by
  intro w Z hS
  refine calls_of (args := [api_Frame.v a0]) (L := [(0, api_Frame.v a0)]) (N := 14) (S := Sat w Z [] [] Glob) Tryz.func122 rfl rfl (Nat.le_of_ble_eq_true rfl) rfl hS ?_
  have hM := h
  clear h hS
  unfold ether_size.f at hM
  refine WP.seq ?_
  refine WP.rh [] (fun b1 => [(1, .pointer (some ⟨b1, 0, none⟩)), (2, .int .i64 0)]) (fun b1 => []) (fun b1 => [(b1, api_Frame.o a0)]) (fun b1 => ?_)
  refine WP.seq ?_
  refine WP.rn [0] [(3, .int .i64 (i64 (14 + (a0.Body.size : Int))))] ?_
  refine WP.seqJoin (σ := Int) (fun st => ether_size.k1 st = some r) (fun st => [(2, .int .i64 0), (3, .int .i64 st)]) (fun st => Sat w Z [] [] Glob) (fun st hM => ?_) (fun K1 => ?_)
  ·
    obtain ⟨x3, rfl⟩ : ∃ y, y = st := ⟨st, rfl⟩
    replace hM : ether_size.k1 x3 = some r := hM
    unfold ether_size.k1 at hM
    show WP _ _ _ _ _ [(2, .int .i64 0), (3, .int .i64 x3)] (Sat w Z [] [] Glob)
    refine WP.seq ?_
    refine WP.rn [] [(2, .int .i64 x3)] ?_
    obtain rfl := Option.some.inj hM
    exact WP.ret [] [] (.int .i64 x3) (by kernel_rfl) (fun w' hw => ⟨rfl, hw.pick [] rfl⟩)
  ·
    refine WP.seq ?_
    refine WP.rn [0] [(10, .bool a0.Tag.Has)] ?_
    refine WP.kp [false] ?_
    refine WP.cond a0.Tag.Has rfl rfl (fun c2 => ?_) (fun c2 => ?_)
    · replace hM := cond_t hM c2
      refine WP.rn [] [(3, .int .i64 (i64 ((i64 (14 + (a0.Body.size : Int))) + 4)))] ?_
      exact WP.sub [2, 3] (by kernel_rfl) (WP.pick [] (by kernel_rfl) (by kernel_rfl) (K1 (i64 ((i64 (14 + (a0.Body.size : Int))) + 4)) hM))
    · replace hM := cond_f hM c2
      refine WP.skip ?_
      exact WP.sub [2, 3] (by kernel_rfl) (WP.pick [] (by kernel_rfl) (by kernel_rfl) (K1 (i64 (14 + (a0.Body.size : Int))) hM))

end Go.Proofs.YtbbekdmndifkpaaGreatDoor

namespace Go.Proofs.YtbbekdmndifkpaaGreatDoor
open Go Eng
set_option linter.unusedVariables false
set_option linter.unusedSimpArgs false

/-! ### gangway/ether.Check: function 73 -/
def ether_Check.k1 (a0 : api_Frame) (x7 : Bool) : Option (Int) :=
  bif x7 then
    some 41
  else
    bif ((a0.Type_ == 0) && (decide ((a0.Body.size : Int) > 1500))) then
      some 40
    else
      (ether_size.f a0).bind fun r10 =>
      bif decide (r10 > 1600) then
        some 41
      else
        some 0

def ether_Check.k2 (a0 : api_Frame) (x5 : Bool) : Option (Int) :=
  bif x5 then
    ether_Check.k1 a0 true
  else
    ether_Check.k1 a0 ((a0.Type_ != 0) && (!(((decide (a0.Type_ ≥ 1536)) && (decide (a0.Type_ ≤ 65535))) && (a0.Type_ != 33024))))

def ether_Check.f (a0 : api_Frame) : Option (Int) :=
  bif ((decide (a0.Dst ≥ 281474976710656)) || (decide (a0.Src ≥ 281474976710656))) then
    ether_Check.k2 a0 true
  else
    (ether_tag.f a0.Tag).bind fun r3 =>
    ether_Check.k2 a0 (!r3)

set_option maxRecDepth 100000 in
theorem ether_Check_calls (a0 : api_Frame) (r : Int) (h : ether_Check.f a0 = some r) : Pure Tryz.prog Glob 73 #[api_Frame.v a0] (.int .i64 r) := by
  intro w Z hS
  refine calls_of (args := [api_Frame.v a0]) (L := [(0, api_Frame.v a0)]) (N := 55) (S := Sat w Z [] [] Glob) Tryz.func73 rfl rfl (Nat.le_of_ble_eq_true rfl) rfl hS ?_
  have hM := h
  clear h hS
  unfold ether_Check.f at hM
  refine WP.seq ?_
  refine WP.rh [] (fun b1 => [(1, .pointer (some ⟨b1, 0, none⟩)), (2, .int .i64 0)]) (fun b1 => []) (fun b1 => [(b1, api_Frame.o a0)]) (fun b1 => ?_)
  refine WP.seq ?_
  refine WP.region ?_
  refine WL.rn 4 [0] [(7, .bool (decide (a0.Type_ ≥ 1536)))] ?_
  refine WL.bo 7 (decide (a0.Type_ ≥ 1536)) 4 [0] [] (fun b' => [(11, .bool (b' && (decide (a0.Type_ ≤ 65535))))]) ?_
  refine WL.rn 1 [] [(12, .bool ((decide (a0.Type_ ≥ 1536)) && (decide (a0.Type_ ≤ 65535))))] ?_
  refine WL.bo 12 ((decide (a0.Type_ ≥ 1536)) && (decide (a0.Type_ ≤ 65535))) 4 [0] [] (fun b' => [(16, .bool (b' && (a0.Type_ != 33024)))]) ?_
  refine WL.rn 1 [] [(3, .bool (((decide (a0.Type_ ≥ 1536)) && (decide (a0.Type_ ≤ 65535))) && (a0.Type_ != 33024)))] ?_
  refine WP.done ?_
  refine WP.seq ?_
  refine WP.block ?_
  refine WP.seq ?_
  refine WP.region ?_
  refine WL.rn 4 [0] [(21, .bool (decide (a0.Dst ≥ 281474976710656)))] ?_
  refine WL.bo 21 (decide (a0.Dst ≥ 281474976710656)) 4 [] [0] (fun b' => [(25, .bool (b' || (decide (a0.Src ≥ 281474976710656))))]) ?_
  refine WL.rn 1 [] [(26, .bool ((decide (a0.Dst ≥ 281474976710656)) || (decide (a0.Src ≥ 281474976710656))))] ?_
  refine WL.join (σ := Bool) 5 (fun st => ether_Check.k2 a0 st = some r) (fun st => [(1, .pointer (some ⟨b1, 0, none⟩)), (2, .int .i64 0), (3, .bool (((decide (a0.Type_ ≥ 1536)) && (decide (a0.Type_ ≤ 65535))) && (a0.Type_ != 33024))), (31, .bool st)]) (fun st => Sat w Z [(b1, api_Frame.o a0)] [] Glob) (fun st hM => ?_) (fun K2 => ?_)
  ·
    obtain ⟨x5, rfl⟩ : ∃ y, y = st := ⟨st, rfl⟩
    replace hM : ether_Check.k2 a0 x5 = some r := hM
    unfold ether_Check.k2 at hM
    show WL _ _ _ _ _ [(1, .pointer (some ⟨b1, 0, none⟩)), (2, .int .i64 0), (3, .bool (((decide (a0.Type_ ≥ 1536)) && (decide (a0.Type_ ≤ 65535))) && (a0.Type_ != 33024))), (31, .bool x5)] (Sat w Z [(b1, api_Frame.o a0)] [] Glob)
    refine WL.rn 1 [] [(32, .bool x5)] ?_
    refine WL.join (σ := Bool) 8 (fun st => ether_Check.k1 a0 st = some r) (fun st => [(1, .pointer (some ⟨b1, 0, none⟩)), (2, .int .i64 0), (40, .bool st)]) (fun st => Sat w Z [(b1, api_Frame.o a0)] [] Glob) (fun st hM => ?_) (fun K1 => ?_)
    ·
      obtain ⟨x7, rfl⟩ : ∃ y, y = st := ⟨st, rfl⟩
      replace hM : ether_Check.k1 a0 x7 = some r := hM
      unfold ether_Check.k1 at hM
      show WL _ _ _ _ _ [(1, .pointer (some ⟨b1, 0, none⟩)), (2, .int .i64 0), (40, .bool x7)] (Sat w Z [(b1, api_Frame.o a0)] [] Glob)
      refine WL.rn 1 [] [(17, .bool x7)] ?_
      refine WP.done ?_
      refine WP.cond x7 rfl rfl (fun c8 => ?_) (fun c8 => ?_)
      · replace hM := cond_t hM c8
        refine WP.seq ?_
        refine WP.rn [] [(2, .int .i64 41)] ?_
        refine WP.kp [false] ?_
        obtain rfl := Option.some.inj hM
        exact WP.ret [] [] (.int .i64 41) (by kernel_rfl) (fun w' hw => ⟨rfl, hw.pick [] rfl⟩)
      · replace hM := cond_f hM c8
        refine WP.seq ?_
        refine WP.region ?_
        refine WL.rn 4 [0] [(45, .bool (a0.Type_ == 0))] ?_
        refine WL.bo 45 (a0.Type_ == 0) 5 [0] [] (fun b' => [(50, .bool (b' && (decide ((a0.Body.size : Int) > 1500))))]) ?_
        refine WL.rn 1 [] [(41, .bool ((a0.Type_ == 0) && (decide ((a0.Body.size : Int) > 1500))))] ?_
        refine WP.done ?_
        refine WP.cond ((a0.Type_ == 0) && (decide ((a0.Body.size : Int) > 1500))) rfl rfl (fun c9 => ?_) (fun c9 => ?_)
        · replace hM := cond_t hM c9
          refine WP.seq ?_
          refine WP.rn [] [(2, .int .i64 40)] ?_
          refine WP.kp [false] ?_
          obtain rfl := Option.some.inj hM
          exact WP.ret [] [] (.int .i64 40) (by kernel_rfl) (fun w' hw => ⟨rfl, hw.pick [] rfl⟩)
        · replace hM := cond_f hM c9
          refine WP.seq ?_
          refine WP.region ?_
          refine WL.rn 1 [0, 0, 0, 0, 0, 0, 0, 0] [(52, api_Frame.v a0)] ?_
          obtain ⟨r10, h11, hM⟩ := bind_some hM
          refine WL.callP [] [] (ether_size_calls a0 _ h11) (fun _ h => h) (by kernel_rfl) (by kernel_rfl) rfl ?_
          refine WL.rn 2 [] [(51, .bool (decide (r10 > 1600)))] ?_
          refine WP.done ?_
          refine WP.kp [false] ?_
          refine WP.cond (decide (r10 > 1600)) rfl rfl (fun c12 => ?_) (fun c12 => ?_)
          · replace hM := cond_t hM c12
            refine WP.seq ?_
            refine WP.rn [] [(2, .int .i64 41)] ?_
            obtain rfl := Option.some.inj hM
            exact WP.ret [] [] (.int .i64 41) (by kernel_rfl) (fun w' hw => ⟨rfl, hw.pick [] rfl⟩)
          · replace hM := cond_f hM c12
            refine WP.skip ?_
            refine WP.leave ?_
            refine WP.seq ?_
            refine WP.rn [] [(2, .int .i64 0)] ?_
            obtain rfl := Option.some.inj hM
            exact WP.ret [] [] (.int .i64 0) (by kernel_rfl) (fun w' hw => ⟨rfl, hw.pick [] rfl⟩)
    ·
      refine WL.sp 32 x5 (fun c6 => ?_) (fun c6 => ?_)
      · replace hM := cond_t hM c6
        refine WL.rn 8 [] [(40, .bool true)] ?_
        exact WL.sub [1, 2, 40] (by kernel_rfl) (WL.pick [0] (by kernel_rfl) (by kernel_rfl) (K1 true hM))
      · replace hM := cond_f hM c6
        refine WL.rn 4 [0] [(36, .bool (a0.Type_ != 0))] ?_
        refine WL.bo 36 (a0.Type_ != 0) 3 [] [] (fun b' => [(39, .bool (b' && (!(((decide (a0.Type_ ≥ 1536)) && (decide (a0.Type_ ≤ 65535))) && (a0.Type_ != 33024)))))]) ?_
        refine WL.rn 1 [] [(40, .bool ((a0.Type_ != 0) && (!(((decide (a0.Type_ ≥ 1536)) && (decide (a0.Type_ ≤ 65535))) && (a0.Type_ != 33024)))))] ?_
        exact WL.sub [1, 2, 40] (by kernel_rfl) (WL.pick [0] (by kernel_rfl) (by kernel_rfl) (K1 ((a0.Type_ != 0) && (!(((decide (a0.Type_ ≥ 1536)) && (decide (a0.Type_ ≤ 65535))) && (a0.Type_ != 33024)))) hM))
  ·
    refine WL.sp 26 ((decide (a0.Dst ≥ 281474976710656)) || (decide (a0.Src ≥ 281474976710656))) (fun c2 => ?_) (fun c2 => ?_)
    · replace hM := cond_t hM c2
      refine WL.rn 5 [] [(31, .bool true)] ?_
      exact WL.sub [1, 2, 3, 31] (by kernel_rfl) (WL.pick [0] (by kernel_rfl) (by kernel_rfl) (K2 true hM))
    · replace hM := cond_f hM c2
      refine WL.rn 2 [0, 0, 0, 0] [(28, api_Tag.v a0.Tag)] ?_
      obtain ⟨r3, h4, hM⟩ := bind_some hM
      refine WL.callP [] [] (ether_tag_calls a0.Tag _ h4) (fun _ h => h) (by kernel_rfl) (by kernel_rfl) rfl ?_
      refine WL.rn 2 [] [(31, .bool (!r3))] ?_
      exact WL.sub [1, 2, 3, 31] (by kernel_rfl) (WL.pick [0] (by kernel_rfl) (by kernel_rfl) (K2 (!r3) hM))

end Go.Proofs.YtbbekdmndifkpaaGreatDoor

namespace Go.Proofs.YtbbekdmndifkpaaGreatDoor
open Go Eng
set_option linter.unusedVariables false
set_option linter.unusedSimpArgs false

/-! ### gangway/octets.Put: function 123 -/
def octets_Put.l3 (t8 : Nat) (a0 : Int) (a1 : Int) : Nat → Int → (List Int) → Option (ByteArray × Int)
  | 0, _, _ => none
  | n + 1, x17, x18 =>
    bif decide (x17 < (t8 : Int)) then
      (shrI .u64 a0 (i64 (8 * x17))).bind fun t20 =>
      (getL t8 x18 (i64 ((i64 (a1 - 1)) - x17))).bind fun t22 =>
      octets_Put.l3 t8 a0 a1 n (i64 (x17 + 1)) (List.set x18 (i64 ((i64 (a1 - 1)) - x17)).toNat (u8 t20))
    else
      (strOf t8 x18).bind fun t24 =>
      some (t24, 0)

def octets_Put.k2 (a1 : Int) (a0 : Int) (k : Nat) (x6 : Bool) : Option (ByteArray × Int) :=
  bif x6 then
    some ((⟨#[]⟩ : ByteArray), 1)
  else
    (mkLen 1 a1).bind fun t8 =>
    octets_Put.l3 t8 a0 a1 k 0 (List.replicate t8 0)

def octets_Put.k1 (a1 : Int) (a0 : Int) (k : Nat) (x5 : Bool) : Option (ByteArray × Int) :=
  octets_Put.k2 a1 a0 k x5

def octets_Put.f (k : Nat) (a0 : Int) (a1 : Int) : Option (ByteArray × Int) :=
  bif ((decide (a1 < 1)) || (decide (a1 > 8))) then
    octets_Put.k2 a1 a0 k true
  else
    bif decide (a1 < 8) then
      (shrI .u64 a0 (i64 (8 * a1))).bind fun t3 =>
      octets_Put.k1 a1 a0 k (t3 != 0)
    else
      octets_Put.k1 a1 a0 k false

set_option maxRecDepth 100000 in
theorem octets_Put_calls (k : Nat) (a0 : Int) (a1 : Int) (r : ByteArray × Int) (h : octets_Put.f k a0 a1 = some r) : Pure Tryz.prog Glob 123 #[.int .u64 a0, .int .i64 a1] (.tuple #[.string r.1, .int .i64 r.2]) := by
  intro w Z hS
  refine calls_of (args := [.int .u64 a0, .int .i64 a1]) (L := [(0, .int .u64 a0), (1, .int .i64 a1)]) (N := 46) (S := Sat w Z [] [] Glob) Tryz.func123 rfl rfl (Nat.le_of_ble_eq_true rfl) rfl hS ?_
  have hM := h
  clear h hS
  unfold octets_Put.f at hM
  refine WP.seq ?_
  refine WP.rn [] [(4, .string (⟨#[]⟩ : ByteArray)), (5, .int .i64 0)] ?_
  refine WP.seq ?_
  refine WP.seq ?_
  refine WP.region ?_
  refine WL.rn 3 [] [(10, .bool (decide (a1 < 1)))] ?_
  refine WL.bo 10 (decide (a1 < 1)) 3 [] [] (fun b' => [(13, .bool (b' || (decide (a1 > 8))))]) ?_
  refine WL.rn 1 [] [(14, .bool ((decide (a1 < 1)) || (decide (a1 > 8))))] ?_
  refine WL.join (σ := Bool) 10 (fun st => octets_Put.k2 a1 a0 k st = some r) (fun st => [(0, .int .u64 a0), (1, .int .i64 a1), (4, .string (⟨#[]⟩ : ByteArray)), (5, .int .i64 0), (24, .bool st)]) (fun st => Sat w Z [] [] Glob) (fun st hM => ?_) (fun K2 => ?_)
  ·
    obtain ⟨x6, rfl⟩ : ∃ y, y = st := ⟨st, rfl⟩
    replace hM : octets_Put.k2 a1 a0 k x6 = some r := hM
    unfold octets_Put.k2 at hM
    show WL _ _ _ _ _ [(0, .int .u64 a0), (1, .int .i64 a1), (4, .string (⟨#[]⟩ : ByteArray)), (5, .int .i64 0), (24, .bool x6)] (Sat w Z [] [] Glob)
    refine WP.done ?_
    refine WP.cond x6 rfl rfl (fun c7 => ?_) (fun c7 => ?_)
    · replace hM := cond_t hM c7
      refine WP.seq ?_
      refine WP.rn [] [(4, .string (⟨#[]⟩ : ByteArray)), (5, .int .i64 1)] ?_
      obtain rfl := Option.some.inj hM
      exact WP.ret [] [] (.tuple #[.string (⟨#[]⟩ : ByteArray), .int .i64 1]) (by kernel_rfl) (fun w' hw => ⟨rfl, hw.pick [] rfl⟩)
    · replace hM := cond_f hM c7
      refine WP.skip ?_
      refine WP.seq ?_
      refine WP.region ?_
      refine WL.rn 1 [] [(25, .int .i64 a1)] ?_
      obtain ⟨t8, h9, hM⟩ := bind_some hM
      refine WL.makeSlice (f := (encI .u8)) (z := 0) (zv := .int .u8 0) (i := a1) (k := .i64) (e := 5) (by kernel_rfl) (by kernel_rfl) rfl Nat.zero_lt_one (fun _ => rfl) (by kernel_rfl) (by kernel_rfl) h9 (by kernel_rfl) rfl (fun b10 => ?_)
      refine WL.rn 1 [] [(6, .slice (some ⟨b10, 0, none⟩) t8 t8)] ?_
      refine WP.done ?_
      refine WP.seq ?_
      refine WP.seq ?_
      refine WP.rn [] [(28, .int .i64 (t8 : Int)), (29, .int .i64 0)] ?_
      refine WP.block ?_
      refine WP.sub [0, 1, 4, 5, 6, 28, 29] (L' := [(0, .int .u64 a0), (1, .int .i64 a1), (4, .string (⟨#[]⟩ : ByteArray)), (5, .int .i64 0), (6, .slice (some ⟨b10, 0, none⟩) t8 t8), (28, .int .i64 (t8 : Int)), (29, .int .i64 0)]) (by kernel_rfl) ?_
      refine WP.loop (σ := Int × (List Int)) (fun n st => octets_Put.l3 t8 a0 a1 n st.1 st.2) r (fun st => [(0, .int .u64 a0), (1, .int .i64 a1), (4, .string (⟨#[]⟩ : ByteArray)), (5, .int .i64 0), (6, .slice (some ⟨b10, 0, none⟩) t8 t8), (28, .int .i64 (t8 : Int)), (29, .int .i64 st.1)]) (fun st => Sat w Z [(b10, .cells (rowF (encI .u8) st.2) 5 (0, 0))] [] Glob) (st := (0, (List.replicate t8 0))) (fun n st hM => ?_) hM
      rcases n with _ | n
      · exact nomatch (show (none : Option _) = some r from hM)
      obtain ⟨x17, x18⟩ := st
      replace hM : octets_Put.l3 t8 a0 a1 (n + 1) x17 x18 = some r := hM
      rw [octets_Put.l3] at hM
      show WP _ _ _ _ _ [(0, .int .u64 a0), (1, .int .i64 a1), (4, .string (⟨#[]⟩ : ByteArray)), (5, .int .i64 0), (6, .slice (some ⟨b10, 0, none⟩) t8 t8), (28, .int .i64 (t8 : Int)), (29, .int .i64 x17)] (Sat w Z [(b10, .cells (rowF (encI .u8) x18) 5 (0, 0))] [] Glob)
      refine WP.seq ?_
      refine WP.rn [] [(30, .bool (decide (x17 < (t8 : Int))))] ?_
      refine WP.seq ?_
      refine WP.cond (decide (x17 < (t8 : Int))) rfl rfl (fun c19 => ?_) (fun c19 => ?_)
      · replace hM := cond_t hM c19
        refine WP.skip ?_
        refine WP.seq ?_
        refine WP.block ?_
        refine WP.seq ?_
        refine WP.rn [] [(7, .int .i64 x17), (31, .int .i64 x17)] ?_
        refine WP.region ?_
        refine WL.rn 8 [] [(32, .slice (some ⟨b10, 0, none⟩) t8 t8), (33, .int .i64 a1), (34, .int .i64 (i64 (a1 - 1))), (35, .int .i64 x17), (36, .int .i64 (i64 ((i64 (a1 - 1)) - x17))), (37, .int .u64 a0), (38, .int .i64 x17), (39, .int .i64 (i64 (8 * x17)))] ?_
        obtain ⟨t20, h21, hM⟩ := bind_some hM
        refine WL.val (fun _ => run_shr (k := .u64) (k' := .i64) (a := a0) (b := i64 (8 * x17)) (by kernel_rfl) (by kernel_rfl) h21) (by kernel_rfl) (by kernel_rfl) rfl ?_
        refine WL.rn 1 [] [(41, .int .u8 (u8 t20))] ?_
        obtain ⟨t22, h23, hM⟩ := bind_some hM
        refine WL.val (fun _ => run_indexAddr (i := i64 ((i64 (a1 - 1)) - x17)) (k := .i64) (b := b10) (o := 0) (n := t8) (c := t8) (e := 5) (sz := 1) (by kernel_rfl) (by kernel_rfl) (by kernel_rfl) (by kernel_rfl) (getL_parts h23).1) (by kernel_rfl) (by kernel_rfl) rfl ?_
        refine WL.storeCell (b := b10) (off := 0 + (i64 ((i64 (a1 - 1)) - x17)).toNat * 1) (e := 5) (H' := [(b10, .cells (rowF (encI .u8) (List.set x18 (i64 ((i64 (a1 - 1)) - x17)).toNat (u8 t20))) 5 (0, 0))]) (v := .int .u8 (u8 t20)) (u := .int .u8 t22) 0 (fun _ => by kernel_rfl) (by kernel_rfl) (by kernel_rfl) (by kernel_rfl) (by kernel_rfl) rfl (by kernel_rfl) (rowF_at0 (f := (encI .u8)) (m := 1) (fun _ => rfl) Nat.zero_lt_one h23) (rowF_set0 (f := (encI .u8)) (m := 1) (x' := u8 t20) (fun _ => rfl) Nat.zero_lt_one h23 rfl) (by kernel_rfl) (by kernel_rfl) ?_
        refine WP.done ?_
        refine WP.leave ?_
        refine WP.rn [] [(29, .int .i64 (i64 (x17 + 1))), (43, .int .i64 (i64 (x17 + 1)))] ?_
        exact WP.again' [0, 1, 4, 5, 6, 28, 29] (i64 (x17 + 1), (List.set x18 (i64 ((i64 (a1 - 1)) - x17)).toNat (u8 t20))) hM (by kernel_rfl) (fun _ h => h.pick [0] (by kernel_rfl))
      · replace hM := cond_f hM c19
        refine WP.exit rfl ?_
        refine WP.seq ?_
        refine WP.region ?_
        refine WL.rn 1 [] [(44, .slice (some ⟨b10, 0, none⟩) t8 t8)] ?_
        obtain ⟨t24, h25, hM⟩ := bind_some hM
        refine WL.strOf (b := b10) (n := t8) (c := t8) (xs := x18) (e0 := 5) (fr := (0, 0)) 0 (e := 5) (by kernel_rfl) (by kernel_rfl) (by kernel_rfl) (by kernel_rfl) (by kernel_rfl) (by kernel_rfl) h25 (by kernel_rfl) rfl ?_
        refine WL.rn 2 [] [(4, .string t24), (5, .int .i64 0)] ?_
        refine WP.done ?_
        refine WP.kp [false] ?_
        obtain rfl := Option.some.inj hM
        exact WP.ret [] [] (.tuple #[.string t24, .int .i64 0]) (by kernel_rfl) (fun w' hw => ⟨rfl, hw.pick [] rfl⟩)
  ·
    refine WL.sp 14 ((decide (a1 < 1)) || (decide (a1 > 8))) (fun c1 => ?_) (fun c1 => ?_)
    · replace hM := cond_t hM c1
      refine WL.rn 10 [] [(24, .bool true)] ?_
      exact WL.sub [0, 1, 4, 5, 24] (by kernel_rfl) (WL.pick [] (by kernel_rfl) (by kernel_rfl) (K2 true hM))
    · replace hM := cond_f hM c1
      refine WL.rn 3 [] [(17, .bool (decide (a1 < 8)))] ?_
      refine WL.join (σ := Bool) 6 (fun st => octets_Put.k1 a1 a0 k st = some r) (fun st => [(0, .int .u64 a0), (1, .int .i64 a1), (4, .string (⟨#[]⟩ : ByteArray)), (5, .int .i64 0), (14, .bool false), (23, .bool st)]) (fun st => Sat w Z [] [] Glob) (fun st hM => ?_) (fun K1 => ?_)
      ·
        obtain ⟨x5, rfl⟩ : ∃ y, y = st := ⟨st, rfl⟩
        replace hM : octets_Put.k1 a1 a0 k x5 = some r := hM
        unfold octets_Put.k1 at hM
        show WL _ _ _ _ _ [(0, .int .u64 a0), (1, .int .i64 a1), (4, .string (⟨#[]⟩ : ByteArray)), (5, .int .i64 0), (14, .bool false), (23, .bool x5)] (Sat w Z [] [] Glob)
        refine WL.rn 1 [] [(24, .bool x5)] ?_
        exact WL.sub [0, 1, 4, 5, 24] (by kernel_rfl) (WL.pick [] (by kernel_rfl) (by kernel_rfl) (K2 x5 hM))
      ·
        refine WL.sp 17 (decide (a1 < 8)) (fun c2 => ?_) (fun c2 => ?_)
        · replace hM := cond_t hM c2
          refine WL.rn 3 [] [(18, .int .u64 a0), (20, .int .i64 (i64 (8 * a1)))] ?_
          obtain ⟨t3, h4, hM⟩ := bind_some hM
          refine WL.val (fun _ => run_shr (k := .u64) (k' := .i64) (a := a0) (b := i64 (8 * a1)) (by kernel_rfl) (by kernel_rfl) h4) (by kernel_rfl) (by kernel_rfl) rfl ?_
          refine WL.rn 2 [] [(23, .bool (t3 != 0))] ?_
          exact WL.sub [0, 1, 4, 5, 14, 23] (by kernel_rfl) (WL.pick [] (by kernel_rfl) (by kernel_rfl) (K1 (t3 != 0) hM))
        · replace hM := cond_f hM c2
          refine WL.rn 6 [] [(23, .bool false)] ?_
          exact WL.sub [0, 1, 4, 5, 14, 23] (by kernel_rfl) (WL.pick [] (by kernel_rfl) (by kernel_rfl) (K1 false hM))

end Go.Proofs.YtbbekdmndifkpaaGreatDoor

namespace Go.Proofs.YtbbekdmndifkpaaGreatDoor
open Go Eng
set_option linter.unusedVariables false
set_option linter.unusedSimpArgs false

/-! ### gangway/ether.put: function 74 -/
def ether_put.f (k : Nat) (a0 : Int) (a1 : Int) : Option (ByteArray) :=
  (octets_Put.f k a0 a1).bind fun (r1, r2) =>
  some r1

set_option maxRecDepth 100000 in
theorem ether_put_calls (k : Nat) (a0 : Int) (a1 : Int) (r : ByteArray) (h : ether_put.f k a0 a1 = some r) : Pure Tryz.prog Glob 74 #[.int .u64 a0, .int .i64 a1] (.string r) := by
  intro w Z hS
  refine calls_of (args := [.int .u64 a0, .int .i64 a1]) (L := [(0, .int .u64 a0), (1, .int .i64 a1)]) (N := 14) (S := Sat w Z [] [] Glob) Tryz.func74 rfl rfl (Nat.le_of_ble_eq_true rfl) rfl hS ?_
  have hM := h
  clear h hS
  unfold ether_put.f at hM
  refine WP.seq ?_
  refine WP.rn [] [(4, .string (⟨#[]⟩ : ByteArray))] ?_
  refine WP.seq ?_
  refine WP.region ?_
  refine WL.rn 2 [] [(8, .int .u64 a0), (9, .int .i64 a1)] ?_
  obtain ⟨⟨r1, r2⟩, h3, hM⟩ := bind_some hM
  dsimp only at hM
  refine WL.callP [] [] (octets_Put_calls k a0 a1 _ h3) (fun _ h => h) (by kernel_rfl) (by kernel_rfl) rfl ?_
  refine WL.rn 5 [] [(5, .string r1)] ?_
  refine WP.done ?_
  refine WP.seq ?_
  refine WP.rn [] [(4, .string r1)] ?_
  obtain rfl := Option.some.inj hM
  exact WP.ret [] [] (.string r1) (by kernel_rfl) (fun w' hw => ⟨rfl, hw.pick [] rfl⟩)

end Go.Proofs.YtbbekdmndifkpaaGreatDoor

namespace Go.Proofs.YtbbekdmndifkpaaGreatDoor
open Go Eng
set_option linter.unusedVariables false
set_option linter.unusedSimpArgs false

/-! ### gangway/ether.info: function 75 -/
def ether_info.k1 (x3 : Int) : Option (Int) :=
  some (u64 x3)

def ether_info.f (a0 : api_Tag) : Option (Int) :=
  bif a0.Dei then
    ether_info.k1 (bOr .i64 (bOr .i64 (i64 (a0.Pri * 8192)) a0.Vid) 4096)
  else
    ether_info.k1 (bOr .i64 (i64 (a0.Pri * 8192)) a0.Vid)

set_option maxRecDepth 100000 in
theorem ether_info_calls (a0 : api_Tag) (r : Int) (h : ether_info.f a0 = some r) : Pure Tryz.prog Glob 75 #[api_Tag.v a0] (.int .u64 r) := by
  intro w Z hS
  refine calls_of (args := [api_Tag.v a0]) (L := [(0, api_Tag.v a0)]) (N := 16) (S := Sat w Z [] [] Glob) Tryz.func75 rfl rfl (Nat.le_of_ble_eq_true rfl) rfl hS ?_
  have hM := h
  clear h hS
  unfold ether_info.f at hM
  refine WP.seq ?_
  refine WP.rh [] (fun b1 => [(1, .pointer (some ⟨b1, 0, none⟩)), (2, .int .u64 0)]) (fun b1 => []) (fun b1 => [(b1, api_Tag.o a0)]) (fun b1 => ?_)
  refine WP.seq ?_
  refine WP.rn [0, 0] [(3, .int .i64 (bOr .i64 (i64 (a0.Pri * 8192)) a0.Vid))] ?_
  refine WP.seqJoin (σ := Int) (fun st => ether_info.k1 st = some r) (fun st => [(2, .int .u64 0), (3, .int .i64 st)]) (fun st => Sat w Z [] [] Glob) (fun st hM => ?_) (fun K1 => ?_)
  ·
    obtain ⟨x3, rfl⟩ : ∃ y, y = st := ⟨st, rfl⟩
    replace hM : ether_info.k1 x3 = some r := hM
    unfold ether_info.k1 at hM
    show WP _ _ _ _ _ [(2, .int .u64 0), (3, .int .i64 x3)] (Sat w Z [] [] Glob)
    refine WP.seq ?_
    refine WP.rn [] [(2, .int .u64 (u64 x3))] ?_
    obtain rfl := Option.some.inj hM
    exact WP.ret [] [] (.int .u64 (u64 x3)) (by kernel_rfl) (fun w' hw => ⟨rfl, hw.pick [] rfl⟩)
  ·
    refine WP.seq ?_
    refine WP.rn [0] [(11, .bool a0.Dei)] ?_
    refine WP.kp [false] ?_
    refine WP.cond a0.Dei rfl rfl (fun c2 => ?_) (fun c2 => ?_)
    · replace hM := cond_t hM c2
      refine WP.rn [] [(3, .int .i64 (bOr .i64 (bOr .i64 (i64 (a0.Pri * 8192)) a0.Vid) 4096))] ?_
      exact WP.sub [2, 3] (by kernel_rfl) (WP.pick [] (by kernel_rfl) (by kernel_rfl) (K1 (bOr .i64 (bOr .i64 (i64 (a0.Pri * 8192)) a0.Vid) 4096) hM))
    · replace hM := cond_f hM c2
      refine WP.skip ?_
      exact WP.sub [2, 3] (by kernel_rfl) (WP.pick [] (by kernel_rfl) (by kernel_rfl) (K1 (bOr .i64 (i64 (a0.Pri * 8192)) a0.Vid) hM))

end Go.Proofs.YtbbekdmndifkpaaGreatDoor

namespace Go.Proofs.YtbbekdmndifkpaaGreatDoor
open Go Eng
set_option linter.unusedVariables false
set_option linter.unusedSimpArgs false

/-! ### gangway/ether.Build: function 40 -/
def ether_Build.k1 (k : Nat) (x22 : ByteArray) (a0 : api_Frame) (x24 : Int) : Option (ByteArray × Int) :=
  (ether_put.f k (u64 x24) 2).bind fun r25 =>
  (catS x22 r25).bind fun t27 =>
  (catS t27 a0.Body).bind fun t29 =>
  some (t29, 0)

def ether_Build.k2 (a0 : api_Frame) (k : Nat) (x22 : ByteArray) : Option (ByteArray × Int) :=
  bif (a0.Type_ == 0) then
    ether_Build.k1 k x22 a0 (a0.Body.size : Int)
  else
    ether_Build.k1 k x22 a0 a0.Type_

def ether_Build.f (k : Nat) (a0 : api_Frame) : Option (ByteArray × Int) :=
  (ether_Check.f a0).bind fun r2 =>
  bif (r2 != 0) then
    some ((⟨#[]⟩ : ByteArray), r2)
  else
    (ether_put.f k a0.Dst 6).bind fun r5 =>
    (ether_put.f k a0.Src 6).bind fun r7 =>
    (catS r5 r7).bind fun t9 =>
    bif a0.Tag.Has then
      (ether_put.f k 33024 2).bind fun r12 =>
      (ether_info.f a0.Tag).bind fun r14 =>
      (ether_put.f k r14 2).bind fun r16 =>
      (catS r12 r16).bind fun t18 =>
      (catS t9 t18).bind fun t20 =>
      ether_Build.k2 a0 k t20
    else
      ether_Build.k2 a0 k t9

set_option maxRecDepth 100000 in
theorem ether_Build_calls (k : Nat) (a0 : api_Frame) (r : ByteArray × Int) (h : ether_Build.f k a0 = some r) : Pure Tryz.prog Glob 40 #[api_Frame.v a0] (.tuple #[.string r.1, .int .i64 r.2]) := by
  intro w Z hS
  refine calls_of (args := [api_Frame.v a0]) (L := [(0, api_Frame.v a0)]) (N := 45) (S := Sat w Z [] [] Glob) Tryz.func40 rfl rfl (Nat.le_of_ble_eq_true rfl) rfl hS ?_
  have hM := h
  clear h hS
  unfold ether_Build.f at hM
  refine WP.seq ?_
  refine WP.rh [] (fun b1 => [(1, .pointer (some ⟨b1, 0, none⟩)), (2, .string (⟨#[]⟩ : ByteArray)), (3, .int .i64 0)]) (fun b1 => []) (fun b1 => [(b1, api_Frame.o a0)]) (fun b1 => ?_)
  refine WP.seq ?_
  refine WP.seq ?_
  refine WP.region ?_
  refine WL.rn 1 [0, 0, 0, 0, 0, 0, 0, 0] [(7, api_Frame.v a0)] ?_
  obtain ⟨r2, h3, hM⟩ := bind_some hM
  refine WL.callP [] [] (ether_Check_calls a0 _ h3) (fun _ h => h) (by kernel_rfl) (by kernel_rfl) rfl ?_
  refine WL.rn 1 [] [(4, .int .i64 r2)] ?_
  refine WP.done ?_
  refine WP.seq ?_
  refine WP.rn [] [(10, .bool (r2 != 0))] ?_
  refine WP.cond (r2 != 0) rfl rfl (fun c4 => ?_) (fun c4 => ?_)
  · replace hM := cond_t hM c4
    refine WP.seq ?_
    refine WP.rn [] [(2, .string (⟨#[]⟩ : ByteArray)), (3, .int .i64 r2)] ?_
    obtain rfl := Option.some.inj hM
    exact WP.ret [] [] (.tuple #[.string (⟨#[]⟩ : ByteArray), .int .i64 r2]) (by kernel_rfl) (fun w' hw => ⟨rfl, hw.pick [] rfl⟩)
  · replace hM := cond_f hM c4
    refine WP.skip ?_
    refine WP.seq ?_
    refine WP.quiet (by kernel_rfl) (by kernel_rfl) ?_
    refine QL.rn 2 [0] [(13, .int .u64 a0.Dst)] ?_
    obtain ⟨r5, h6, hM⟩ := bind_some hM
    refine QL.callP [] [] (ether_put_calls k a0.Dst 6 _ h6) (fun _ h => h) (by kernel_rfl) (by kernel_rfl) rfl ?_
    refine QL.rn 2 [0] [(16, .int .u64 a0.Src)] ?_
    obtain ⟨r7, h8, hM⟩ := bind_some hM
    refine QL.callP [] [] (ether_put_calls k a0.Src 6 _ h8) (fun _ h => h) (by kernel_rfl) (by kernel_rfl) rfl ?_
    obtain ⟨t9, h10, hM⟩ := bind_some hM
    refine QL.val (fun _ => run_catS (a := r5) (b := r7) (by kernel_rfl) (by kernel_rfl) h10) (by kernel_rfl) (by kernel_rfl) rfl ?_
    refine QL.rn 1 [] [(5, .string t9)] ?_
    refine QL.done ?_
    refine WP.seqJoin (σ := ByteArray) (fun st => ether_Build.k2 a0 k st = some r) (fun st => [(1, .pointer (some ⟨b1, 0, none⟩)), (2, .string (⟨#[]⟩ : ByteArray)), (3, .int .i64 0), (5, .string st)]) (fun st => Sat w Z [(b1, api_Frame.o a0)] [] Glob) (fun st hM => ?_) (fun K2 => ?_)
    ·
      obtain ⟨x22, rfl⟩ : ∃ y, y = st := ⟨st, rfl⟩
      replace hM : ether_Build.k2 a0 k x22 = some r := hM
      unfold ether_Build.k2 at hM
      show WP _ _ _ _ _ [(1, .pointer (some ⟨b1, 0, none⟩)), (2, .string (⟨#[]⟩ : ByteArray)), (3, .int .i64 0), (5, .string x22)] (Sat w Z [(b1, api_Frame.o a0)] [] Glob)
      refine WP.seq ?_
      refine WP.rn [0] [(6, .int .i64 a0.Type_)] ?_
      refine WP.seqJoin (σ := Int) (fun st => ether_Build.k1 k x22 a0 st = some r) (fun st => [(1, .pointer (some ⟨b1, 0, none⟩)), (2, .string (⟨#[]⟩ : ByteArray)), (3, .int .i64 0), (5, .string x22), (6, .int .i64 st)]) (fun st => Sat w Z [(b1, api_Frame.o a0)] [] Glob) (fun st hM => ?_) (fun K1 => ?_)
      ·
        obtain ⟨x24, rfl⟩ : ∃ y, y = st := ⟨st, rfl⟩
        replace hM : ether_Build.k1 k x22 a0 x24 = some r := hM
        unfold ether_Build.k1 at hM
        show WP _ _ _ _ _ [(1, .pointer (some ⟨b1, 0, none⟩)), (2, .string (⟨#[]⟩ : ByteArray)), (3, .int .i64 0), (5, .string x22), (6, .int .i64 x24)] (Sat w Z [(b1, api_Frame.o a0)] [] Glob)
        refine WP.seq ?_
        refine WP.quiet (by kernel_rfl) (by kernel_rfl) ?_
        refine QL.rn 3 [] [(37, .string x22), (39, .int .u64 (u64 x24))] ?_
        obtain ⟨r25, h26, hM⟩ := bind_some hM
        refine QL.callP [] [] (ether_put_calls k (u64 x24) 2 _ h26) (fun _ h => h) (by kernel_rfl) (by kernel_rfl) rfl ?_
        obtain ⟨t27, h28, hM⟩ := bind_some hM
        refine QL.val (fun _ => run_catS (a := x22) (b := r25) (by kernel_rfl) (by kernel_rfl) h28) (by kernel_rfl) (by kernel_rfl) rfl ?_
        refine QL.rn 2 [0] [(43, .string a0.Body)] ?_
        obtain ⟨t29, h30, hM⟩ := bind_some hM
        refine QL.val (fun _ => run_catS (a := t27) (b := a0.Body) (by kernel_rfl) (by kernel_rfl) h30) (by kernel_rfl) (by kernel_rfl) rfl ?_
        refine QL.rn 2 [] [(2, .string t29), (3, .int .i64 0)] ?_
        refine QL.done ?_
        refine WP.kp [false] ?_
        obtain rfl := Option.some.inj hM
        exact WP.ret [] [] (.tuple #[.string t29, .int .i64 0]) (by kernel_rfl) (fun w' hw => ⟨rfl, hw.pick [] rfl⟩)
      ·
        refine WP.seq ?_
        refine WP.rn [] [(33, .bool (a0.Type_ == 0))] ?_
        refine WP.cond (a0.Type_ == 0) rfl rfl (fun c23 => ?_) (fun c23 => ?_)
        · replace hM := cond_t hM c23
          refine WP.rn [0] [(6, .int .i64 (a0.Body.size : Int))] ?_
          exact WP.sub [1, 2, 3, 5, 6] (by kernel_rfl) (WP.pick [0] (by kernel_rfl) (by kernel_rfl) (K1 (a0.Body.size : Int) hM))
        · replace hM := cond_f hM c23
          refine WP.skip ?_
          exact WP.sub [1, 2, 3, 5, 6] (by kernel_rfl) (WP.pick [0] (by kernel_rfl) (by kernel_rfl) (K1 a0.Type_ hM))
    ·
      refine WP.seq ?_
      refine WP.rn [0] [(21, .bool a0.Tag.Has)] ?_
      refine WP.cond a0.Tag.Has rfl rfl (fun c11 => ?_) (fun c11 => ?_)
      · replace hM := cond_t hM c11
        refine WP.quiet (by kernel_rfl) (by kernel_rfl) ?_
        refine QL.rn 1 [] [(22, .string t9)] ?_
        obtain ⟨r12, h13, hM⟩ := bind_some hM
        refine QL.callP [] [] (ether_put_calls k 33024 2 _ h13) (fun _ h => h) (by kernel_rfl) (by kernel_rfl) rfl ?_
        refine QL.rn 2 [0, 0, 0, 0] [(25, api_Tag.v a0.Tag)] ?_
        obtain ⟨r14, h15, hM⟩ := bind_some hM
        refine QL.callP [] [] (ether_info_calls a0.Tag _ h15) (fun _ h => h) (by kernel_rfl) (by kernel_rfl) rfl ?_
        obtain ⟨r16, h17, hM⟩ := bind_some hM
        refine QL.callP [] [] (ether_put_calls k r14 2 _ h17) (fun _ h => h) (by kernel_rfl) (by kernel_rfl) rfl ?_
        obtain ⟨t18, h19, hM⟩ := bind_some hM
        refine QL.val (fun _ => run_catS (a := r12) (b := r16) (by kernel_rfl) (by kernel_rfl) h19) (by kernel_rfl) (by kernel_rfl) rfl ?_
        obtain ⟨t20, h21, hM⟩ := bind_some hM
        refine QL.val (fun _ => run_catS (a := t9) (b := t18) (by kernel_rfl) (by kernel_rfl) h21) (by kernel_rfl) (by kernel_rfl) rfl ?_
        refine QL.rn 1 [] [(5, .string t20)] ?_
        refine QL.done ?_
        exact WP.sub [1, 2, 3, 5] (by kernel_rfl) (WP.pick [0] (by kernel_rfl) (by kernel_rfl) (K2 t20 hM))
      · replace hM := cond_f hM c11
        refine WP.skip ?_
        exact WP.sub [1, 2, 3, 5] (by kernel_rfl) (WP.pick [0] (by kernel_rfl) (by kernel_rfl) (K2 t9 hM))

end Go.Proofs.YtbbekdmndifkpaaGreatDoor

namespace Go.Proofs.YtbbekdmndifkpaaGreatDoor
open Go Eng
set_option linter.unusedVariables false
set_option linter.unusedSimpArgs false

/-! ### gangway/gangwaylaw28.bytes: function 19 -/
def gangwaylaw28_bytes.f (k : Nat) (a0 : api_Frame) : Option (ByteArray) :=
  (ether_Build.f k a0).bind fun (r2, r3) =>
  some r2

set_option maxRecDepth 100000 in
theorem gangwaylaw28_bytes_calls (k : Nat) (a0 : api_Frame) (r : ByteArray) (h : gangwaylaw28_bytes.f k a0 = some r) : Pure Tryz.prog Glob 19 #[api_Frame.v a0] (.string r) := by
  intro w Z hS
  refine calls_of (args := [api_Frame.v a0]) (L := [(0, api_Frame.v a0)]) (N := 11) (S := Sat w Z [] [] Glob) Tryz.func19 rfl rfl (Nat.le_of_ble_eq_true rfl) rfl hS ?_
  have hM := h
  clear h hS
  unfold gangwaylaw28_bytes.f at hM
  refine WP.seq ?_
  refine WP.rh [] (fun b1 => [(1, .pointer (some ⟨b1, 0, none⟩)), (2, .string (⟨#[]⟩ : ByteArray))]) (fun b1 => []) (fun b1 => [(b1, api_Frame.o a0)]) (fun b1 => ?_)
  refine WP.seq ?_
  refine WP.region ?_
  refine WL.rn 1 [0, 0, 0, 0, 0, 0, 0, 0] [(6, api_Frame.v a0)] ?_
  obtain ⟨⟨r2, r3⟩, h4, hM⟩ := bind_some hM
  dsimp only at hM
  refine WL.callP [] [] (ether_Build_calls k a0 _ h4) (fun _ h => h) (by kernel_rfl) (by kernel_rfl) rfl ?_
  refine WL.rn 5 [] [(3, .string r2)] ?_
  refine WP.done ?_
  refine WP.kp [false] ?_
  refine WP.seq ?_
  refine WP.rn [] [(2, .string r2)] ?_
  obtain rfl := Option.some.inj hM
  exact WP.ret [] [] (.string r2) (by kernel_rfl) (fun w' hw => ⟨rfl, hw.pick [] rfl⟩)

end Go.Proofs.YtbbekdmndifkpaaGreatDoor

namespace Go.Proofs.YtbbekdmndifkpaaGreatDoor
open Go Eng
set_option linter.unusedVariables false
set_option linter.unusedSimpArgs false

/-! ### gangway/arp.joined: function 76 -/
def arp_joined.l1 (a0 : (List arp_field)) (k : Nat) : Nat → Int → ByteArray → Option (ByteArray)
  | 0, _, _ => none
  | n + 1, x12, x13 =>
    bif decide (x12 < (a0.length : Int)) then
      (getL a0.length a0 x12).bind fun t15 =>
      (octets_Put.f k t15.v t15.n).bind fun (r18, r19) =>
      (bldS x13 r18).bind fun t21 =>
      arp_joined.l1 a0 k n (i64 (x12 + 1)) t21
    else
      some x13

def arp_joined.f (k : Nat) (a0 : (List arp_field)) : Option (ByteArray) :=
  arp_joined.l1 a0 k k 0 (⟨#[]⟩ : ByteArray)

set_option maxRecDepth 100000 in
theorem arp_joined_calls (k : Nat) (A00 : SkL Unit) (a0 : (List arp_field)) (r : ByteArray) (h : arp_joined.f k a0 = some r) : Pure Tryz.prog ([Row 2 (pl arp_field.enc) noK A00 a0] ++ Glob) 76 #[slcV A00 a0.length] (.string r) := by
  intro w Z hS'
  obtain ⟨Z0, hz, hS, hback⟩ := Sat.noT hS'
  refine Calls.mono (R := fun e w' => e = .returned (.string r) ∧ Sat w Z0 [] [] ([Row 2 (pl arp_field.enc) noK A00 a0] ++ Glob) w') ?_ (fun e w' ⟨a, b⟩ => ⟨a, hback w' b⟩)
  refine calls_of (args := [slcV A00 a0.length]) (L := [(0, slcV A00 a0.length)]) (N := 26) (S := Sat w Z0 [] [] ([Row 2 (pl arp_field.enc) noK A00 a0] ++ Glob)) Tryz.func76 rfl rfl (Nat.le_of_ble_eq_true rfl) rfl hS ?_
  have hM := h
  clear h
  unfold arp_joined.f at hM
  refine WP.seq ?_
  refine WP.rn [] [(2, .string (⟨#[]⟩ : ByteArray))] ?_
  refine WP.seq ?_
  refine WP.rh [] (fun b1 => [(3, .pointer (some ⟨b1, 0, none⟩))]) (fun b1 => []) (fun b1 => [(b1, .cells #[.pointer none, .slice none 0 0] 252 (0, 0))]) (fun b1 => ?_)
  refine WP.bldNew (T := 252) (e := 5) hz hS ?_
  refine WP.seq ?_
  refine WP.seq ?_
  refine WP.rn [] [(8, slcV A00 a0.length), (9, .int .i64 (a0.length : Int)), (10, .int .i64 0)] ?_
  refine WP.block ?_
  refine WP.sub [2, 3, 8, 9, 10] (L' := [(2, .string (⟨#[]⟩ : ByteArray)), (3, .pointer (some ⟨b1, 0, none⟩)), (8, slcV A00 a0.length), (9, .int .i64 (a0.length : Int)), (10, .int .i64 0)]) (by kernel_rfl) ?_
  refine WP.lessF [0] (F' := [Row 2 (pl arp_field.enc) noK A00 a0]) (by kernel_rfl) ?_
  refine WP.loop (σ := Int × ByteArray) (fun n st => arp_joined.l1 a0 k n st.1 st.2) r (fun st => [(2, .string (⟨#[]⟩ : ByteArray)), (3, .pointer (some ⟨b1, 0, none⟩)), (8, slcV A00 a0.length), (9, .int .i64 (a0.length : Int)), (10, .int .i64 st.1)]) (fun st => Sat w Z0 [] [Bld 252 5 w.heap.size b1 st.2] ([Row 2 (pl arp_field.enc) noK A00 a0] ++ Glob)) (st := (0, (⟨#[]⟩ : ByteArray))) (fun n st hM => ?_) hM
  rcases n with _ | n
  · exact nomatch (show (none : Option _) = some r from hM)
  obtain ⟨x12, x13⟩ := st
  replace hM : arp_joined.l1 a0 k (n + 1) x12 x13 = some r := hM
  rw [arp_joined.l1] at hM
  show WP _ _ _ _ _ [(2, .string (⟨#[]⟩ : ByteArray)), (3, .pointer (some ⟨b1, 0, none⟩)), (8, slcV A00 a0.length), (9, .int .i64 (a0.length : Int)), (10, .int .i64 x12)] (Sat w Z0 [] [Bld 252 5 w.heap.size b1 x13] ([Row 2 (pl arp_field.enc) noK A00 a0] ++ Glob))
  refine WP.seq ?_
  refine WP.rn [] [(11, .bool (decide (x12 < (a0.length : Int))))] ?_
  refine WP.seq ?_
  refine WP.cond (decide (x12 < (a0.length : Int))) rfl rfl (fun c14 => ?_) (fun c14 => ?_)
  · replace hM := cond_t hM c14
    refine WP.skip ?_
    refine WP.seq ?_
    refine WP.block ?_
    refine WP.seq ?_
    refine WP.region ?_
    obtain ⟨t15, h16, hM⟩ := bind_some hM
    refine WL.valF (φ := Row 2 (pl arp_field.enc) noK A00 a0) (fact_at 0 rfl) (fun w hR => run_indexRowF (A := A00) (xs := a0) (i := x12) (k := .i64) (e := 168) (m := 2) (by kernel_rfl) (by kernel_rfl) h16 (by kernel_rfl) (by kernel_rfl) hR) (by kernel_rfl) (by kernel_rfl) rfl ?_
    refine WL.valF (φ := Row 2 (pl arp_field.enc) noK A00 a0) (fact_at 0 rfl) (fun w hR => run_loadRowFA (A := A00) (xs := a0) (i := x12) (j := 0) (n := 2) (vs := [.int .u64 t15.v, .int .i64 t15.n]) h16 (fun _ => by kernel_rfl) (by kernel_rfl) (by kernel_rfl) (by kernel_rfl) rfl hR) (by kernel_rfl) (by kernel_rfl) rfl ?_
    refine WL.rh 2 [0, 0] (fun b17 => [(5, .pointer (some ⟨b17, 0, none⟩))]) (fun b17 => []) (fun b17 => [(b17, arp_field.o t15)]) (fun b17 => ?_)
    refine WP.done ?_
    refine WP.seq ?_
    refine WP.region ?_
    refine WL.rn 4 [0, 0] [(15, .pointer (some ⟨b17, 0, none⟩)), (16, .int .u64 t15.v), (17, .pointer (some ⟨b17, 1, none⟩)), (18, .int .i64 t15.n)] ?_
    obtain ⟨⟨r18, r19⟩, h20, hM⟩ := bind_some hM
    dsimp only at hM
    refine WL.callP [] [] (octets_Put_calls k t15.v t15.n _ h20) (fun _ h => List.mem_append_right _ h) (by kernel_rfl) (by kernel_rfl) rfl ?_
    refine WL.rn 5 [] [(6, .string r18), (14, .tuple #[.string r18, .int .i64 r19]), (20, .string r18), (21, .int .i64 r19)] ?_
    refine WP.done ?_
    refine WP.region ?_
    refine WL.rn 1 [] [(22, .string r18)] ?_
    refine WL.kp [false] ?_
    obtain ⟨t21, h22, hM⟩ := bind_some hM
    refine WL.bldWrite Bldr.lays166 Bldr.extra hz hS [] [] x13 r18 t21 (by kernel_rfl) h22 (by kernel_rfl) rfl ?_
    refine WP.done ?_
    refine WP.leave ?_
    refine WP.rn [] [(10, .int .i64 (i64 (x12 + 1))), (24, .int .i64 (i64 (x12 + 1)))] ?_
    exact WP.again' [2, 3, 8, 9, 10] (i64 (x12 + 1), t21) hM (by kernel_rfl) (fun _ h => ((h.pick [] (by kernel_rfl)).lessF [0] (by kernel_rfl)).pickG [0] [] 1 rfl (by decide) (by kernel_rfl))
  · replace hM := cond_f hM c14
    refine WP.exit rfl ?_
    refine WP.seq ?_
    refine WP.region ?_
    refine WL.bldString Bldr.lays169 Bldr.extra hz hS [] [] x13 (by kernel_rfl) (by kernel_rfl) rfl ?_
    refine WL.rn 1 [] [(2, .string x13)] ?_
    refine WP.done ?_
    obtain rfl := Option.some.inj hM
    exact WP.ret [] [] (.string x13) (by kernel_rfl) (fun w' hw => ⟨rfl, (hw.pick [] rfl).lessF [0] (by kernel_rfl)⟩)

end Go.Proofs.YtbbekdmndifkpaaGreatDoor

namespace Go.Proofs.YtbbekdmndifkpaaGreatDoor
open Go Eng
set_option linter.unusedVariables false
set_option linter.unusedSimpArgs false

/-! ### gangway/arp.laid: function 41 -/
def arp_laid.f (k : Nat) (a0 : api_Arp) : Option (ByteArray) :=
  (arp_joined.f k ([(arp_field.mk (u64 a0.Op) 2), (arp_field.mk (Int.tmod a0.SMac 281474976710656) 6), (arp_field.mk (u64 a0.SIp) 4), (arp_field.mk (Int.tmod a0.TMac 281474976710656) 6), (arp_field.mk (u64 a0.TIp) 4)] : List arp_field)).bind fun r3 =>
  (catS (⟨#[0, 1, 8, 0, 6, 4]⟩ : ByteArray) r3).bind fun t5 =>
  some t5

set_option maxRecDepth 100000 in
theorem arp_laid_calls (k : Nat) (a0 : api_Arp) (r : ByteArray) (h : arp_laid.f k a0 = some r) : Pure Tryz.prog Glob 41 #[api_Arp.v a0] (.string r) := by
  intro w Z hS
  refine calls_of (args := [api_Arp.v a0]) (L := [(0, api_Arp.v a0)]) (N := 26) (S := Sat w Z [] [] Glob) Tryz.func41 rfl rfl (Nat.le_of_ble_eq_true rfl) rfl hS ?_
  have hM := h
  clear h hS
  unfold arp_laid.f at hM
  refine WP.less (Φ' := [] ++ Glob) (fun _ h => h) ?_
  refine WP.seq ?_
  refine WP.rh [] (fun b1 => [(1, .pointer (some ⟨b1, 0, none⟩)), (2, .string (⟨#[]⟩ : ByteArray))]) (fun b1 => []) (fun b1 => [(b1, api_Arp.o a0)]) (fun b1 => ?_)
  refine WP.seq ?_
  refine WP.region ?_
  refine WL.rh 21 [0, 0, 0, 0, 0] (fun b2 => [(23, .slice (some ⟨b2, 0, none⟩) 5 5)]) (fun b2 => []) (fun b2 => [(b2, .cells #[.int .u64 (u64 a0.Op), .int .i64 2, .int .u64 (Int.tmod a0.SMac 281474976710656), .int .i64 6, .int .u64 (u64 a0.SIp), .int .i64 4, .int .u64 (Int.tmod a0.TMac 281474976710656), .int .i64 6, .int .u64 (u64 a0.TIp), .int .i64 4] 168 (0, 0))]) (fun b2 => ?_)
  refine WL.ice (H' := [(b1, api_Arp.o a0)]) (Row 2 (pl arp_field.enc) noK (SkL.at b2 5 (fun _ => ())) ([(arp_field.mk (u64 a0.Op) 2), (arp_field.mk (Int.tmod a0.SMac 281474976710656) 6), (arp_field.mk (u64 a0.SIp) 4), (arp_field.mk (Int.tmod a0.TMac 281474976710656) 6), (arp_field.mk (u64 a0.TIp) 4)] : List arp_field)) 1 (b := b2) (ob := .cells #[.int .u64 (u64 a0.Op), .int .i64 2, .int .u64 (Int.tmod a0.SMac 281474976710656), .int .i64 6, .int .u64 (u64 a0.SIp), .int .i64 4, .int .u64 (Int.tmod a0.TMac 281474976710656), .int .i64 6, .int .u64 (u64 a0.TIp), .int .i64 4] 168 (0, 0)) (by kernel_rfl) [] [] (by kernel_rfl) (fun w hb hψ => row_of_block hb (fun _ _ => rfl) ⟨[], by kernel_rfl⟩ (Nat.le_of_ble_eq_true rfl) (InK.no _ _)) (by kernel_rfl) ?_
  obtain ⟨r3, h4, hM⟩ := bind_some hM
  refine WL.callP [] [] (arp_joined_calls k (SkL.at b2 5 (fun _ => ())) ([(arp_field.mk (u64 a0.Op) 2), (arp_field.mk (Int.tmod a0.SMac 281474976710656) 6), (arp_field.mk (u64 a0.SIp) 4), (arp_field.mk (Int.tmod a0.TMac 281474976710656) 6), (arp_field.mk (u64 a0.TIp) 4)] : List arp_field) _ h4) (sub_pick [0] (by kernel_rfl)) (by kernel_rfl) (by kernel_rfl) rfl ?_
  obtain ⟨t5, h6, hM⟩ := bind_some hM
  refine WL.val (fun _ => run_catS (a := (⟨#[0, 1, 8, 0, 6, 4]⟩ : ByteArray)) (b := r3) (by kernel_rfl) (by kernel_rfl) h6) (by kernel_rfl) (by kernel_rfl) rfl ?_
  refine WL.rn 1 [] [(2, .string t5)] ?_
  refine WP.done ?_
  refine WP.kp [false] ?_
  obtain rfl := Option.some.inj hM
  exact WP.ret [] [] (.string t5) (by kernel_rfl) (fun w' hw => ⟨rfl, (hw.pick [] rfl).less (fun _ h => List.mem_append_right _ h)⟩)

end Go.Proofs.YtbbekdmndifkpaaGreatDoor

namespace Go.Proofs.YtbbekdmndifkpaaGreatDoor
open Go Eng
set_option linter.unusedVariables false
set_option linter.unusedSimpArgs false

/-! ### gangway/arp.Ask: function 20 -/
def arp_Ask.f (k : Nat) (a0 : Int) (a1 : Int) (a2 : Int) : Option (api_Frame) :=
  (arp_laid.f k (api_Arp.mk 1 a0 a1 0 a2)).bind fun r3 =>
  some (api_Frame.mk 281474976710655 a0 (api_Tag.mk false 0 false 0) 2054 r3)

set_option maxRecDepth 100000 in
theorem arp_Ask_calls (k : Nat) (a0 : Int) (a1 : Int) (a2 : Int) (r : api_Frame) (h : arp_Ask.f k a0 a1 a2 = some r) : Pure Tryz.prog Glob 20 #[.int .u64 a0, .int .u32 a1, .int .u32 a2] (api_Frame.v r) := by
  intro w Z hS
  refine calls_of (args := [.int .u64 a0, .int .u32 a1, .int .u32 a2]) (L := [(0, .int .u64 a0), (1, .int .u32 a1), (2, .int .u32 a2)]) (N := 16) (S := Sat w Z [] [] Glob) Tryz.func20 rfl rfl (Nat.le_of_ble_eq_true rfl) rfl hS ?_
  have hM := h
  clear h hS
  unfold arp_Ask.f at hM
  refine WP.seq ?_
  refine WP.rh [] (fun b1 => [(6, .pointer (some ⟨b1, 0, none⟩))]) (fun b1 => []) (fun b1 => [(b1, .cells #[.int .u64 0, .int .u64 0, .bool false, .int .i64 0, .bool false, .int .i64 0, .int .i64 0, .string (⟨#[]⟩ : ByteArray)] 40 (0, 0))]) (fun b1 => ?_)
  refine WP.seq ?_
  refine WP.rh [1, 1, 1, 1, 1] (fun b2 => [(7, .pointer (some ⟨b2, 0, none⟩))]) (fun b2 => []) (fun b2 => [(b2, .cells #[.int .i64 1, .int .u64 a0, .int .u32 a1, .int .u64 0, .int .u32 a2] 51 (0, 0))]) (fun b2 => ?_)
  refine WP.seq ?_
  refine WP.region ?_
  refine WL.rn 2 [1, 1, 1, 1, 1] [(12, .int .u64 a0), (13, .agg #[.int .i64 1, .int .u64 a0, .int .u32 a1, .int .u64 0, .int .u32 a2])] ?_
  obtain ⟨r3, h4, hM⟩ := bind_some hM
  refine WL.callP [] [] (arp_laid_calls k (api_Arp.mk 1 a0 a1 0 a2) _ h4) (fun _ h => h) (by kernel_rfl) (by kernel_rfl) rfl ?_
  refine WL.rh 2 [0, 0, 0, 0, 0, 0, 0, 0] (fun _ => []) (fun _ => [(0, 0, [.int .u64 281474976710655, .int .u64 a0]), (0, 6, [.int .i64 2054, .string r3])]) (fun _ => []) (fun _ => ?_)
  refine WP.done ?_
  refine WP.kp [true, false] ?_
  obtain rfl := Option.some.inj hM
  exact WP.ret [0, 0, 0, 0, 0, 0, 0, 0] [b1, b1, b1, b1, b1, b1, b1, b1] (.agg #[.int .u64 281474976710655, .int .u64 a0, .bool false, .int .i64 0, .bool false, .int .i64 0, .int .i64 2054, .string r3]) (by kernel_rfl) (fun w' hw => ⟨rfl, hw.pick [] rfl⟩)

end Go.Proofs.YtbbekdmndifkpaaGreatDoor
