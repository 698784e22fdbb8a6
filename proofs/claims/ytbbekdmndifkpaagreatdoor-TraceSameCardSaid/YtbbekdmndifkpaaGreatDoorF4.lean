/- The walks of the functions that the laws reach: each shows that a call returns what its plain model says, wherever the model gives an answer. -/
import Derived.Test.YtbbekdmndifkpaaGreatDoorF1
import Derived.Test.YtbbekdmndifkpaaGreatDoorF3
import Derived.Test.YtbbekdmndifkpaaGreatDoorF2

namespace Go.Proofs.YtbbekdmndifkpaaGreatDoor
set_option maxRecDepth 100000
set_option linter.unusedVariables false
set_option linter.unusedSimpArgs false
open Go Eng
def api_Seg_3.l1 (a0 : (List api_Seg)) : Nat → Int → Int → Option (Int)
 | 0, _, _ => none
 | n + 1, x1, x2 =>
  bif decide (x2 < (a0.length : Int)) then
   (getL a0.length a0 x2).bind fun t4 =>
   (vni_Check_1.f t4.Vid t4.Vni t4.Peers).bind fun r6 =>
   bif r6 then
    some x2
   else
    api_Seg_3.l1 a0 n x1 (i64 (x2 + 1))
  else
   some (-1)
def api_Seg_3.f (k : Nat) (a0 : (List api_Seg)) : Option (Int) :=
 api_Seg_3.l1 a0 k 0 0
theorem api_Seg_3_calls (k : Nat) (A00 : SkL (SkL Unit)) (a0 : (List api_Seg)) (r : Int) (h : api_Seg_3.f k a0 = some r) : Pure Tryz.prog ([Row 3 api_Seg.encS api_Seg.inK A00 a0] ++ Glob) 130 #[slcV A00 a0.length, .func (.func 104) #[] #[]] (.int .i64 r) := by
 intro w Z hS
 refine callsS (args := [slcV A00 a0.length, .func (.func 104) #[] #[]]) (L := [(0, slcV A00 a0.length), (1, .func (.func 104) #[] #[])]) (N := 19) Tryz.func130 hS ?_
 have hM := h
 clear h hS
 unfold api_Seg_3.f at hM
 refine WP.seq (WP.rn [] [(4, .int .i64 0)] ?_)
 refine WP.seq (WP.seq (WP.rn [] [(7, .int .i64 (a0.length : Int)), (8, .int .i64 0)] ?_))
 refine WP.block ?_
 refine WP.sub [0, 1, 4, 7, 8] (L' := [(0, slcV A00 a0.length), (1, .func (.func 104) #[] #[]), (4, .int .i64 0), (7, .int .i64 (a0.length : Int)), (8, .int .i64 0)]) (by kernel_rfl) ?_
 refine WP.lessF [0] (F' := [Row 3 api_Seg.encS api_Seg.inK A00 a0]) (by kernel_rfl) ?_
 refine WP.loop (σ := Int × Int) (fun n st => api_Seg_3.l1 a0 n st.1 st.2) r (fun st => [(0, slcV A00 a0.length), (1, .func (.func 104) #[] #[]), (4, .int .i64 st.1), (7, .int .i64 (a0.length : Int)), (8, .int .i64 st.2)]) (fun st => Sat w Z [] [] ([Row 3 api_Seg.encS api_Seg.inK A00 a0] ++ Glob)) (st := (0, 0)) (fun n st hM => ?_) hM
 rcases n with _ | n
 ·exact nomatch (show (none : Option _) = some r from hM)
 obtain ⟨x1, x2⟩ := st
 replace hM : api_Seg_3.l1 a0 (n + 1) x1 x2 = some r := hM
 rw [api_Seg_3.l1] at hM
 try dsimp only
 refine WP.seq (WP.rn [] [(9, .bool (decide (x2 < (a0.length : Int))))] ?_)
 refine WP.seq ?_
 refine WP.cond (decide (x2 < (a0.length : Int))) rfl rfl (fun c3 => ?_) (fun c3 => ?_)
 ·replace hM := cond_t hM c3
  refine WP.skip (WP.seq (WP.block (WP.seq (WP.rn [] [(5, .int .i64 x2), (10, .int .i64 x2)] ?_))))
  refine WP.seq (WP.region ?_)
  refine WL.rn 3 [] [(11, .func (.func 104) #[] #[]), (12, slcV A00 a0.length), (13, .int .i64 x2)] ?_
  obtain ⟨t4, h5, hM⟩ := bind_some hM
  refine WL.valF (φ := Row 3 api_Seg.encS api_Seg.inK A00 a0) (fact_at 0 rfl) (fun w hR => run_indexRowF (A := A00) (xs := a0) (i := x2) (k := .i64) (e := 93) (m := 3) (by kernel_rfl) (by kernel_rfl) h5 (by kernel_rfl) (by kernel_rfl) hR) (by kernel_rfl) (by kernel_rfl) rfl ?_
  refine WL.valF (φ := Row 3 api_Seg.encS api_Seg.inK A00 a0) (fact_at 0 rfl) (fun w hR => run_loadRowFA (A := A00) (xs := a0) (i := x2) (j := 0) (n := 3) (vs := [.int .i64 t4.Vid, .int .i64 t4.Vni, slcV (A00.s (Int.toNat x2)) t4.Peers.length]) h5 (fun _ => by kernel_rfl) (by kernel_rfl) (by kernel_rfl) (by kernel_rfl) rfl hR) (by kernel_rfl) (by kernel_rfl) rfl ?_
  refine WL.know (Row 1 (pl (encI .u32)) noK (A00.s (Int.toNat x2)) t4.Peers) [0] [Row 3 api_Seg.encS api_Seg.inK A00 a0] (by kernel_rfl) (fun w hψ => ((hψ _ (List.mem_singleton.2 rfl)).inner _ _ (getL_parts h5).2)) ?_
  obtain ⟨r6, h7, hM⟩ := bind_some hM
  refine WL.callP [] [] (vni_Check_1_calls (A00.s (Int.toNat x2)) t4.Vid t4.Vni t4.Peers _ h7) (sub_pick [0] (by kernel_rfl)) (by kernel_rfl) (by kernel_rfl) rfl ?_
  refine WP.done ?_
  refine WP.cond r6 rfl rfl (fun c8 => ?_) (fun c8 => ?_)
  ·replace hM := cond_t hM c8
   refine WP.seq (WP.rn [] [(4, .int .i64 x2), (17, .int .i64 x2)] ?_)
   obtain rfl := Option.some.inj hM
   exact WP.retF [] [] [1]
  ·replace hM := cond_f hM c8
   refine WP.skip (WP.leave (WP.rn [] [(8, .int .i64 (i64 (x2 + 1))), (18, .int .i64 (i64 (x2 + 1)))] ?_))
   exact WP.again' [0, 1, 4, 7, 8] (x1, i64 (x2 + 1)) hM (by kernel_rfl) (fun _ h => (h.pick [] (by kernel_rfl)).lessF [1] (by kernel_rfl))
 ·replace hM := cond_f hM c3
  refine WP.exit rfl (WP.seq (WP.rn [] [(4, .int .i64 (-1))] ?_))
  obtain rfl := Option.some.inj hM
  exact WP.retF [] [] [0]
def api_Seg_2.f (k : Nat) (a0 : (List api_Seg)) : Option (Bool) :=
 (api_Seg_3.f k a0).bind fun r1 =>
 some (decide (r1 ≥ 0))
theorem api_Seg_2_calls (k : Nat) (A00 : SkL (SkL Unit)) (a0 : (List api_Seg)) (r : Bool) (h : api_Seg_2.f k a0 = some r) : Pure Tryz.prog ([Row 3 api_Seg.encS api_Seg.inK A00 a0] ++ Glob) 103 #[slcV A00 a0.length, .func (.func 104) #[] #[]] (.bool r) := by
 intro w Z hS
 refine callsS (args := [slcV A00 a0.length, .func (.func 104) #[] #[]]) (L := [(0, slcV A00 a0.length), (1, .func (.func 104) #[] #[])]) (N := 9) Tryz.func103 hS ?_
 have hM := h
 clear h hS
 unfold api_Seg_2.f at hM
 refine WP.seq (WP.rn [] [(4, .bool false)] ?_)
 refine WP.seq (WP.region ?_)
 refine WL.rn 2 [] [(5, slcV A00 a0.length), (6, .func (.func 104) #[] #[])] ?_
 obtain ⟨r1, h2, hM⟩ := bind_some hM
 refine WL.callP [] [] (api_Seg_3_calls k A00 a0 _ h2) (sub_pick [0] (by kernel_rfl)) (by kernel_rfl) (by kernel_rfl) rfl ?_
 refine WL.rn 2 [] [(4, .bool (decide (r1 ≥ 0)))] ?_
 refine WP.done ?_
 obtain rfl := Option.some.inj hM
 exact WP.retF [] [] [0]
def vni_twice_uint32.l1 (a0 : (List Int)) : Nat → Bool → Int → (MapS Bool) → Option (Bool)
 | 0, _, _, _ => none
 | n + 1, x8, x9, x10 =>
  bif decide (x9 < (a0.length : Int)) then
   (getL a0.length a0 x9).bind fun t12 =>
   bif ((MapS.get x10 t12).getD false) then
    some true
   else
    vni_twice_uint32.l1 a0 n x8 (i64 (x9 + 1)) (MapS.set x10 t12 true)
  else
   some false
def vni_twice_uint32.f (k : Nat) (a0 : (List Int)) : Option (Bool) :=
 vni_twice_uint32.l1 a0 k false 0 (MapS.nil : MapS Bool)
theorem vni_twice_uint32_calls (k : Nat) (A00 : SkL Unit) (a0 : (List Int)) (r : Bool) (h : vni_twice_uint32.f k a0 = some r) : Pure Tryz.prog ([Row 1 (pl (encI .u32)) noK A00 a0] ++ Glob) 139 #[slcV A00 a0.length] (.bool r) := by
 intro w Z hS
 refine callsS (args := [slcV A00 a0.length]) (L := [(0, slcV A00 a0.length)]) (N := 19) Tryz.func139 hS ?_
 have hM := h
 clear h hS
 unfold vni_twice_uint32.f at hM
 refine WP.seq (WP.rn [] [(2, .bool false)] ?_)
 refine WP.seq ?_
 refine WP.rh [] (fun b1 => [(3, .map (some b1))]) (fun b1 => []) (fun b1 => [(b1, .map (mapE .u32 Value.bool (MapS.nil : MapS Bool)) (MapS.nil : MapS Bool).c)]) (fun b1 => ?_)
 refine WP.seq (WP.seq (WP.rn [] [(7, slcV A00 a0.length), (8, .int .i64 (a0.length : Int)), (9, .int .i64 0)] ?_))
 refine WP.block (WP.sub [2, 3, 7, 8, 9] (L' := [(2, .bool false), (3, .map (some b1)), (7, slcV A00 a0.length), (8, .int .i64 (a0.length : Int)), (9, .int .i64 0)]) (by kernel_rfl) ?_)
 refine WP.lessF [0] (F' := [Row 1 (pl (encI .u32)) noK A00 a0]) (by kernel_rfl) ?_
 refine WP.loop (σ := Bool × Int × (MapS Bool)) (fun n st => vni_twice_uint32.l1 a0 n st.1 st.2.1 st.2.2) r (fun st => [(2, .bool st.1), (3, .map (some b1)), (7, slcV A00 a0.length), (8, .int .i64 (a0.length : Int)), (9, .int .i64 st.2.1)]) (fun st => Sat w Z [(b1, .map (mapE .u32 Value.bool st.2.2) st.2.2.c)] [] ([Row 1 (pl (encI .u32)) noK A00 a0] ++ Glob)) (st := (false, 0, (MapS.nil : MapS Bool))) (fun n st hM => ?_) hM
 rcases n with _ | n
 ·exact nomatch (show (none : Option _) = some r from hM)
 obtain ⟨x8, x9, x10⟩ := st
 replace hM : vni_twice_uint32.l1 a0 (n + 1) x8 x9 x10 = some r := hM
 rw [vni_twice_uint32.l1] at hM
 try dsimp only
 refine WP.seq (WP.rn [] [(10, .bool (decide (x9 < (a0.length : Int))))] ?_)
 refine WP.seq ?_
 refine WP.cond (decide (x9 < (a0.length : Int))) rfl rfl (fun c11 => ?_) (fun c11 => ?_)
 ·replace hM := cond_t hM c11
  refine WP.skip (WP.seq (WP.block (WP.seq (WP.region ?_))))
  obtain ⟨t12, h13, hM⟩ := bind_some hM
  refine WL.valF (φ := Row 1 (pl (encI .u32)) noK A00 a0) (fact_at 0 rfl) (fun w hR => run_indexRowF (A := A00) (xs := a0) (i := x9) (k := .i64) (e := 49) (m := 1) (by kernel_rfl) (by kernel_rfl) h13 (by kernel_rfl) (by kernel_rfl) hR) (by kernel_rfl) (by kernel_rfl) rfl ?_
  refine WL.valF (φ := Row 1 (pl (encI .u32)) noK A00 a0) (fact_at 0 rfl) (fun w hR => run_loadRowF (A := A00) (xs := a0) (i := x9) (j := 0) (v := .int .u32 t12) h13 (fun _ => by kernel_rfl) (by kernel_rfl) (by kernel_rfl) hR) (by kernel_rfl) (by kernel_rfl) rfl ?_
  refine WL.rn 1 [] [(5, .int .u32 t12)] ?_
  refine WP.done (WP.seq (WP.seq (WP.region (WL.rn 2 [] [(13, .map (some b1)), (14, .int .u32 t12)] ?_))))
  refine WL.mapGet (kt := 49) (et := 4) (kk := .u32) (f := Value.bool) (m := x10) (b := b1) (k := t12) 0 false (by kernel_rfl) (by kernel_rfl) (fun _ => by kernel_rfl) (by kernel_rfl) (by kernel_rfl) (by kernel_rfl) (by kernel_rfl) (by kernel_rfl) rfl ?_
  refine WP.done ?_
  refine WP.cond ((MapS.get x10 t12).getD false) rfl rfl (fun c14 => ?_) (fun c14 => ?_)
  ·replace hM := cond_t hM c14
   refine WP.seq (WP.rn [] [(2, .bool true)] ?_)
   obtain rfl := Option.some.inj hM
   exact WP.retF [] [] [0]
  ·replace hM := cond_f hM c14
   refine WP.skip (WP.region (WL.rn 2 [] [(16, .map (some b1)), (17, .int .u32 t12)] ?_))
   refine WL.mapSet (kt := 49) (et := 4) (kk := .u32) (f := Value.bool) (m := x10) (b := b1) (k := t12) 0 true (by kernel_rfl) (by kernel_rfl) (by kernel_rfl) (by kernel_rfl) (by kernel_rfl) (by kernel_rfl) (by kernel_rfl) (by kernel_rfl) ?_
   refine WP.done (WP.leave (WP.rn [] [(9, .int .i64 (i64 (x9 + 1))), (18, .int .i64 (i64 (x9 + 1)))] ?_))
   exact WP.again' [2, 3, 7, 8, 9] (x8, i64 (x9 + 1), (MapS.set x10 t12 true)) hM (by kernel_rfl) (fun _ h => (h.pick [0] (by kernel_rfl)).lessF [0] (by kernel_rfl))
 ·replace hM := cond_f hM c11
  refine WP.exit rfl (WP.seq (WP.rn [] [(2, .bool false)] ?_))
  refine WP.kp [false] ?_
  obtain rfl := Option.some.inj hM
  exact WP.retF [] [] [0]
def slices_Index_uint32_uint32.l1 (a0 : (List Int)) (a1 : Int) : Nat → Int → Int → Option (Int)
 | 0, _, _ => none
 | n + 1, x1, x2 =>
  bif decide (x2 < (a0.length : Int)) then
   (getL a0.length a0 x2).bind fun t4 =>
   bif (a1 == t4) then
    some x2
   else
    slices_Index_uint32_uint32.l1 a0 a1 n x1 (i64 (x2 + 1))
  else
   some (-1)
def slices_Index_uint32_uint32.f (k : Nat) (a0 : (List Int)) (a1 : Int) : Option (Int) :=
 slices_Index_uint32_uint32.l1 a0 a1 k 0 0
theorem slices_Index_uint32_uint32_calls (k : Nat) (A00 : SkL Unit) (a0 : (List Int)) (a1 : Int) (r : Int) (h : slices_Index_uint32_uint32.f k a0 a1 = some r) : Pure Tryz.prog ([Row 1 (pl (encI .u32)) noK A00 a0] ++ Glob) 151 #[slcV A00 a0.length, .int .u32 a1] (.int .i64 r) := by
 intro w Z hS
 refine callsS (args := [slcV A00 a0.length, .int .u32 a1]) (L := [(0, slcV A00 a0.length), (1, .int .u32 a1)]) (N := 19) Tryz.func151 hS ?_
 have hM := h
 clear h hS
 unfold slices_Index_uint32_uint32.f at hM
 refine WP.seq (WP.rn [] [(4, .int .i64 0)] ?_)
 refine WP.seq (WP.seq (WP.rn [] [(7, .int .i64 (a0.length : Int)), (8, .int .i64 0)] ?_))
 refine WP.block (WP.sub [0, 1, 4, 7, 8] (L' := [(0, slcV A00 a0.length), (1, .int .u32 a1), (4, .int .i64 0), (7, .int .i64 (a0.length : Int)), (8, .int .i64 0)]) (by kernel_rfl) ?_)
 refine WP.lessF [0] (F' := [Row 1 (pl (encI .u32)) noK A00 a0]) (by kernel_rfl) ?_
 refine WP.loop (σ := Int × Int) (fun n st => slices_Index_uint32_uint32.l1 a0 a1 n st.1 st.2) r (fun st => [(0, slcV A00 a0.length), (1, .int .u32 a1), (4, .int .i64 st.1), (7, .int .i64 (a0.length : Int)), (8, .int .i64 st.2)]) (fun st => Sat w Z [] [] ([Row 1 (pl (encI .u32)) noK A00 a0] ++ Glob)) (st := (0, 0)) (fun n st hM => ?_) hM
 rcases n with _ | n
 ·exact nomatch (show (none : Option _) = some r from hM)
 obtain ⟨x1, x2⟩ := st
 replace hM : slices_Index_uint32_uint32.l1 a0 a1 (n + 1) x1 x2 = some r := hM
 rw [slices_Index_uint32_uint32.l1] at hM
 try dsimp only
 refine WP.seq (WP.rn [] [(9, .bool (decide (x2 < (a0.length : Int))))] ?_)
 refine WP.seq ?_
 refine WP.cond (decide (x2 < (a0.length : Int))) rfl rfl (fun c3 => ?_) (fun c3 => ?_)
 ·replace hM := cond_t hM c3
  refine WP.skip (WP.seq (WP.block (WP.seq (WP.rn [] [(5, .int .i64 x2), (10, .int .i64 x2)] ?_))))
  refine WP.seq (WP.region (WL.rn 3 [] [(11, .int .u32 a1), (12, slcV A00 a0.length), (13, .int .i64 x2)] ?_))
  obtain ⟨t4, h5, hM⟩ := bind_some hM
  refine WL.valF (φ := Row 1 (pl (encI .u32)) noK A00 a0) (fact_at 0 rfl) (fun w hR => run_indexRowF (A := A00) (xs := a0) (i := x2) (k := .i64) (e := 49) (m := 1) (by kernel_rfl) (by kernel_rfl) h5 (by kernel_rfl) (by kernel_rfl) hR) (by kernel_rfl) (by kernel_rfl) rfl ?_
  refine WL.valF (φ := Row 1 (pl (encI .u32)) noK A00 a0) (fact_at 0 rfl) (fun w hR => run_loadRowF (A := A00) (xs := a0) (i := x2) (j := 0) (v := .int .u32 t4) h5 (fun _ => by kernel_rfl) (by kernel_rfl) (by kernel_rfl) hR) (by kernel_rfl) (by kernel_rfl) rfl ?_
  refine WL.rn 1 [] [(16, .bool (a1 == t4))] ?_
  refine WP.done ?_
  refine WP.cond (a1 == t4) rfl rfl (fun c6 => ?_) (fun c6 => ?_)
  ·replace hM := cond_t hM c6
   refine WP.seq (WP.rn [] [(4, .int .i64 x2), (17, .int .i64 x2)] ?_)
   obtain rfl := Option.some.inj hM
   exact WP.retF [] [] [0]
  ·replace hM := cond_f hM c6
   refine WP.skip (WP.leave (WP.rn [] [(8, .int .i64 (i64 (x2 + 1))), (18, .int .i64 (i64 (x2 + 1)))] ?_))
   exact WP.again' [0, 1, 4, 7, 8] (x1, i64 (x2 + 1)) hM (by kernel_rfl) (fun _ h => (h.pick [] (by kernel_rfl)).lessF [0] (by kernel_rfl))
 ·replace hM := cond_f hM c3
  refine WP.exit rfl (WP.seq (WP.rn [] [(4, .int .i64 (-1))] ?_))
  obtain rfl := Option.some.inj hM
  exact WP.retF [] [] [0]
def slices_Contains_uint32_uint32.f (k : Nat) (a0 : (List Int)) (a1 : Int) : Option (Bool) :=
 (slices_Index_uint32_uint32.f k a0 a1).bind fun r1 =>
 some (decide (r1 ≥ 0))
theorem slices_Contains_uint32_uint32_calls (k : Nat) (A00 : SkL Unit) (a0 : (List Int)) (a1 : Int) (r : Bool) (h : slices_Contains_uint32_uint32.f k a0 a1 = some r) : Pure Tryz.prog ([Row 1 (pl (encI .u32)) noK A00 a0] ++ Glob) 140 #[slcV A00 a0.length, .int .u32 a1] (.bool r) := by
 intro w Z hS
 refine callsS (args := [slcV A00 a0.length, .int .u32 a1]) (L := [(0, slcV A00 a0.length), (1, .int .u32 a1)]) (N := 9) Tryz.func140 hS ?_
 have hM := h
 clear h hS
 unfold slices_Contains_uint32_uint32.f at hM
 refine WP.seq (WP.rn [] [(4, .bool false)] ?_)
 refine WP.seq (WP.region (WL.rn 2 [] [(5, slcV A00 a0.length), (6, .int .u32 a1)] ?_))
 obtain ⟨r1, h2, hM⟩ := bind_some hM
 refine WL.callP [] [] (slices_Index_uint32_uint32_calls k A00 a0 a1 _ h2) (sub_pick [0] (by kernel_rfl)) (by kernel_rfl) (by kernel_rfl) rfl ?_
 refine WL.rn 2 [] [(4, .bool (decide (r1 ≥ 0)))] ?_
 refine WP.done ?_
 obtain rfl := Option.some.inj hM
 exact WP.retF [] [] [0]
def vni_right.k1 (x13 : Bool) : Option (Bool) :=
 some x13
def vni_right.k2 (k : Nat) (a1_2 : (List Int)) (a0 : Int) (x9 : Bool) : Option (Bool) :=
 bif x9 then
  (slices_Contains_uint32_uint32.f k a1_2 a0).bind fun r11 =>
  vni_right.k1 (!r11)
 else
  vni_right.k1 false
def vni_right.k3 (k : Nat) (a1_2 : (List Int)) (a0 : Int) (x5 : Bool) : Option (Bool) :=
 bif x5 then
  (slices_Contains_uint32_uint32.f k a1_2 0).bind fun r7 =>
  vni_right.k2 k a1_2 a0 (!r7)
 else
  vni_right.k2 k a1_2 a0 false
def vni_right.f (k : Nat) (a0 : Int) (a1 : Int) (a1_1 : Int) (a1_2 : (List Int)) : Option (Bool) :=
 bif ((((decide (a1 ≥ 1)) && (decide (a1 ≤ 4094))) && (decide (a1_1 ≥ 0))) && (decide (a1_1 ≤ 16777215))) then
  (vni_twice_uint32.f k a1_2).bind fun r3 =>
  vni_right.k3 k a1_2 a0 (!r3)
 else
  vni_right.k3 k a1_2 a0 false
theorem vni_right_calls (k : Nat) (A00 : SkL Unit) (a0 : Int) (a1 : Int) (a1_1 : Int) (a1_2 : (List Int)) (r : Bool) (h : vni_right.f k a0 a1 a1_1 a1_2 = some r) : Pure Tryz.prog ([Row 1 (pl (encI .u32)) noK A00 a1_2] ++ Glob) 105 #[.int .u32 a0, .agg #[.int .i64 a1, .int .i64 a1_1, slcV A00 a1_2.length]] (.bool r) := by
 intro w Z hS
 refine callsS (args := [.int .u32 a0, .agg #[.int .i64 a1, .int .i64 a1_1, slcV A00 a1_2.length]]) (L := [(0, .int .u32 a0), (1, .agg #[.int .i64 a1, .int .i64 a1_1, slcV A00 a1_2.length])]) (N := 42) Tryz.func105 hS ?_
 have hM := h
 clear h hS
 unfold vni_right.f at hM
 refine WP.seq ?_
 refine WP.rh [] (fun b1 => [(3, .pointer (some ⟨b1, 0, none⟩)), (4, .bool false)]) (fun b1 => []) (fun b1 => [(b1, .cells #[.int .i64 a1, .int .i64 a1_1, slcV A00 a1_2.length] 93 (0, 0))]) (fun b1 => ?_)
 refine WP.seq (WP.region (WL.rn 4 [0] [(8, .bool (decide (a1 ≥ 1)))] ?_))
 refine WL.bo 8 (decide (a1 ≥ 1)) 4 [0] [] (fun b' => [(12, .bool (b' && (decide (a1 ≤ 4094))))]) ?_
 refine WL.rn 1 [] [(13, .bool ((decide (a1 ≥ 1)) && (decide (a1 ≤ 4094))))] ?_
 refine WL.bo 13 ((decide (a1 ≥ 1)) && (decide (a1 ≤ 4094))) 4 [0] [] (fun b' => [(17, .bool (b' && (decide (a1_1 ≥ 0))))]) ?_
 refine WL.rn 1 [] [(18, .bool (((decide (a1 ≥ 1)) && (decide (a1 ≤ 4094))) && (decide (a1_1 ≥ 0))))] ?_
 refine WL.bo 18 (((decide (a1 ≥ 1)) && (decide (a1 ≤ 4094))) && (decide (a1_1 ≥ 0))) 4 [0] [] (fun b' => [(22, .bool (b' && (decide (a1_1 ≤ 16777215))))]) ?_
 refine WL.rn 1 [] [(23, .bool ((((decide (a1 ≥ 1)) && (decide (a1 ≤ 4094))) && (decide (a1_1 ≥ 0))) && (decide (a1_1 ≤ 16777215))))] ?_
 refine WL.join (σ := Bool) 5 (fun st => vni_right.k3 k a1_2 a0 st = some r) (fun st => [(0, .int .u32 a0), (3, .pointer (some ⟨b1, 0, none⟩)), (4, .bool false), (28, .bool st)]) (fun st => Sat w Z [(b1, .cells #[.int .i64 a1, .int .i64 a1_1, slcV A00 a1_2.length] 93 (0, 0))] [] ([Row 1 (pl (encI .u32)) noK A00 a1_2] ++ Glob)) (fun st hM => ?_) (fun K3 => ?_)
 ·
  obtain ⟨x5, rfl⟩ : ∃ y, y = st := ⟨st, rfl⟩
  replace hM : vni_right.k3 k a1_2 a0 x5 = some r := hM
  unfold vni_right.k3 at hM
  try dsimp only
  refine WL.rn 1 [] [(29, .bool x5)] ?_
  refine WL.join (σ := Bool) 5 (fun st => vni_right.k2 k a1_2 a0 st = some r) (fun st => [(0, .int .u32 a0), (3, .pointer (some ⟨b1, 0, none⟩)), (4, .bool false), (34, .bool st)]) (fun st => Sat w Z [(b1, .cells #[.int .i64 a1, .int .i64 a1_1, slcV A00 a1_2.length] 93 (0, 0))] [] ([Row 1 (pl (encI .u32)) noK A00 a1_2] ++ Glob)) (fun st hM => ?_) (fun K2 => ?_)
  ·
   obtain ⟨x9, rfl⟩ : ∃ y, y = st := ⟨st, rfl⟩
   replace hM : vni_right.k2 k a1_2 a0 x9 = some r := hM
   unfold vni_right.k2 at hM
   try dsimp only
   refine WL.rn 1 [] [(35, .bool x9)] ?_
   refine WL.join (σ := Bool) 6 (fun st => vni_right.k1 st = some r) (fun st => [(4, .bool false), (41, .bool st)]) (fun st => Sat w Z [] [] ([Row 1 (pl (encI .u32)) noK A00 a1_2] ++ Glob)) (fun st hM => ?_) (fun K1 => ?_)
   ·
    obtain ⟨x13, rfl⟩ : ∃ y, y = st := ⟨st, rfl⟩
    replace hM : vni_right.k1 x13 = some r := hM
    unfold vni_right.k1 at hM
    try dsimp only
    refine WL.rn 1 [] [(4, .bool x13)] ?_
    refine WP.done ?_
    obtain rfl := Option.some.inj hM
    exact WP.retF [] [] [0]
   ·
    refine WL.sp 35 x9 (fun c10 => ?_) (fun c10 => ?_)
    ·replace hM := cond_t hM c10
     refine WL.rn 3 [0] [(37, slcV A00 a1_2.length), (38, .int .u32 a0)] ?_
     obtain ⟨r11, h12, hM⟩ := bind_some hM
     refine WL.callP [] [] (slices_Contains_uint32_uint32_calls k A00 a1_2 a0 _ h12) (sub_pick [0] (by kernel_rfl)) (by kernel_rfl) (by kernel_rfl) rfl ?_
     refine WL.rn 2 [] [(41, .bool (!r11))] ?_
     exact WL.sub [4, 41] (by kernel_rfl) (WL.pick [] (by kernel_rfl) (by kernel_rfl) (WL.lessF [0] (by kernel_rfl) (K1 (!r11) hM)))
    ·replace hM := cond_f hM c10
     refine WL.rn 6 [] [(41, .bool false)] ?_
     exact WL.sub [4, 41] (by kernel_rfl) (WL.pick [] (by kernel_rfl) (by kernel_rfl) (WL.lessF [0] (by kernel_rfl) (K1 false hM)))
  ·
   refine WL.sp 29 x5 (fun c6 => ?_) (fun c6 => ?_)
   ·replace hM := cond_t hM c6
    refine WL.rn 2 [0] [(31, slcV A00 a1_2.length)] ?_
    obtain ⟨r7, h8, hM⟩ := bind_some hM
    refine WL.callP [] [] (slices_Contains_uint32_uint32_calls k A00 a1_2 0 _ h8) (sub_pick [0] (by kernel_rfl)) (by kernel_rfl) (by kernel_rfl) rfl ?_
    refine WL.rn 2 [] [(34, .bool (!r7))] ?_
    exact WL.sub [0, 3, 4, 34] (by kernel_rfl) (WL.pick [0] (by kernel_rfl) (by kernel_rfl) (WL.lessF [0] (by kernel_rfl) (K2 (!r7) hM)))
   ·replace hM := cond_f hM c6
    refine WL.rn 5 [] [(34, .bool false)] ?_
    exact WL.sub [0, 3, 4, 34] (by kernel_rfl) (WL.pick [0] (by kernel_rfl) (by kernel_rfl) (WL.lessF [0] (by kernel_rfl) (K2 false hM)))
 ·
  refine WL.sp 23 ((((decide (a1 ≥ 1)) && (decide (a1 ≤ 4094))) && (decide (a1_1 ≥ 0))) && (decide (a1_1 ≤ 16777215))) (fun c2 => ?_) (fun c2 => ?_)
  ·replace hM := cond_t hM c2
   refine WL.rn 2 [0] [(25, slcV A00 a1_2.length)] ?_
   obtain ⟨r3, h4, hM⟩ := bind_some hM
   refine WL.callP [] [] (vni_twice_uint32_calls k A00 a1_2 _ h4) (sub_pick [0] (by kernel_rfl)) (by kernel_rfl) (by kernel_rfl) rfl ?_
   refine WL.rn 2 [] [(28, .bool (!r3))] ?_
   exact WL.sub [0, 3, 4, 28] (by kernel_rfl) (WL.pick [0] (by kernel_rfl) (by kernel_rfl) (WL.lessF [0] (by kernel_rfl) (K3 (!r3) hM)))
  ·replace hM := cond_f hM c2
   refine WL.rn 5 [] [(28, .bool false)] ?_
   exact WL.sub [0, 3, 4, 28] (by kernel_rfl) (WL.pick [0] (by kernel_rfl) (by kernel_rfl) (WL.lessF [0] (by kernel_rfl) (K3 false hM)))
def vni_twice_int.l1 (a0 : (List Int)) : Nat → Bool → Int → (MapS Bool) → Option (Bool)
 | 0, _, _, _ => none
 | n + 1, x8, x9, x10 =>
  bif decide (x9 < (a0.length : Int)) then
   (getL a0.length a0 x9).bind fun t12 =>
   bif ((MapS.get x10 t12).getD false) then
    some true
   else
    vni_twice_int.l1 a0 n x8 (i64 (x9 + 1)) (MapS.set x10 t12 true)
  else
   some false
def vni_twice_int.f (k : Nat) (a0 : (List Int)) : Option (Bool) :=
 vni_twice_int.l1 a0 k false 0 (MapS.nil : MapS Bool)
theorem vni_twice_int_calls (k : Nat) (A00 : SkL Unit) (a0 : (List Int)) (r : Bool) (h : vni_twice_int.f k a0 = some r) : Pure Tryz.prog ([Row 1 (pl (encI .i64)) noK A00 a0] ++ Glob) 106 #[slcV A00 a0.length] (.bool r) := by
 intro w Z hS
 refine callsS (args := [slcV A00 a0.length]) (L := [(0, slcV A00 a0.length)]) (N := 19) Tryz.func106 hS ?_
 have hM := h
 clear h hS
 unfold vni_twice_int.f at hM
 refine WP.seq (WP.rn [] [(2, .bool false)] ?_)
 refine WP.seq ?_
 refine WP.rh [] (fun b1 => [(3, .map (some b1))]) (fun b1 => []) (fun b1 => [(b1, .map (mapE .i64 Value.bool (MapS.nil : MapS Bool)) (MapS.nil : MapS Bool).c)]) (fun b1 => ?_)
 refine WP.seq (WP.seq (WP.rn [] [(7, slcV A00 a0.length), (8, .int .i64 (a0.length : Int)), (9, .int .i64 0)] ?_))
 refine WP.block (WP.sub [2, 3, 7, 8, 9] (L' := [(2, .bool false), (3, .map (some b1)), (7, slcV A00 a0.length), (8, .int .i64 (a0.length : Int)), (9, .int .i64 0)]) (by kernel_rfl) ?_)
 refine WP.lessF [0] (F' := [Row 1 (pl (encI .i64)) noK A00 a0]) (by kernel_rfl) ?_
 refine WP.loop (σ := Bool × Int × (MapS Bool)) (fun n st => vni_twice_int.l1 a0 n st.1 st.2.1 st.2.2) r (fun st => [(2, .bool st.1), (3, .map (some b1)), (7, slcV A00 a0.length), (8, .int .i64 (a0.length : Int)), (9, .int .i64 st.2.1)]) (fun st => Sat w Z [(b1, .map (mapE .i64 Value.bool st.2.2) st.2.2.c)] [] ([Row 1 (pl (encI .i64)) noK A00 a0] ++ Glob)) (st := (false, 0, (MapS.nil : MapS Bool))) (fun n st hM => ?_) hM
 rcases n with _ | n
 ·exact nomatch (show (none : Option _) = some r from hM)
 obtain ⟨x8, x9, x10⟩ := st
 replace hM : vni_twice_int.l1 a0 (n + 1) x8 x9 x10 = some r := hM
 rw [vni_twice_int.l1] at hM
 try dsimp only
 refine WP.seq (WP.rn [] [(10, .bool (decide (x9 < (a0.length : Int))))] ?_)
 refine WP.seq ?_
 refine WP.cond (decide (x9 < (a0.length : Int))) rfl rfl (fun c11 => ?_) (fun c11 => ?_)
 ·replace hM := cond_t hM c11
  refine WP.skip (WP.seq (WP.block (WP.seq (WP.region ?_))))
  obtain ⟨t12, h13, hM⟩ := bind_some hM
  refine WL.valF (φ := Row 1 (pl (encI .i64)) noK A00 a0) (fact_at 0 rfl) (fun w hR => run_indexRowF (A := A00) (xs := a0) (i := x9) (k := .i64) (e := 3) (m := 1) (by kernel_rfl) (by kernel_rfl) h13 (by kernel_rfl) (by kernel_rfl) hR) (by kernel_rfl) (by kernel_rfl) rfl ?_
  refine WL.valF (φ := Row 1 (pl (encI .i64)) noK A00 a0) (fact_at 0 rfl) (fun w hR => run_loadRowF (A := A00) (xs := a0) (i := x9) (j := 0) (v := .int .i64 t12) h13 (fun _ => by kernel_rfl) (by kernel_rfl) (by kernel_rfl) hR) (by kernel_rfl) (by kernel_rfl) rfl ?_
  refine WL.rn 1 [] [(5, .int .i64 t12)] ?_
  refine WP.done (WP.seq (WP.seq (WP.region (WL.rn 2 [] [(13, .map (some b1)), (14, .int .i64 t12)] ?_))))
  refine WL.mapGet (kt := 3) (et := 4) (kk := .i64) (f := Value.bool) (m := x10) (b := b1) (k := t12) 0 false (by kernel_rfl) (by kernel_rfl) (fun _ => by kernel_rfl) (by kernel_rfl) (by kernel_rfl) (by kernel_rfl) (by kernel_rfl) (by kernel_rfl) rfl ?_
  refine WP.done ?_
  refine WP.cond ((MapS.get x10 t12).getD false) rfl rfl (fun c14 => ?_) (fun c14 => ?_)
  ·replace hM := cond_t hM c14
   refine WP.seq (WP.rn [] [(2, .bool true)] ?_)
   obtain rfl := Option.some.inj hM
   exact WP.retF [] [] [0]
  ·replace hM := cond_f hM c14
   refine WP.skip (WP.region (WL.rn 2 [] [(16, .map (some b1)), (17, .int .i64 t12)] ?_))
   refine WL.mapSet (kt := 3) (et := 4) (kk := .i64) (f := Value.bool) (m := x10) (b := b1) (k := t12) 0 true (by kernel_rfl) (by kernel_rfl) (by kernel_rfl) (by kernel_rfl) (by kernel_rfl) (by kernel_rfl) (by kernel_rfl) (by kernel_rfl) ?_
   refine WP.done (WP.leave (WP.rn [] [(9, .int .i64 (i64 (x9 + 1))), (18, .int .i64 (i64 (x9 + 1)))] ?_))
   exact WP.again' [2, 3, 7, 8, 9] (x8, i64 (x9 + 1), (MapS.set x10 t12 true)) hM (by kernel_rfl) (fun _ h => (h.pick [0] (by kernel_rfl)).lessF [0] (by kernel_rfl))
 ·replace hM := cond_f hM c11
  refine WP.exit rfl (WP.seq (WP.rn [] [(2, .bool false)] ?_))
  refine WP.kp [false] ?_
  obtain rfl := Option.some.inj hM
  exact WP.retF [] [] [0]
def vni_Check.k2 (x6 : (List Int)) (t13 : api_Seg) (x8 : (List Int)) (x11 : Int) (rec_l3 : (List Int) → (List Int) → Bool → Int → Option (Int)) (x27 : Bool) (x28 : Bool) : Option (Int) :=
 rec_l3 (x6 ++ ([t13.Vid] : List Int)) (x8 ++ ([t13.Vni] : List Int)) x28 (i64 (x11 + 1))
def vni_Check.k4 (x36 : Bool) : Option (Int) :=
 bif x36 then
  some 210
 else
  some 0
def vni_Check.k5 (k : Nat) (x8 : (List Int)) (x32 : Bool) : Option (Int) :=
 bif x32 then
  vni_Check.k4 true
 else
  (vni_twice_int.f k x8).bind fun r34 =>
  vni_Check.k4 r34
def vni_Check.l3 (a1 : (List api_Seg)) (k : Nat) (a0 : Int) : Nat → (List Int) → (List Int) → Bool → Int → Option (Int)
 | 0, _, _, _, _ => none
 | n + 1, x6, x8, x10, x11 =>
  bif decide (x11 < (a1.length : Int)) then
   (getL a1.length a1 x11).bind fun t13 =>
   (roomL 8 (x6 ++ ([t13.Vid] : List Int)).length).bind fun u18 =>
   (roomL 8 (x8 ++ ([t13.Vni] : List Int)).length).bind fun u22 =>
   bif x10 then
    (vni_right.f k a0 t13.Vid t13.Vni t13.Peers).bind fun r25 =>
    vni_Check.k2 x6 t13 x8 x11 (vni_Check.l3 a1 k a0 n) true r25
   else
    vni_Check.k2 x6 t13 x8 x11 (vni_Check.l3 a1 k a0 n) false false
  else
   bif !x10 then
    vni_Check.k5 k x8 true
   else
    (vni_twice_int.f k x6).bind fun r30 =>
    vni_Check.k5 k x8 r30
def vni_Check.k1 (a1 : (List api_Seg)) (k : Nat) (a0 : Int) (x4 : Bool) : Option (Int) :=
 bif x4 then
  some 2
 else
  vni_Check.l3 a1 k a0 k ([] : List Int) ([] : List Int) (a0 != 0) 0
def vni_Check.f (k : Nat) (a0 : Int) (a1 : (List api_Seg)) : Option (Int) :=
 bif decide ((a1.length : Int) > 256) then
  vni_Check.k1 a1 k a0 true
 else
  (api_Seg_2.f k a1).bind fun r2 =>
  vni_Check.k1 a1 k a0 r2
theorem vni_Check_calls (k : Nat) (A00 : SkL (SkL Unit)) (a0 : Int) (a1 : (List api_Seg)) (r : Int) (h : vni_Check.f k a0 a1 = some r) : Pure Tryz.prog ([Row 3 api_Seg.encS api_Seg.inK A00 a1] ++ Glob) 58 #[.int .u32 a0, slcV A00 a1.length] (.int .i64 r) := by
 intro w Z hS
 refine callsS (args := [.int .u32 a0, slcV A00 a1.length]) (L := [(0, .int .u32 a0), (1, slcV A00 a1.length)]) (N := 52) Tryz.func58 hS ?_
 have hM := h
 clear h hS
 unfold vni_Check.f at hM
 refine WP.seq (WP.rn [] [(4, .int .i64 0)] ?_)
 refine WP.seq (WP.seq (WP.region (WL.rn 4 [] [(13, .bool (decide ((a1.length : Int) > 256)))] ?_)))
 refine WL.join (σ := Bool) 3 (fun st => vni_Check.k1 a1 k a0 st = some r) (fun st => [(0, .int .u32 a0), (1, slcV A00 a1.length), (4, .int .i64 0), (16, .bool st)]) (fun st => Sat w Z [] [] ([Row 3 api_Seg.encS api_Seg.inK A00 a1] ++ Glob)) (fun st hM => ?_) (fun K1 => ?_)
 ·
  obtain ⟨x4, rfl⟩ : ∃ y, y = st := ⟨st, rfl⟩
  replace hM : vni_Check.k1 a1 k a0 x4 = some r := hM
  unfold vni_Check.k1 at hM
  try dsimp only
  refine WP.done ?_
  refine WP.cond x4 rfl rfl (fun c5 => ?_) (fun c5 => ?_)
  ·replace hM := cond_t hM c5
   refine WP.seq (WP.rn [] [(4, .int .i64 2)] ?_)
   obtain rfl := Option.some.inj hM
   exact WP.retF [] [] [0]
  ·replace hM := cond_f hM c5
   refine WP.skip (WP.seq (WP.rn [] [(5, .slice none 0 0), (6, .slice none 0 0)] ?_))
   refine WP.seq (WP.rn [] [(7, .bool (a0 != 0))] ?_)
   refine WP.seq (WP.seq (WP.rn [] [(19, slcV A00 a1.length), (20, .int .i64 (a1.length : Int)), (21, .int .i64 0)] ?_))
   refine WP.block ?_
   refine WP.growNil 1 3 (pl (encI .i64)) noK (fun _ => ()) ?_
   refine WP.growNil 1 3 (pl (encI .i64)) noK (fun _ => ()) ?_
   refine WP.sub [0, 4, 5, 6, 7, 19, 20, 21] (L' := [(0, .int .u32 a0), (4, .int .i64 0), (5, slcV (SkL.nil (fun _ => ())) ([] : List Int).length), (6, slcV (SkL.nil (fun _ => ())) ([] : List Int).length), (7, .bool (a0 != 0)), (19, slcV A00 a1.length), (20, .int .i64 (a1.length : Int)), (21, .int .i64 0)]) (by kernel_rfl) ?_
   refine WP.lessF [0, 0, 0, 1, 2] (F' := [GIn noK (SkL.nil (fun _ => ())) ([] : List Int), GIn noK (SkL.nil (fun _ => ())) ([] : List Int), GIn noK (SkL.nil (fun _ => ())) ([] : List Int), GIn noK (SkL.nil (fun _ => ())) ([] : List Int), Row 3 api_Seg.encS api_Seg.inK A00 a1]) (by kernel_rfl) ?_
   refine WP.loop (σ := (List Int) × SkL Unit × (List Int) × SkL Unit × Bool × Int) (fun n st => vni_Check.l3 a1 k a0 n st.1 st.2.2.1 st.2.2.2.2.1 st.2.2.2.2.2) r (fun st => [(0, .int .u32 a0), (4, .int .i64 0), (5, slcV st.2.1 st.1.length), (6, slcV st.2.2.2.1 st.2.2.1.length), (7, .bool st.2.2.2.2.1), (19, slcV A00 a1.length), (20, .int .i64 (a1.length : Int)), (21, .int .i64 st.2.2.2.2.2)]) (fun st => Sat w Z [] [OwnR 1 3 (pl (encI .i64)) st.2.1 st.1, OwnR 1 3 (pl (encI .i64)) st.2.2.2.1 st.2.2.1] ([GIn noK st.2.1 st.1, GIn noK st.2.2.2.1 st.2.2.1, GIn noK (SkL.nil (fun _ => ())) ([] : List Int), GIn noK (SkL.nil (fun _ => ())) ([] : List Int), Row 3 api_Seg.encS api_Seg.inK A00 a1] ++ Glob)) (st := (([] : List Int), (SkL.nil (fun _ => ())), ([] : List Int), (SkL.nil (fun _ => ())), (a0 != 0), 0)) (fun n st hM => ?_) hM
   rcases n with _ | n
   ·exact nomatch (show (none : Option _) = some r from hM)
   obtain ⟨x6, A7, x8, A9, x10, x11⟩ := st
   replace hM : vni_Check.l3 a1 k a0 (n + 1) x6 x8 x10 x11 = some r := hM
   rw [vni_Check.l3] at hM
   try dsimp only
   refine WP.seq (WP.rn [] [(22, .bool (decide (x11 < (a1.length : Int))))] ?_)
   refine WP.seq ?_
   refine WP.cond (decide (x11 < (a1.length : Int))) rfl rfl (fun c12 => ?_) (fun c12 => ?_)
   ·replace hM := cond_t hM c12
    refine WP.skip (WP.seq (WP.block (WP.seq (WP.region ?_))))
    obtain ⟨t13, h14, hM⟩ := bind_some hM
    refine WL.valF (φ := Row 3 api_Seg.encS api_Seg.inK A00 a1) (fact_at 4 rfl) (fun w hR => run_indexRowF (A := A00) (xs := a1) (i := x11) (k := .i64) (e := 93) (m := 3) (by kernel_rfl) (by kernel_rfl) h14 (by kernel_rfl) (by kernel_rfl) hR) (by kernel_rfl) (by kernel_rfl) rfl ?_
    refine WL.valF (φ := Row 3 api_Seg.encS api_Seg.inK A00 a1) (fact_at 4 rfl) (fun w hR => run_loadRowFA (A := A00) (xs := a1) (i := x11) (j := 0) (n := 3) (vs := [.int .i64 t13.Vid, .int .i64 t13.Vni, slcV (A00.s (Int.toNat x11)) t13.Peers.length]) h14 (fun _ => by kernel_rfl) (by kernel_rfl) (by kernel_rfl) (by kernel_rfl) rfl hR) (by kernel_rfl) (by kernel_rfl) rfl ?_
    refine WL.know (Row 1 (pl (encI .u32)) noK (A00.s (Int.toNat x11)) t13.Peers) [4] [Row 3 api_Seg.encS api_Seg.inK A00 a1] (by kernel_rfl) (fun w hψ => ((hψ _ (List.mem_singleton.2 rfl)).inner _ _ (getL_parts h14).2)) ?_
    refine WL.rh 2 [0, 0, 0] (fun b15 => [(9, .pointer (some ⟨b15, 0, none⟩))]) (fun b15 => []) (fun b15 => [(b15, .cells #[.int .i64 t13.Vid, .int .i64 t13.Vni, slcV (A00.s (Int.toNat x11)) t13.Peers.length] 93 (0, 0))]) (fun b15 => ?_)
    refine WP.done (WP.seq ?_)
    obtain ⟨u18, h17, hM⟩ := bind_some hM
    obtain ⟨u22, h21, hM⟩ := bind_some hM
    refine WP.rs [0, 4, 5, 6, 7, 9, 19, 20, 21, 22, 23, 24] ?_
    refine WP.graphF (X := (Nat × (SkL Unit) × Nat × (SkL Unit))) 12 7 [⟨0, 12, fun _ => [(b15, .cells #[.int .i64 t13.Vid, .int .i64 t13.Vni, slcV (A00.s (Int.toNat x11)) t13.Peers.length] 93 (0, 0))], fun _ => []⟩, ⟨0, 4, fun _ => [], fun _ => [OwnR 1 3 (pl (encI .i64)) A7 x6]⟩, ⟨0, 9, fun _ => [], fun _ => [OwnR 1 3 (pl (encI .i64)) A9 x8]⟩, ⟨4, 4, fun ξ => [((ξ 3).1, .cells #[.int .i64 t13.Vid] 3 (0, 0))], fun ξ => []⟩, ⟨5, 12, fun ξ => [], fun ξ => [OwnR 1 3 (pl (encI .i64)) (ξ 4).2.1 (x6 ++ ([t13.Vid] : List Int))]⟩, ⟨9, 9, fun ξ => [((ξ 8).2.2.1, .cells #[.int .i64 t13.Vni] 3 (0, 0))], fun ξ => []⟩, ⟨10, 12, fun ξ => [], fun ξ => [OwnR 1 3 (pl (encI .i64)) (ξ 9).2.2.2 (x8 ++ ([t13.Vni] : List Int))]⟩] [⟨[], [], [], [], [], fun _ => slcV A7 x6.length, fun _ => []⟩, ⟨[], [], [], [], [], fun _ => .pointer (some ⟨b15, 0, none⟩), fun _ => []⟩, ⟨[1], [0], [0], [], [], fun _ => .int .i64 t13.Vid, fun _ => []⟩, ⟨[1, 2], [], [3], [], [], fun ξ => .slice (some ⟨(ξ 3).1, 0, none⟩) 1 1, fun ξ => []⟩, ⟨[0, 1, 2, 3], [3, 1], [4], [3], [], fun ξ => slcV (ξ 4).2.1 (x6 ++ ([t13.Vid] : List Int)).length, fun ξ => [GIn noK (ξ 4).2.1 (x6 ++ ([t13.Vid] : List Int)), Row 1 (pl (encI .i64)) noK (SkL.at (ξ 3).1 1 (fun _ => ())) ([t13.Vid] : List Int)]⟩, ⟨[], [], [], [], [], fun _ => slcV A9 x8.length, fun _ => []⟩, ⟨[], [], [], [], [], fun _ => .pointer (some ⟨b15, 1, none⟩), fun _ => []⟩, ⟨[6], [0], [0], [], [], fun _ => .int .i64 t13.Vni, fun _ => []⟩, ⟨[6, 7], [], [5], [], [], fun ξ => .slice (some ⟨(ξ 8).2.2.1, 0, none⟩) 1 1, fun ξ => []⟩, ⟨[0, 1, 2, 3, 4, 5, 6, 7, 8], [5, 2], [6], [8], [], fun ξ => slcV (ξ 9).2.2.2 (x8 ++ ([t13.Vni] : List Int)).length, fun ξ => [GIn noK (ξ 9).2.2.2 (x8 ++ ([t13.Vni] : List Int)), Row 1 (pl (encI .i64)) noK (SkL.at (ξ 8).2.2.1 1 (fun _ => ())) ([t13.Vni] : List Int)]⟩, ⟨[0, 1, 2, 3, 4, 5, 6, 7, 8, 9], [], [], [4], [], fun ξ => slcV (ξ 4).2.1 (x6 ++ ([t13.Vid] : List Int)).length, fun ξ => []⟩, ⟨[0, 1, 2, 3, 4, 5, 6, 7, 8, 9, 10], [], [], [9], [5], fun ξ => slcV (ξ 9).2.2.2 (x8 ++ ([t13.Vni] : List Int)).length, fun ξ => []⟩] (fun ξ => [(5, slcV (ξ 4).2.1 (x6 ++ ([t13.Vid] : List Int)).length), (6, slcV (ξ 9).2.2.2 (x8 ++ ([t13.Vni] : List Int)).length), (26, .pointer (some ⟨b15, 0, none⟩)), (27, .int .i64 t13.Vid), (29, slcV (ξ 4).2.1 (x6 ++ ([t13.Vid] : List Int)).length), (31, .pointer (some ⟨b15, 1, none⟩)), (32, .int .i64 t13.Vni), (34, slcV (ξ 9).2.2.2 (x8 ++ ([t13.Vni] : List Int)).length)]) (fun ξ => [(b15, .cells #[.int .i64 t13.Vid, .int .i64 t13.Vni, slcV (A00.s (Int.toNat x11)) t13.Peers.length] 93 (0, 0))]) (fun ξ => [OwnR 1 3 (pl (encI .i64)) (ξ 4).2.1 (x6 ++ ([t13.Vid] : List Int)), OwnR 1 3 (pl (encI .i64)) (ξ 9).2.2.2 (x8 ++ ([t13.Vni] : List Int))]) (fun ξ => [GIn noK (ξ 4).2.1 (x6 ++ ([t13.Vid] : List Int)), Row 1 (pl (encI .i64)) noK (SkL.at (ξ 3).1 1 (fun _ => ())) ([t13.Vid] : List Int), GIn noK (ξ 9).2.2.2 (x8 ++ ([t13.Vni] : List Int)), Row 1 (pl (encI .i64)) noK (SkL.at (ξ 8).2.2.1 1 (fun _ => ())) ([t13.Vni] : List Int)]) (AllN.cons ?_ (AllN.cons ?_ (AllN.cons ?_ (AllN.cons ?_ (AllN.cons ?_ (AllN.cons ?_ (AllN.cons ?_ (AllN.cons ?_ (AllN.cons ?_ (AllN.cons ?_ (AllN.cons ?_ (AllN.cons ?_ AllN.nil)))))))))))) (AllN.cons (VAgr.c rfl) (AllN.cons (VAgr.c rfl) (AllN.cons (VAgr.c rfl) (AllN.cons (fun t ht ξ ξ' h => by cases ht; have e3 : ξ 3 = ξ' 3 := h 3 (memN_iff.1 rfl); exact ⟨by first | rfl | simp only [e3], by first | rfl | simp only [e3]⟩) (AllN.cons (fun t ht ξ ξ' h => by cases ht; have e3 : ξ 3 = ξ' 3 := h 3 (memN_iff.1 rfl); have e4 : ξ 4 = ξ' 4 := h 4 (memN_iff.1 rfl); exact ⟨by first | rfl | simp only [e3, e4], by first | rfl | simp only [e3, e4]⟩) (AllN.cons (VAgr.c rfl) (AllN.cons (VAgr.c rfl) (AllN.cons (VAgr.c rfl) (AllN.cons (fun t ht ξ ξ' h => by cases ht; have e8 : ξ 8 = ξ' 8 := h 8 (memN_iff.1 rfl); exact ⟨by first | rfl | simp only [e8], by first | rfl | simp only [e8]⟩) (AllN.cons (fun t ht ξ ξ' h => by cases ht; have e8 : ξ 8 = ξ' 8 := h 8 (memN_iff.1 rfl); have e9 : ξ 9 = ξ' 9 := h 9 (memN_iff.1 rfl); exact ⟨by first | rfl | simp only [e8, e9], by first | rfl | simp only [e8, e9]⟩) (AllN.cons (fun t ht ξ ξ' h => by cases ht; have e4 : ξ 4 = ξ' 4 := h 4 (memN_iff.1 rfl); exact ⟨by first | rfl | simp only [e4], by first | rfl | simp only [e4]⟩) (AllN.cons (fun t ht ξ ξ' h => by cases ht; have e9 : ξ 9 = ξ' 9 := h 9 (memN_iff.1 rfl); exact ⟨by first | rfl | simp only [e9], by first | rfl | simp only [e9]⟩) AllN.nil)))))))))))) (AllN.cons (RAgr.c rfl) (AllN.cons (RAgr.c rfl) (AllN.cons (RAgr.c rfl) (AllN.cons (fun r hr ξ ξ' h => by cases hr; have e3 : ξ 3 = ξ' 3 := h 3 (memN_iff.1 rfl); exact ⟨by first | rfl | simp only [e3], by first | rfl | simp only [e3]⟩) (AllN.cons (fun r hr ξ ξ' h => by cases hr; have e4 : ξ 4 = ξ' 4 := h 4 (memN_iff.1 rfl); exact ⟨by first | rfl | simp only [e4], by first | rfl | simp only [e4]⟩) (AllN.cons (fun r hr ξ ξ' h => by cases hr; have e8 : ξ 8 = ξ' 8 := h 8 (memN_iff.1 rfl); exact ⟨by first | rfl | simp only [e8], by first | rfl | simp only [e8]⟩) (AllN.cons (fun r hr ξ ξ' h => by cases hr; have e9 : ξ 9 = ξ' 9 := h 9 (memN_iff.1 rfl); exact ⟨by first | rfl | simp only [e9], by first | rfl | simp only [e9]⟩) AllN.nil))))))) (fun ξ => ?_)
    ·
     intro o t ho ht ξ Gr Γr Lr Q hk
     cases ho; cases ht
     refine WL.rn 1 [] [(25, slcV A7 x6.length)] ?_
     exact WL.fin (hk default)
    ·
     intro o t ho ht ξ Gr Γr Lr Q hk
     cases ho; cases ht
     refine WL.rn 1 [] [(26, .pointer (some ⟨b15, 0, none⟩))] ?_
     exact WL.fin (hk default)
    ·
     intro o t ho ht ξ Gr Γr Lr Q hk
     cases ho; cases ht
     refine WL.rn 1 [0] [(27, .int .i64 t13.Vid)] ?_
     exact WL.fin (hk default)
    ·
     intro o t ho ht ξ Gr Γr Lr Q hk
     cases ho; cases ht
     refine WL.rh 1 [] (fun b16 => [(28, .slice (some ⟨b16, 0, none⟩) 1 1)]) (fun b16 => []) (fun b16 => [(b16, .cells #[.int .i64 t13.Vid] 3 (0, 0))]) (fun b16 => ?_)
     exact WL.fin (hk (b16, default, default, default))
    ·
     intro o t ho ht ξ Gr Γr Lr Q hk
     cases ho; cases ht
     refine WL.ice (H' := []) (Row 1 (pl (encI .i64)) noK (SkL.at (ξ 3).1 1 (fun _ => ())) ([t13.Vid] : List Int)) 0 (b := (ξ 3).1) (ob := .cells #[.int .i64 t13.Vid] 3 (0, 0)) (by kernel_rfl) [] [] (by kernel_rfl) (fun w hb hψ => row_of_block hb (fun _ _ => rfl) ⟨[], by kernel_rfl⟩ (Nat.le_of_ble_eq_true rfl) (InK.no _ _)) (by kernel_rfl) ?_
     refine WL.growApp (G' := Gr) (A := A7) (B := (SkL.at (ξ 3).1 1 (fun _ => ()))) (xs := x6) (ys := ([t13.Vid] : List Int)) (m := 1) (by_ := 8) (e := 3) (z := .int .i64 0) (f := (pl (encI .i64))) (K := noK) (d := 29) 0 rfl rfl (by kernel_rfl) (by kernel_rfl) (by kernel_rfl) (by kernel_rfl) (by kernel_rfl) (fun _ _ => rfl) (fun _ _ => rfl) (by kernel_rfl) (by kernel_rfl) (by kernel_rfl) (by kernel_rfl) (by kernel_rfl) (fact_at 2 rfl) (fact_at 0 rfl) h17 (by kernel_rfl) (fun A19 => ?_)
     refine WL.less (Φ' := (([GIn noK A19 (x6 ++ ([t13.Vid] : List Int)), Row 1 (pl (encI .i64)) noK (SkL.at (ξ 3).1 1 (fun _ => ())) ([t13.Vid] : List Int), Row 1 (pl (encI .u32)) noK (A00.s (Int.toNat x11)) t13.Peers, GIn noK A7 x6, GIn noK A9 x8, GIn noK (SkL.nil (fun _ => ())) ([] : List Int), GIn noK (SkL.nil (fun _ => ())) ([] : List Int), Row 3 api_Seg.encS api_Seg.inK A00 a1] ++ Γr) ++ Glob)) (fun _ h => h) ?_
     exact WL.fin (hk (default, A19, default, default))
    ·
     intro o t ho ht ξ Gr Γr Lr Q hk
     cases ho; cases ht
     refine WL.rn 1 [] [(30, slcV A9 x8.length)] ?_
     exact WL.fin (hk default)
    ·
     intro o t ho ht ξ Gr Γr Lr Q hk
     cases ho; cases ht
     refine WL.rn 1 [] [(31, .pointer (some ⟨b15, 1, none⟩))] ?_
     exact WL.fin (hk default)
    ·
     intro o t ho ht ξ Gr Γr Lr Q hk
     cases ho; cases ht
     refine WL.rn 1 [0] [(32, .int .i64 t13.Vni)] ?_
     exact WL.fin (hk default)
    ·
     intro o t ho ht ξ Gr Γr Lr Q hk
     cases ho; cases ht
     refine WL.rh 1 [] (fun b20 => [(33, .slice (some ⟨b20, 0, none⟩) 1 1)]) (fun b20 => []) (fun b20 => [(b20, .cells #[.int .i64 t13.Vni] 3 (0, 0))]) (fun b20 => ?_)
     exact WL.fin (hk (default, default, b20, default))
    ·
     intro o t ho ht ξ Gr Γr Lr Q hk
     cases ho; cases ht
     refine WL.ice (H' := []) (Row 1 (pl (encI .i64)) noK (SkL.at (ξ 8).2.2.1 1 (fun _ => ())) ([t13.Vni] : List Int)) 0 (b := (ξ 8).2.2.1) (ob := .cells #[.int .i64 t13.Vni] 3 (0, 0)) (by kernel_rfl) [] [] (by kernel_rfl) (fun w hb hψ => row_of_block hb (fun _ _ => rfl) ⟨[], by kernel_rfl⟩ (Nat.le_of_ble_eq_true rfl) (InK.no _ _)) (by kernel_rfl) ?_
     refine WL.growApp (G' := Gr) (A := A9) (B := (SkL.at (ξ 8).2.2.1 1 (fun _ => ()))) (xs := x8) (ys := ([t13.Vni] : List Int)) (m := 1) (by_ := 8) (e := 3) (z := .int .i64 0) (f := (pl (encI .i64))) (K := noK) (d := 34) 0 rfl rfl (by kernel_rfl) (by kernel_rfl) (by kernel_rfl) (by kernel_rfl) (by kernel_rfl) (fun _ _ => rfl) (fun _ _ => rfl) (by kernel_rfl) (by kernel_rfl) (by kernel_rfl) (by kernel_rfl) (by kernel_rfl) (fact_at 5 rfl) (fact_at 0 rfl) h21 (by kernel_rfl) (fun A23 => ?_)
     refine WL.less (Φ' := (([GIn noK A23 (x8 ++ ([t13.Vni] : List Int)), Row 1 (pl (encI .i64)) noK (SkL.at (ξ 8).2.2.1 1 (fun _ => ())) ([t13.Vni] : List Int), GIn noK (ξ 4).2.1 (x6 ++ ([t13.Vid] : List Int)), Row 1 (pl (encI .i64)) noK (SkL.at (ξ 3).1 1 (fun _ => ())) ([t13.Vid] : List Int), Row 1 (pl (encI .u32)) noK (A00.s (Int.toNat x11)) t13.Peers, GIn noK A7 x6, GIn noK A9 x8, GIn noK (SkL.nil (fun _ => ())) ([] : List Int), GIn noK (SkL.nil (fun _ => ())) ([] : List Int), Row 3 api_Seg.encS api_Seg.inK A00 a1] ++ Γr) ++ Glob)) (fun _ h => h) ?_
     exact WL.fin (hk (default, default, default, A23))
    ·
     intro o t ho ht ξ Gr Γr Lr Q hk
     cases ho; cases ht
     refine WL.rn 1 [] [(5, slcV (ξ 4).2.1 (x6 ++ ([t13.Vid] : List Int)).length)] ?_
     exact WL.fin (hk default)
    ·
     intro o t ho ht ξ Gr Γr Lr Q hk
     cases ho; cases ht
     refine WL.rn 1 [] [(6, slcV (ξ 9).2.2.2 (x8 ++ ([t13.Vni] : List Int)).length)] ?_
     exact WL.fin (hk default)
    generalize (ξ 3).1 = b16
    generalize (ξ 4).2.1 = A19
    generalize (ξ 8).2.2.1 = b20
    generalize (ξ 9).2.2.2 = A23
    refine WP.less (Φ' := ([GIn noK A19 (x6 ++ ([t13.Vid] : List Int)), Row 1 (pl (encI .i64)) noK (SkL.at b16 1 (fun _ => ())) ([t13.Vid] : List Int), GIn noK A23 (x8 ++ ([t13.Vni] : List Int)), Row 1 (pl (encI .i64)) noK (SkL.at b20 1 (fun _ => ())) ([t13.Vni] : List Int), Row 1 (pl (encI .u32)) noK (A00.s (Int.toNat x11)) t13.Peers, GIn noK A7 x6, GIn noK A9 x8, GIn noK (SkL.nil (fun _ => ())) ([] : List Int), GIn noK (SkL.nil (fun _ => ())) ([] : List Int), Row 3 api_Seg.encS api_Seg.inK A00 a1] ++ Glob)) (fun _ h => h) ?_
    refine WP.region (WL.rn 2 [] [(35, .bool x10), (36, .bool x10)] ?_)
    refine WL.join (σ := Bool × Bool) 4 (fun st => vni_Check.k2 x6 t13 x8 x11 (vni_Check.l3 a1 k a0 n) st.1 st.2 = some r) (fun st => [(0, .int .u32 a0), (4, .int .i64 0), (5, slcV A19 (x6 ++ ([t13.Vid] : List Int)).length), (6, slcV A23 (x8 ++ ([t13.Vni] : List Int)).length), (7, .bool x10), (9, .pointer (some ⟨b15, 0, none⟩)), (19, slcV A00 a1.length), (20, .int .i64 (a1.length : Int)), (21, .int .i64 x11), (22, .bool (decide (x11 < (a1.length : Int)))), (23, ptrV A00 (Int.toNat x11 * 3)), (24, .agg #[.int .i64 t13.Vid, .int .i64 t13.Vni, slcV (A00.s (Int.toNat x11)) t13.Peers.length]), (26, .pointer (some ⟨b15, 0, none⟩)), (27, .int .i64 t13.Vid), (29, slcV A19 (x6 ++ ([t13.Vid] : List Int)).length), (31, .pointer (some ⟨b15, 1, none⟩)), (32, .int .i64 t13.Vni), (34, slcV A23 (x8 ++ ([t13.Vni] : List Int)).length), (35, .bool x10), (36, .bool st.1), (40, .bool st.2)]) (fun st => Sat w Z [(b15, .cells #[.int .i64 t13.Vid, .int .i64 t13.Vni, slcV (A00.s (Int.toNat x11)) t13.Peers.length] 93 (0, 0))] [OwnR 1 3 (pl (encI .i64)) A19 (x6 ++ ([t13.Vid] : List Int)), OwnR 1 3 (pl (encI .i64)) A23 (x8 ++ ([t13.Vni] : List Int))] ([GIn noK A19 (x6 ++ ([t13.Vid] : List Int)), Row 1 (pl (encI .i64)) noK (SkL.at b16 1 (fun _ => ())) ([t13.Vid] : List Int), GIn noK A23 (x8 ++ ([t13.Vni] : List Int)), Row 1 (pl (encI .i64)) noK (SkL.at b20 1 (fun _ => ())) ([t13.Vni] : List Int), Row 1 (pl (encI .u32)) noK (A00.s (Int.toNat x11)) t13.Peers, GIn noK A7 x6, GIn noK A9 x8, GIn noK (SkL.nil (fun _ => ())) ([] : List Int), GIn noK (SkL.nil (fun _ => ())) ([] : List Int), Row 3 api_Seg.encS api_Seg.inK A00 a1] ++ Glob)) (fun st hM => ?_) (fun K2 => ?_)
    ·
     obtain ⟨x27, x28⟩ := st
     replace hM : vni_Check.k2 x6 t13 x8 x11 (vni_Check.l3 a1 k a0 n) x27 x28 = some r := hM
     unfold vni_Check.k2 at hM
     try dsimp only
     refine WL.rn 1 [] [(7, .bool x28)] ?_
     refine WP.done (WP.leave (WP.rn [] [(21, .int .i64 (i64 (x11 + 1))), (41, .int .i64 (i64 (x11 + 1)))] ?_))
     exact WP.again' [0, 4, 5, 6, 7, 19, 20, 21] ((x6 ++ ([t13.Vid] : List Int)), A19, (x8 ++ ([t13.Vni] : List Int)), A23, x28, i64 (x11 + 1)) hM (by kernel_rfl) (fun _ h => ((h.pick [] (by kernel_rfl)).lessF [0, 2, 7, 7, 9] (by kernel_rfl)).pickG [0, 1] [] 2 rfl (by decide) (by kernel_rfl))
    ·
     refine WL.sp 36 x10 (fun c24 => ?_) (fun c24 => ?_)
     ·replace hM := cond_t hM c24
      refine WL.rn 2 [0, 0, 0] [(37, .int .u32 a0), (38, .agg #[.int .i64 t13.Vid, .int .i64 t13.Vni, slcV (A00.s (Int.toNat x11)) t13.Peers.length])] ?_
      obtain ⟨r25, h26, hM⟩ := bind_some hM
      refine WL.callP [] [] (vni_right_calls k (A00.s (Int.toNat x11)) a0 t13.Vid t13.Vni t13.Peers _ h26) (sub_pick [4] (by kernel_rfl)) (by kernel_rfl) (by kernel_rfl) rfl ?_
      refine WL.rn 1 [] [(40, .bool r25)] ?_
      exact WL.sub [0, 4, 5, 6, 7, 9, 19, 20, 21, 22, 23, 24, 26, 27, 29, 31, 32, 34, 35, 36, 40] (by kernel_rfl) (WL.pick [0] (by kernel_rfl) (by kernel_rfl) (WL.pickG [0, 1] [] 2 rfl (by decide) (by kernel_rfl) (WL.lessF [0, 1, 2, 3, 4, 5, 6, 7, 7, 9] (by kernel_rfl) (K2 (true, r25) hM))))
     ·replace hM := cond_f hM c24
      refine WL.rn 4 [] [(37, .tuple #[]), (38, .tuple #[]), (39, .tuple #[]), (40, .bool false)] ?_
      exact WL.sub [0, 4, 5, 6, 7, 9, 19, 20, 21, 22, 23, 24, 26, 27, 29, 31, 32, 34, 35, 36, 40] (by kernel_rfl) (WL.pick [0] (by kernel_rfl) (by kernel_rfl) (WL.pickG [0, 1] [] 2 rfl (by decide) (by kernel_rfl) (WL.lessF [0, 1, 2, 3, 4, 5, 6, 7, 7, 9] (by kernel_rfl) (K2 (false, false) hM))))
   ·replace hM := cond_f hM c12
    refine WP.exit rfl (WP.seq (WP.seq (WP.region (WL.rn 3 [] [(44, .bool (!x10))] ?_))))
    refine WL.join (σ := Bool) 3 (fun st => vni_Check.k5 k x8 st = some r) (fun st => [(4, .int .i64 0), (6, slcV A9 x8.length), (47, .bool st)]) (fun st => Sat w Z [] [OwnR 1 3 (pl (encI .i64)) A9 x8] ([Row 1 (pl (encI .i64)) noK A7 x6, GIn noK A7 x6, GIn noK A9 x8, GIn noK (SkL.nil (fun _ => ())) ([] : List Int), GIn noK (SkL.nil (fun _ => ())) ([] : List Int), Row 3 api_Seg.encS api_Seg.inK A00 a1] ++ Glob)) (fun st hM => ?_) (fun K5 => ?_)
    ·
     obtain ⟨x32, rfl⟩ : ∃ y, y = st := ⟨st, rfl⟩
     replace hM : vni_Check.k5 k x8 x32 = some r := hM
     unfold vni_Check.k5 at hM
     try dsimp only
     refine WL.rn 1 [] [(48, .bool x32)] ?_
     refine WL.join (σ := Bool) 3 (fun st => vni_Check.k4 st = some r) (fun st => [(4, .int .i64 0), (51, .bool st)]) (fun st => Sat w Z [] [] ([Row 1 (pl (encI .i64)) noK A9 x8, Row 1 (pl (encI .i64)) noK A7 x6, GIn noK A7 x6, GIn noK A9 x8, GIn noK (SkL.nil (fun _ => ())) ([] : List Int), GIn noK (SkL.nil (fun _ => ())) ([] : List Int), Row 3 api_Seg.encS api_Seg.inK A00 a1] ++ Glob)) (fun st hM => ?_) (fun K4 => ?_)
     ·
      obtain ⟨x36, rfl⟩ : ∃ y, y = st := ⟨st, rfl⟩
      replace hM : vni_Check.k4 x36 = some r := hM
      unfold vni_Check.k4 at hM
      try dsimp only
      refine WP.done ?_
      refine WP.cond x36 rfl rfl (fun c37 => ?_) (fun c37 => ?_)
      ·replace hM := cond_t hM c37
       refine WP.seq (WP.rn [] [(4, .int .i64 210)] ?_)
       obtain rfl := Option.some.inj hM
       exact WP.retF [] [] [6]
      ·replace hM := cond_f hM c37
       refine WP.skip (WP.seq (WP.rn [] [(4, .int .i64 0)] ?_))
       obtain rfl := Option.some.inj hM
       exact WP.retF [] [] [6]
     ·
      refine WL.sp 48 x32 (fun c33 => ?_) (fun c33 => ?_)
      ·replace hM := cond_t hM c33
       refine WL.rn 3 [] [(51, .bool true)] ?_
       refine WL.growIce (G' := []) (m := 1) (e := 3) (f := (pl (encI .i64))) (K := noK) (A := A9) (xs := x8) 0 2 (by kernel_rfl) (by kernel_rfl) (fun _ _ => rfl) (by kernel_rfl) ?_
       exact WL.sub [4, 51] (by kernel_rfl) (WL.pick [] (by kernel_rfl) (by kernel_rfl) (WL.lessF [0, 1, 2, 3, 4, 4, 6] (by kernel_rfl) (K4 true hM)))
      ·replace hM := cond_f hM c33
       refine WL.rn 1 [] [(49, slcV A9 x8.length)] ?_
       refine WL.growIce (G' := []) (m := 1) (e := 3) (f := (pl (encI .i64))) (K := noK) (A := A9) (xs := x8) 0 2 (by kernel_rfl) (by kernel_rfl) (fun _ _ => rfl) (by kernel_rfl) ?_
       obtain ⟨r34, h35, hM⟩ := bind_some hM
       refine WL.callP [] [] (vni_twice_int_calls k A9 x8 _ h35) (sub_pick [0] (by kernel_rfl)) (by kernel_rfl) (by kernel_rfl) rfl ?_
       refine WL.rn 1 [] [(51, .bool r34)] ?_
       exact WL.sub [4, 51] (by kernel_rfl) (WL.pick [] (by kernel_rfl) (by kernel_rfl) (WL.lessF [0, 1, 2, 3, 4, 4, 6] (by kernel_rfl) (K4 r34 hM)))
    ·
     refine WL.sp 44 (!x10) (fun c29 => ?_) (fun c29 => ?_)
     ·replace hM := cond_t hM c29
      refine WL.rn 3 [] [(47, .bool true)] ?_
      refine WL.growIce (G' := [OwnR 1 3 (pl (encI .i64)) A9 x8]) (m := 1) (e := 3) (f := (pl (encI .i64))) (K := noK) (A := A7) (xs := x6) 0 0 (by kernel_rfl) (by kernel_rfl) (fun _ _ => rfl) (by kernel_rfl) ?_
      exact WL.sub [4, 6, 47] (by kernel_rfl) (WL.pick [] (by kernel_rfl) (by kernel_rfl) (WL.pickG [0] [] 1 rfl (by decide) (by kernel_rfl) (WL.lessF [0, 1, 2, 3, 3, 5] (by kernel_rfl) (K5 true hM))))
     ·replace hM := cond_f hM c29
      refine WL.rn 1 [] [(45, slcV A7 x6.length)] ?_
      refine WL.growIce (G' := [OwnR 1 3 (pl (encI .i64)) A9 x8]) (m := 1) (e := 3) (f := (pl (encI .i64))) (K := noK) (A := A7) (xs := x6) 0 0 (by kernel_rfl) (by kernel_rfl) (fun _ _ => rfl) (by kernel_rfl) ?_
      obtain ⟨r30, h31, hM⟩ := bind_some hM
      refine WL.callP [] [] (vni_twice_int_calls k A7 x6 _ h31) (sub_pick [0] (by kernel_rfl)) (by kernel_rfl) (by kernel_rfl) rfl ?_
      refine WL.rn 1 [] [(47, .bool r30)] ?_
      exact WL.sub [4, 6, 47] (by kernel_rfl) (WL.pick [] (by kernel_rfl) (by kernel_rfl) (WL.pickG [0] [] 1 rfl (by decide) (by kernel_rfl) (WL.lessF [0, 1, 2, 3, 3, 5] (by kernel_rfl) (K5 r30 hM))))
 ·
  refine WL.sp 13 (decide ((a1.length : Int) > 256)) (fun c1 => ?_) (fun c1 => ?_)
  ·replace hM := cond_t hM c1
   refine WL.rn 3 [] [(16, .bool true)] ?_
   exact WL.sub [0, 1, 4, 16] (by kernel_rfl) (WL.pick [] (by kernel_rfl) (by kernel_rfl) (WL.lessF [0] (by kernel_rfl) (K1 true hM)))
  ·replace hM := cond_f hM c1
   refine WL.rn 1 [] [(14, slcV A00 a1.length)] ?_
   obtain ⟨r2, h3, hM⟩ := bind_some hM
   refine WL.callP [] [] (api_Seg_2_calls k A00 a1 _ h3) (sub_pick [0] (by kernel_rfl)) (by kernel_rfl) (by kernel_rfl) rfl ?_
   refine WL.rn 1 [] [(16, .bool r2)] ?_
   exact WL.sub [0, 1, 4, 16] (by kernel_rfl) (WL.pick [] (by kernel_rfl) (by kernel_rfl) (WL.lessF [0] (by kernel_rfl) (K1 r2 hM)))
def vtep_New.f (k : Nat) (a0 : Int) (a0_1 : Int) (a0_2 : Int) (a0_3 : (List api_PortCfg)) (a0_4 : (List Bool)) (a0_5 : api_Keep) (a0_6 : api_Near) (a0_7 : Int) (a0_8 : (List api_Seg)) (a0_9 : (List api_Route)) (a0_10 : Int) (a0_11 : Bool) : Option (Int) :=
 (vtep_copied.f k a0 a0_1 a0_2 a0_3 a0_4 a0_5 a0_6 a0_7 a0_8 a0_9 a0_10 a0_11).bind fun r2 =>
 (slices_Repeat_int_int.f k ([1] : List Int) (r2.Ports.length : Int)).bind fun r6 =>
 (bridge_New.f k r2.Ports r2.Keep).bind fun r9 =>
 (span_New.f k r2.Bridge r6 r2.Edges).bind fun (r12, r13) =>
 (binding_New.f r2.Keep.Room r2.Heard).bind fun r17 =>
 (neigh_New.f r2.Near).bind fun r20 =>
 (vtep_laid.f k r2.Routes).bind fun r23 =>
 (vni_Check.f k r2.Ip r2.Segs).bind fun r26 =>
 bif ((((((!(((((r23 && (r9 == 0)) && (r13 == 0)) && (r17 == 0)) && (r20 == 0)) && (r26 == 0))) || (r2.Near.Mac != r2.Mac)) || (r2.Near.Ip != r2.Ip)) || (r2.Bridge == 0)) || (decide (r2.Most < 68))) || (decide (r2.Most > 65535))) then
  some 240
 else
  some 0
theorem vtep_New_calls (k : Nat) (A00 : SkL (SkL Unit)) (A01 : SkL Unit) (A02 : SkL (SkL Unit)) (A03 : SkL Unit) (a0 : Int) (a0_1 : Int) (a0_2 : Int) (a0_3 : (List api_PortCfg)) (a0_4 : (List Bool)) (a0_5 : api_Keep) (a0_6 : api_Near) (a0_7 : Int) (a0_8 : (List api_Seg)) (a0_9 : (List api_Route)) (a0_10 : Int) (a0_11 : Bool) (r : Int) (h : vtep_New.f k a0 a0_1 a0_2 a0_3 a0_4 a0_5 a0_6 a0_7 a0_8 a0_9 a0_10 a0_11 = some r) : Does Tryz.prog 31 #[.agg #[.int .u64 a0, .int .u64 a0_1, .int .u32 a0_2, slcV A00 a0_3.length, slcV A01 a0_4.length, .int .i64 a0_5.Room, .int .i64 a0_5.Life, .int .i64 a0_5.Moves, .int .i64 a0_5.Window, .int .u64 a0_6.Mac, .int .u32 a0_6.Ip, .int .i64 a0_6.Room, .int .i64 a0_6.Life, .int .i64 a0_6.Pend, .int .i64 a0_6.Tries, .int .i64 a0_6.Apart, .int .i64 a0_7, slcV A02 a0_8.length, slcV A03 a0_9.length, .int .i64 a0_10, .bool a0_11]] [] ([Row 3 api_PortCfg.encS api_PortCfg.inK A00 a0_3, Row 1 (pl encB) noK A01 a0_4, Row 3 api_Seg.encS api_Seg.inK A02 a0_8, Row 3 (pl api_Route.enc) noK A03 a0_9] ++ Glob) (fun x : (Option Addr) => .tuple #[.pointer x, .int .i64 r]) (fun x => []) (fun _ => []) (fun x => [] ++ ([Row 3 api_PortCfg.encS api_PortCfg.inK A00 a0_3, Row 1 (pl encB) noK A01 a0_4, Row 3 api_Seg.encS api_Seg.inK A02 a0_8, Row 3 (pl api_Route.enc) noK A03 a0_9] ++ Glob)) := by
 intro w Z hS
 refine callsS (args := [.agg #[.int .u64 a0, .int .u64 a0_1, .int .u32 a0_2, slcV A00 a0_3.length, slcV A01 a0_4.length, .int .i64 a0_5.Room, .int .i64 a0_5.Life, .int .i64 a0_5.Moves, .int .i64 a0_5.Window, .int .u64 a0_6.Mac, .int .u32 a0_6.Ip, .int .i64 a0_6.Room, .int .i64 a0_6.Life, .int .i64 a0_6.Pend, .int .i64 a0_6.Tries, .int .i64 a0_6.Apart, .int .i64 a0_7, slcV A02 a0_8.length, slcV A03 a0_9.length, .int .i64 a0_10, .bool a0_11]]) (L := [(0, .agg #[.int .u64 a0, .int .u64 a0_1, .int .u32 a0_2, slcV A00 a0_3.length, slcV A01 a0_4.length, .int .i64 a0_5.Room, .int .i64 a0_5.Life, .int .i64 a0_5.Moves, .int .i64 a0_5.Window, .int .u64 a0_6.Mac, .int .u32 a0_6.Ip, .int .i64 a0_6.Room, .int .i64 a0_6.Life, .int .i64 a0_6.Pend, .int .i64 a0_6.Tries, .int .i64 a0_6.Apart, .int .i64 a0_7, slcV A02 a0_8.length, slcV A03 a0_9.length, .int .i64 a0_10, .bool a0_11])]) (N := 125) Tryz.func31 hS ?_
 have hM := h
 clear h hS
 unfold vtep_New.f at hM
 refine WP.seq ?_
 refine WP.rh [] (fun b1 => [(1, .pointer (some ⟨b1, 0, none⟩)), (2, .pointer none), (3, .int .i64 0)]) (fun b1 => []) (fun b1 => [(b1, .cells #[.int .u64 a0, .int .u64 a0_1, .int .u32 a0_2, slcV A00 a0_3.length, slcV A01 a0_4.length, .int .i64 a0_5.Room, .int .i64 a0_5.Life, .int .i64 a0_5.Moves, .int .i64 a0_5.Window, .int .u64 a0_6.Mac, .int .u32 a0_6.Ip, .int .i64 a0_6.Room, .int .i64 a0_6.Life, .int .i64 a0_6.Pend, .int .i64 a0_6.Tries, .int .i64 a0_6.Apart, .int .i64 a0_7, slcV A02 a0_8.length, slcV A03 a0_9.length, .int .i64 a0_10, .bool a0_11] 73 (0, 0))]) (fun b1 => ?_)
 refine WP.seq (WP.region (WL.rn 1 [0, 0, 0, 0, 0, 0, 0, 0, 0, 0, 0, 0, 0, 0, 0, 0, 0, 0, 0, 0, 0] [(17, .agg #[.int .u64 a0, .int .u64 a0_1, .int .u32 a0_2, slcV A00 a0_3.length, slcV A01 a0_4.length, .int .i64 a0_5.Room, .int .i64 a0_5.Life, .int .i64 a0_5.Moves, .int .i64 a0_5.Window, .int .u64 a0_6.Mac, .int .u32 a0_6.Ip, .int .i64 a0_6.Room, .int .i64 a0_6.Life, .int .i64 a0_6.Pend, .int .i64 a0_6.Tries, .int .i64 a0_6.Apart, .int .i64 a0_7, slcV A02 a0_8.length, slcV A03 a0_9.length, .int .i64 a0_10, .bool a0_11])] ?_))
 obtain ⟨r2, h3, hM⟩ := bind_some hM
 refine WL.callX (F0 := [Row 3 api_PortCfg.encS api_PortCfg.inK A00 a0_3, Row 1 (pl encB) noK A01 a0_4, Row 3 api_Seg.encS api_Seg.inK A02 a0_8, Row 3 (pl api_Route.enc) noK A03 a0_9]) [] [] [false] (fun _ => _) [0, 1, 2, 3] (by kernel_rfl) (vtep_copied_calls k A00 A01 A02 A03 a0 a0_1 a0_2 a0_3 a0_4 a0_5 a0_6 a0_7 a0_8 a0_9 a0_10 a0_11 _ h3) rfl rfl (by kernel_rfl) (by kernel_rfl) (fun _ => rfl) (fun A4 => ?_)
 refine WL.rh 1 [0, 0, 0, 0, 0, 0, 0, 0, 0, 0, 0, 0, 0, 0, 0, 0, 0, 0, 0, 0, 0] (fun _ => []) (fun _ => [(0, 0, [.int .u64 r2.Bridge, .int .u64 r2.Mac, .int .u32 r2.Ip, slcV A4.1 r2.Ports.length, slcV A4.2.1 r2.Edges.length, .int .i64 r2.Keep.Room, .int .i64 r2.Keep.Life, .int .i64 r2.Keep.Moves, .int .i64 r2.Keep.Window, .int .u64 r2.Near.Mac, .int .u32 r2.Near.Ip, .int .i64 r2.Near.Room, .int .i64 r2.Near.Life, .int .i64 r2.Near.Pend, .int .i64 r2.Near.Tries, .int .i64 r2.Near.Apart, .int .i64 r2.Heard, slcV A4.2.2.1 r2.Segs.length, slcV A4.2.2.2 r2.Routes.length, .int .i64 r2.Most, .bool r2.Answers])]) (fun _ => []) (fun _ => ?_)
 refine WP.done (WP.seq (WP.region ?_))
 refine WL.rh 4 [0] (fun b5 => [(19, .slice (some ⟨b5, 0, none⟩) 1 1), (22, .int .i64 (r2.Ports.length : Int))]) (fun b5 => []) (fun b5 => [(b5, .cells #[.int .i64 1] 3 (0, 0))]) (fun b5 => ?_)
 refine WL.ice (H' := [(b1, .cells #[.int .u64 r2.Bridge, .int .u64 r2.Mac, .int .u32 r2.Ip, slcV A4.1 r2.Ports.length, slcV A4.2.1 r2.Edges.length, .int .i64 r2.Keep.Room, .int .i64 r2.Keep.Life, .int .i64 r2.Keep.Moves, .int .i64 r2.Keep.Window, .int .u64 r2.Near.Mac, .int .u32 r2.Near.Ip, .int .i64 r2.Near.Room, .int .i64 r2.Near.Life, .int .i64 r2.Near.Pend, .int .i64 r2.Near.Tries, .int .i64 r2.Near.Apart, .int .i64 r2.Heard, slcV A4.2.2.1 r2.Segs.length, slcV A4.2.2.2 r2.Routes.length, .int .i64 r2.Most, .bool r2.Answers] 73 (0, 0))]) (Row 1 (pl (encI .i64)) noK (SkL.at b5 1 (fun _ => ())) ([1] : List Int)) 1 (b := b5) (ob := .cells #[.int .i64 1] 3 (0, 0)) (by kernel_rfl) [] [] (by kernel_rfl) (fun w hb hψ => row_of_block hb (fun _ _ => rfl) ⟨[], by kernel_rfl⟩ (Nat.le_of_ble_eq_true rfl) (InK.no _ _)) (by kernel_rfl) ?_
 obtain ⟨r6, h7, hM⟩ := bind_some hM
 refine WL.callX (F0 := [Row 1 (pl (encI .i64)) noK (SkL.at b5 1 (fun _ => ())) ([1] : List Int)]) [] [] [false] (fun _ => _) [0] (by kernel_rfl) (slices_Repeat_int_int_calls k (SkL.at b5 1 (fun _ => ())) ([1] : List Int) (r2.Ports.length : Int) _ h7) rfl rfl (by kernel_rfl) (by kernel_rfl) (fun _ => rfl) (fun A8 => ?_)
 refine WL.rn 1 [] [(4, slcV A8 r6.length)] ?_
 refine WP.done (WP.seq (WP.region (WL.rn 4 [0, 0, 0, 0, 0] [(26, slcV A4.1 r2.Ports.length), (28, api_Keep.v r2.Keep)] ?_)))
 obtain ⟨r9, h10, hM⟩ := bind_some hM
 refine WL.callX (F0 := [Row 3 api_PortCfg.encS api_PortCfg.inK A4.1 r2.Ports]) [] [] [false] (fun _ => _) [2] (by kernel_rfl) (bridge_New_calls k A4.1 r2.Ports r2.Keep _ h10) rfl rfl (by kernel_rfl) (by kernel_rfl) (fun _ => rfl) (fun A11 => ?_)
 refine WL.rn 5 [] [(5, .pointer A11), (6, .int .i64 r9)] ?_
 refine WP.done (WP.seq (WP.region (WL.rn 5 [0, 0] [(34, .int .u64 r2.Bridge), (35, slcV A8 r6.length), (37, slcV A4.2.1 r2.Edges.length)] ?_)))
 obtain ⟨⟨r12, r13⟩, h14, hM⟩ := bind_some hM
 dsimp only at hM
 refine WL.callX (F0 := [Row 1 (pl (encI .i64)) noK A8 r6, Row 1 (pl encB) noK A4.2.1 r2.Edges]) [] [] [false] (fun _ => _) [0, 3] (by kernel_rfl) (span_New_calls k A8 A4.2.1 r2.Bridge r6 r2.Edges _ h14) rfl rfl (by kernel_rfl) (by kernel_rfl) (fun _ => rfl) (fun A15 => ?_)
 refine WL.rh 6 [1, 1, 1] (fun b16 => [(7, .pointer (some ⟨b16, 0, none⟩)), (8, .int .i64 r13)]) (fun b16 => []) (fun b16 => [(b16, .cells #[.int .u64 r12.Bridge, slcV A15 r12.Ports.length, .int .i64 r12.Now] 111 (0, 0))]) (fun b16 => ?_)
 refine WP.done (WP.seq (WP.region (WL.rn 5 [0, 0] [(44, .int .i64 r2.Keep.Room), (46, .int .i64 r2.Heard)] ?_)))
 obtain ⟨r17, h18, hM⟩ := bind_some hM
 refine WL.callX (F0 := []) [] [] [false, false] (fun _ => _) [] (by kernel_rfl) (binding_New_calls r2.Keep.Room r2.Heard _ h18) rfl rfl (by kernel_rfl) (by kernel_rfl) (fun _ => rfl) (fun A19 => ?_)
 refine WL.rn 5 [] [(9, .pointer A19), (10, .int .i64 r17)] ?_
 refine WP.done (WP.seq (WP.region (WL.rn 2 [0, 0, 0, 0, 0, 0, 0] [(52, api_Near.v r2.Near)] ?_)))
 obtain ⟨r20, h21, hM⟩ := bind_some hM
 refine WL.callX (F0 := []) [] [] [false, false] (fun _ => _) [] (by kernel_rfl) (neigh_New_calls r2.Near _ h21) rfl rfl (by kernel_rfl) (by kernel_rfl) (fun _ => rfl) (fun A22 => ?_)
 refine WL.rn 5 [] [(11, .pointer A22), (12, .int .i64 r20)] ?_
 refine WP.done (WP.seq (WP.region (WL.rn 2 [0] [(58, slcV A4.2.2.2 r2.Routes.length)] ?_)))
 obtain ⟨r23, h24, hM⟩ := bind_some hM
 refine WL.callX (F0 := [Row 3 (pl api_Route.enc) noK A4.2.2.2 r2.Routes]) [] [] [false, false] (fun _ => _) [6] (by kernel_rfl) (vtep_laid_calls k A4.2.2.2 r2.Routes _ h24) rfl rfl (by kernel_rfl) (by kernel_rfl) (fun _ => rfl) (fun A25 => ?_)
 refine WL.rn 5 [] [(13, .pointer A25), (14, .bool r23)] ?_
 refine WP.done (WP.seq (WP.seq (WP.region (WL.rn 8 [0, 0] [(62, .int .i64 r9), (63, .int .i64 r13), (64, .int .i64 r17), (65, .int .i64 r20), (67, .int .u32 r2.Ip), (69, slcV A4.2.2.1 r2.Segs.length)] ?_))))
 obtain ⟨r26, h27, hM⟩ := bind_some hM
 refine WL.callP [] [] (vni_Check_calls k A4.2.2.1 r2.Ip r2.Segs _ h27) (sub_pick [5] (by kernel_rfl)) (by kernel_rfl) (by kernel_rfl) rfl ?_
 refine WL.rh 3 [] (fun b28 => [(71, .slice (some ⟨b28, 0, none⟩) 5 5), (72, .int .i64 5), (73, .int .i64 0)]) (fun b28 => []) (fun b28 => [(b28, .cells #[.int .i64 r9, .int .i64 r13, .int .i64 r17, .int .i64 r20, .int .i64 r26] 32 (0, 0))]) (fun b28 => ?_)
 refine WP.done (WP.block (WP.unroll 40 ?_))
 refine WP.seq (WP.rn [] [(74, .bool true)] ?_)
 refine WP.seq (WP.yes rfl rfl (WP.skip (WP.seq (WP.block (WP.seq ?_)))))
 refine WP.rn [2] [(16, .int .i64 r9), (75, .pointer (some ⟨b28, 0, none⟩)), (76, .int .i64 r9)] ?_
 refine WP.region (WL.rn 2 [] [(77, .bool r23), (78, .bool r23)] ?_)
 refine WL.bo 78 r23 3 [] [] (fun b' => [(81, .bool (b' && (r9 == 0)))]) ?_
 refine WL.rn 1 [] [(14, .bool (r23 && (r9 == 0)))] ?_
 refine WP.done (WP.leave (WP.rn [] [(73, .int .i64 1), (82, .int .i64 1)] ?_))
 refine WP.round ?_
 refine WP.seq (WP.rn [] [(74, .bool true)] ?_)
 refine WP.seq (WP.yes rfl rfl (WP.skip (WP.seq (WP.block (WP.seq ?_)))))
 refine WP.rn [2] [(16, .int .i64 r13), (75, .pointer (some ⟨b28, 1, none⟩)), (76, .int .i64 r13)] ?_
 refine WP.region (WL.rn 2 [] [(77, .bool (r23 && (r9 == 0))), (78, .bool (r23 && (r9 == 0)))] ?_)
 refine WL.bo 78 (r23 && (r9 == 0)) 3 [] [] (fun b' => [(81, .bool (b' && (r13 == 0)))]) ?_
 refine WL.rn 1 [] [(14, .bool ((r23 && (r9 == 0)) && (r13 == 0)))] ?_
 refine WP.done (WP.leave (WP.rn [] [(73, .int .i64 2), (82, .int .i64 2)] ?_))
 refine WP.round ?_
 refine WP.seq (WP.rn [] [(74, .bool true)] ?_)
 refine WP.seq (WP.yes rfl rfl (WP.skip (WP.seq (WP.block (WP.seq ?_)))))
 refine WP.rn [2] [(16, .int .i64 r17), (75, .pointer (some ⟨b28, 2, none⟩)), (76, .int .i64 r17)] ?_
 refine WP.region (WL.rn 2 [] [(77, .bool ((r23 && (r9 == 0)) && (r13 == 0))), (78, .bool ((r23 && (r9 == 0)) && (r13 == 0)))] ?_)
 refine WL.bo 78 ((r23 && (r9 == 0)) && (r13 == 0)) 3 [] [] (fun b' => [(81, .bool (b' && (r17 == 0)))]) ?_
 refine WL.rn 1 [] [(14, .bool (((r23 && (r9 == 0)) && (r13 == 0)) && (r17 == 0)))] ?_
 refine WP.done (WP.leave (WP.rn [] [(73, .int .i64 3), (82, .int .i64 3)] ?_))
 refine WP.round ?_
 refine WP.seq (WP.rn [] [(74, .bool true)] ?_)
 refine WP.seq (WP.yes rfl rfl (WP.skip (WP.seq (WP.block (WP.seq ?_)))))
 refine WP.rn [2] [(16, .int .i64 r20), (75, .pointer (some ⟨b28, 3, none⟩)), (76, .int .i64 r20)] ?_
 refine WP.region (WL.rn 2 [] [(77, .bool (((r23 && (r9 == 0)) && (r13 == 0)) && (r17 == 0))), (78, .bool (((r23 && (r9 == 0)) && (r13 == 0)) && (r17 == 0)))] ?_)
 refine WL.bo 78 (((r23 && (r9 == 0)) && (r13 == 0)) && (r17 == 0)) 3 [] [] (fun b' => [(81, .bool (b' && (r20 == 0)))]) ?_
 refine WL.rn 1 [] [(14, .bool ((((r23 && (r9 == 0)) && (r13 == 0)) && (r17 == 0)) && (r20 == 0)))] ?_
 refine WP.done (WP.leave (WP.rn [] [(73, .int .i64 4), (82, .int .i64 4)] ?_))
 refine WP.round ?_
 refine WP.seq (WP.rn [] [(74, .bool true)] ?_)
 refine WP.seq (WP.yes rfl rfl (WP.skip (WP.seq (WP.block (WP.seq ?_)))))
 refine WP.rn [2] [(16, .int .i64 r26), (75, .pointer (some ⟨b28, 4, none⟩)), (76, .int .i64 r26)] ?_
 refine WP.region (WL.rn 2 [] [(77, .bool ((((r23 && (r9 == 0)) && (r13 == 0)) && (r17 == 0)) && (r20 == 0))), (78, .bool ((((r23 && (r9 == 0)) && (r13 == 0)) && (r17 == 0)) && (r20 == 0)))] ?_)
 refine WL.bo 78 ((((r23 && (r9 == 0)) && (r13 == 0)) && (r17 == 0)) && (r20 == 0)) 3 [] [] (fun b' => [(81, .bool (b' && (r26 == 0)))]) ?_
 refine WL.rn 1 [] [(14, .bool (((((r23 && (r9 == 0)) && (r13 == 0)) && (r17 == 0)) && (r20 == 0)) && (r26 == 0)))] ?_
 refine WP.done (WP.leave (WP.rn [] [(73, .int .i64 5), (82, .int .i64 5)] ?_))
 refine WP.round ?_
 refine WP.seq (WP.rn [] [(74, .bool false)] ?_)
 refine WP.seq (WP.no rfl rfl (WP.exit rfl (WP.seq (WP.seq (WP.region (WL.rn 3 [] [(85, .bool (!(((((r23 && (r9 == 0)) && (r13 == 0)) && (r17 == 0)) && (r20 == 0)) && (r26 == 0))))] ?_))))))
 refine WL.bo 85 (!(((((r23 && (r9 == 0)) && (r13 == 0)) && (r17 == 0)) && (r20 == 0)) && (r26 == 0))) 7 [] [0, 0] (fun b' => [(92, .bool (b' || (r2.Near.Mac != r2.Mac)))]) ?_
 refine WL.rn 1 [] [(93, .bool ((!(((((r23 && (r9 == 0)) && (r13 == 0)) && (r17 == 0)) && (r20 == 0)) && (r26 == 0))) || (r2.Near.Mac != r2.Mac)))] ?_
 refine WL.bo 93 ((!(((((r23 && (r9 == 0)) && (r13 == 0)) && (r17 == 0)) && (r20 == 0)) && (r26 == 0))) || (r2.Near.Mac != r2.Mac)) 7 [] [0, 0] (fun b' => [(100, .bool (b' || (r2.Near.Ip != r2.Ip)))]) ?_
 refine WL.rn 1 [] [(101, .bool (((!(((((r23 && (r9 == 0)) && (r13 == 0)) && (r17 == 0)) && (r20 == 0)) && (r26 == 0))) || (r2.Near.Mac != r2.Mac)) || (r2.Near.Ip != r2.Ip)))] ?_
 refine WL.bo 101 (((!(((((r23 && (r9 == 0)) && (r13 == 0)) && (r17 == 0)) && (r20 == 0)) && (r26 == 0))) || (r2.Near.Mac != r2.Mac)) || (r2.Near.Ip != r2.Ip)) 4 [] [0] (fun b' => [(105, .bool (b' || (r2.Bridge == 0)))]) ?_
 refine WL.rn 1 [] [(106, .bool ((((!(((((r23 && (r9 == 0)) && (r13 == 0)) && (r17 == 0)) && (r20 == 0)) && (r26 == 0))) || (r2.Near.Mac != r2.Mac)) || (r2.Near.Ip != r2.Ip)) || (r2.Bridge == 0)))] ?_
 refine WL.bo 106 ((((!(((((r23 && (r9 == 0)) && (r13 == 0)) && (r17 == 0)) && (r20 == 0)) && (r26 == 0))) || (r2.Near.Mac != r2.Mac)) || (r2.Near.Ip != r2.Ip)) || (r2.Bridge == 0)) 4 [] [0] (fun b' => [(110, .bool (b' || (decide (r2.Most < 68))))]) ?_
 refine WL.rn 1 [] [(111, .bool (((((!(((((r23 && (r9 == 0)) && (r13 == 0)) && (r17 == 0)) && (r20 == 0)) && (r26 == 0))) || (r2.Near.Mac != r2.Mac)) || (r2.Near.Ip != r2.Ip)) || (r2.Bridge == 0)) || (decide (r2.Most < 68))))] ?_
 refine WL.bo 111 (((((!(((((r23 && (r9 == 0)) && (r13 == 0)) && (r17 == 0)) && (r20 == 0)) && (r26 == 0))) || (r2.Near.Mac != r2.Mac)) || (r2.Near.Ip != r2.Ip)) || (r2.Bridge == 0)) || (decide (r2.Most < 68))) 4 [] [0] (fun b' => [(115, .bool (b' || (decide (r2.Most > 65535))))]) ?_
 refine WP.done (WP.kp [true, true, false] ?_)
 refine WP.cond ((((((!(((((r23 && (r9 == 0)) && (r13 == 0)) && (r17 == 0)) && (r20 == 0)) && (r26 == 0))) || (r2.Near.Mac != r2.Mac)) || (r2.Near.Ip != r2.Ip)) || (r2.Bridge == 0)) || (decide (r2.Most < 68))) || (decide (r2.Most > 65535))) rfl rfl (fun c34 => ?_) (fun c34 => ?_)
 ·replace hM := cond_t hM c34
  refine WP.seq (WP.rn [] [(2, .pointer none), (3, .int .i64 240)] ?_)
  obtain rfl := Option.some.inj hM
  exact WP.ret [] [] (.tuple #[.pointer none, .int .i64 240]) (by kernel_rfl) (fun w' hw => ⟨(none : Option Addr), rfl, (hw.pick [] (by kernel_rfl)).less (sub_ret [] [7, 8, 9, 10] (by kernel_rfl) (by kernel_rfl))⟩)
 ·replace hM := cond_f hM c34
  refine WP.skip (WP.seq ?_)
  refine WP.rh [0, 0, 0, 0, 0, 0, 0, 0, 0, 0, 0, 0, 0, 0, 0, 0, 0, 0, 0, 0, 0, 1, 1, 1] (fun b35 => [(2, .pointer (some ⟨b35, 0, none⟩)), (3, .int .i64 0)]) (fun b35 => []) (fun b35 => [(b35, .cells #[.pointer A22, .pointer A19, .pointer A25, .int .u64 r2.Bridge, .int .u64 r2.Mac, .int .u32 r2.Ip, slcV A4.1 r2.Ports.length, slcV A4.2.1 r2.Edges.length, .int .i64 r2.Keep.Room, .int .i64 r2.Keep.Life, .int .i64 r2.Keep.Moves, .int .i64 r2.Keep.Window, .int .u64 r2.Near.Mac, .int .u32 r2.Near.Ip, .int .i64 r2.Near.Room, .int .i64 r2.Near.Life, .int .i64 r2.Near.Pend, .int .i64 r2.Near.Tries, .int .i64 r2.Near.Apart, .int .i64 r2.Heard, slcV A4.2.2.1 r2.Segs.length, slcV A4.2.2.2 r2.Routes.length, .int .i64 r2.Most, .bool r2.Answers, .pointer A11, .int .u64 r12.Bridge, slcV A15 r12.Ports.length, .int .i64 r12.Now, .int .i64 0, .int .i64 0, .int .i64 0, .int .i64 0, .int .i64 0, .int .i64 0, .int .i64 0, .int .i64 0, .int .i64 0, .int .i64 0, .int .i64 0, .int .i64 0, .int .i64 0, .slice none 0 0] 130 (0, 0))]) (fun b35 => ?_)
  refine WP.kp [false, false, true] ?_
  obtain rfl := Option.some.inj hM
  exact WP.ret [] [] (.tuple #[.pointer (some ⟨b35, 0, none⟩), .int .i64 0]) (by kernel_rfl) (fun w' hw => ⟨(some ⟨b35, 0, none⟩), rfl, (hw.pick [] (by kernel_rfl)).less (sub_ret [] [7, 8, 9, 10] (by kernel_rfl) (by kernel_rfl))⟩)
def config_Check.k2 (x29 : Bool) : Option (Int) :=
 bif x29 then
  some 270
 else
  some 0
def config_Check.k3 (x17 : (MapS Bool)) (a0 : (List api_Gate)) (x27 : Bool) : Option (Int) :=
 bif x27 then
  config_Check.k2 true
 else
  config_Check.k2 (decide ((MapS.len x17) < (a0.length : Int)))
def config_Check.l1 (a0 : (List api_Gate)) (k : Nat) : Nat → Int → Int → (MapS Bool) → (MapS Bool) → (MapS Bool) → Option (Int)
 | 0, _, _, _, _, _ => none
 | n + 1, x13, x14, x15, x16, x17 =>
  bif decide (x14 < (a0.length : Int)) then
   (getL a0.length a0 x14).bind fun t19 =>
   (vtep_New.f k t19.Bridge t19.Mac t19.Ip t19.Ports t19.Edges t19.Keep t19.Near t19.Heard t19.Segs t19.Routes t19.Most t19.Answers).bind fun r22 =>
   bif (r22 != 0) then
    some r22
   else
    config_Check.l1 a0 k n x13 (i64 (x14 + 1)) (MapS.set x15 t19.Ip true) (MapS.set x16 t19.Mac true) (MapS.set x17 t19.Bridge true)
  else
   bif decide ((MapS.len x15) < (a0.length : Int)) then
    config_Check.k3 x17 a0 true
   else
    config_Check.k3 x17 a0 (decide ((MapS.len x16) < (a0.length : Int)))
def config_Check.f (k : Nat) (a0 : (List api_Gate)) : Option (Int) :=
 bif decide ((a0.length : Int) > 16) then
  some 2
 else
  config_Check.l1 a0 k k 0 0 (MapS.nil : MapS Bool) (MapS.nil : MapS Bool) (MapS.nil : MapS Bool)
theorem config_Check_calls (k : Nat) (A00 : SkL ((SkL (SkL Unit)) × (SkL Unit) × (SkL (SkL Unit)) × (SkL Unit))) (a0 : (List api_Gate)) (r : Int) (h : config_Check.f k a0 = some r) : Pure Tryz.prog ([Row 21 api_Gate.encS api_Gate.inK A00 a0] ++ Glob) 11 #[slcV A00 a0.length] (.int .i64 r) := by
 intro w Z hS
 refine callsS (args := [slcV A00 a0.length]) (L := [(0, slcV A00 a0.length)]) (N := 59) Tryz.func11 hS ?_
 have hM := h
 clear h hS
 unfold config_Check.f at hM
 refine WP.seq (WP.rn [] [(2, .int .i64 0)] ?_)
 refine WP.seq (WP.seq (WP.rn [] [(12, .bool (decide ((a0.length : Int) > 16)))] ?_))
 refine WP.cond (decide ((a0.length : Int) > 16)) rfl rfl (fun c1 => ?_) (fun c1 => ?_)
 ·replace hM := cond_t hM c1
  refine WP.seq (WP.rn [] [(2, .int .i64 2)] ?_)
  obtain rfl := Option.some.inj hM
  exact WP.retF [] [] [0]
 ·replace hM := cond_f hM c1
  refine WP.skip (WP.seq ?_)
  refine WP.rh [] (fun b2 => [(3, .map (some b2)), (4, .map (some (b2 + 1))), (5, .map (some (b2 + 2)))]) (fun b2 => []) (fun b2 => [(b2, .map (mapE .u32 Value.bool (MapS.nil : MapS Bool)) (MapS.nil : MapS Bool).c), ((b2 + 1), .map (mapE .u64 Value.bool (MapS.nil : MapS Bool)) (MapS.nil : MapS Bool).c), ((b2 + 2), .map (mapE .u64 Value.bool (MapS.nil : MapS Bool)) (MapS.nil : MapS Bool).c)]) (fun b2 => ?_)
  refine WP.seq (WP.seq (WP.rn [] [(16, slcV A00 a0.length), (17, .int .i64 (a0.length : Int)), (18, .int .i64 0)] ?_))
  refine WP.block (WP.sub [0, 2, 3, 4, 5, 16, 17, 18] (L' := [(0, slcV A00 a0.length), (2, .int .i64 0), (3, .map (some b2)), (4, .map (some (b2 + 1))), (5, .map (some (b2 + 2))), (16, slcV A00 a0.length), (17, .int .i64 (a0.length : Int)), (18, .int .i64 0)]) (by kernel_rfl) ?_)
  refine WP.lessF [0] (F' := [Row 21 api_Gate.encS api_Gate.inK A00 a0]) (by kernel_rfl) ?_
  refine WP.loop (σ := Int × Int × (MapS Bool) × (MapS Bool) × (MapS Bool)) (fun n st => config_Check.l1 a0 k n st.1 st.2.1 st.2.2.1 st.2.2.2.1 st.2.2.2.2) r (fun st => [(0, slcV A00 a0.length), (2, .int .i64 st.1), (3, .map (some b2)), (4, .map (some (b2 + 1))), (5, .map (some (b2 + 2))), (16, slcV A00 a0.length), (17, .int .i64 (a0.length : Int)), (18, .int .i64 st.2.1)]) (fun st => Sat w Z [(b2, .map (mapE .u32 Value.bool st.2.2.1) st.2.2.1.c), ((b2 + 1), .map (mapE .u64 Value.bool st.2.2.2.1) st.2.2.2.1.c), ((b2 + 2), .map (mapE .u64 Value.bool st.2.2.2.2) st.2.2.2.2.c)] [] ([Row 21 api_Gate.encS api_Gate.inK A00 a0] ++ Glob)) (st := (0, 0, (MapS.nil : MapS Bool), (MapS.nil : MapS Bool), (MapS.nil : MapS Bool))) (fun n st hM => ?_) hM
  rcases n with _ | n
  ·exact nomatch (show (none : Option _) = some r from hM)
  obtain ⟨x13, x14, x15, x16, x17⟩ := st
  replace hM : config_Check.l1 a0 k (n + 1) x13 x14 x15 x16 x17 = some r := hM
  rw [config_Check.l1] at hM
  try dsimp only
  refine WP.seq (WP.rn [] [(19, .bool (decide (x14 < (a0.length : Int))))] ?_)
  refine WP.seq ?_
  refine WP.cond (decide (x14 < (a0.length : Int))) rfl rfl (fun c18 => ?_) (fun c18 => ?_)
  ·replace hM := cond_t hM c18
   refine WP.skip (WP.seq (WP.block (WP.seq (WP.region ?_))))
   obtain ⟨t19, h20, hM⟩ := bind_some hM
   refine WL.valF (φ := Row 21 api_Gate.encS api_Gate.inK A00 a0) (fact_at 0 rfl) (fun w hR => run_indexRowF (A := A00) (xs := a0) (i := x14) (k := .i64) (e := 73) (m := 21) (by kernel_rfl) (by kernel_rfl) h20 (by kernel_rfl) (by kernel_rfl) hR) (by kernel_rfl) (by kernel_rfl) rfl ?_
   refine WL.valF (φ := Row 21 api_Gate.encS api_Gate.inK A00 a0) (fact_at 0 rfl) (fun w hR => run_loadRowFA (A := A00) (xs := a0) (i := x14) (j := 0) (n := 21) (vs := [.int .u64 t19.Bridge, .int .u64 t19.Mac, .int .u32 t19.Ip, slcV ((A00.s (Int.toNat x14)).1) t19.Ports.length, slcV ((A00.s (Int.toNat x14)).2.1) t19.Edges.length, .int .i64 t19.Keep.Room, .int .i64 t19.Keep.Life, .int .i64 t19.Keep.Moves, .int .i64 t19.Keep.Window, .int .u64 t19.Near.Mac, .int .u32 t19.Near.Ip, .int .i64 t19.Near.Room, .int .i64 t19.Near.Life, .int .i64 t19.Near.Pend, .int .i64 t19.Near.Tries, .int .i64 t19.Near.Apart, .int .i64 t19.Heard, slcV ((A00.s (Int.toNat x14)).2.2.1) t19.Segs.length, slcV ((A00.s (Int.toNat x14)).2.2.2) t19.Routes.length, .int .i64 t19.Most, .bool t19.Answers]) h20 (fun _ => by kernel_rfl) (by kernel_rfl) (by kernel_rfl) (by kernel_rfl) rfl hR) (by kernel_rfl) (by kernel_rfl) rfl ?_
   refine WL.know (Row 3 api_PortCfg.encS api_PortCfg.inK ((A00.s (Int.toNat x14)).1) t19.Ports) [0] [Row 21 api_Gate.encS api_Gate.inK A00 a0] (by kernel_rfl) (fun w hψ => ((hψ _ (List.mem_singleton.2 rfl)).inner _ _ (getL_parts h20).2).1) ?_
   refine WL.know (Row 1 (pl encB) noK ((A00.s (Int.toNat x14)).2.1) t19.Edges) [1] [Row 21 api_Gate.encS api_Gate.inK A00 a0] (by kernel_rfl) (fun w hψ => ((hψ _ (List.mem_singleton.2 rfl)).inner _ _ (getL_parts h20).2).2.1) ?_
   refine WL.know (Row 3 api_Seg.encS api_Seg.inK ((A00.s (Int.toNat x14)).2.2.1) t19.Segs) [2] [Row 21 api_Gate.encS api_Gate.inK A00 a0] (by kernel_rfl) (fun w hψ => ((hψ _ (List.mem_singleton.2 rfl)).inner _ _ (getL_parts h20).2).2.2.1) ?_
   refine WL.know (Row 3 (pl api_Route.enc) noK ((A00.s (Int.toNat x14)).2.2.2) t19.Routes) [3] [Row 21 api_Gate.encS api_Gate.inK A00 a0] (by kernel_rfl) (fun w hψ => ((hψ _ (List.mem_singleton.2 rfl)).inner _ _ (getL_parts h20).2).2.2.2) ?_
   refine WL.rh 2 [3, 3, 3, 3, 3, 3, 3, 3, 3, 3, 3, 3, 3, 3, 3, 3, 3, 3, 3, 3, 3] (fun b21 => [(7, .pointer (some ⟨b21, 0, none⟩))]) (fun b21 => []) (fun b21 => [(b21, .cells #[.int .u64 t19.Bridge, .int .u64 t19.Mac, .int .u32 t19.Ip, slcV ((A00.s (Int.toNat x14)).1) t19.Ports.length, slcV ((A00.s (Int.toNat x14)).2.1) t19.Edges.length, .int .i64 t19.Keep.Room, .int .i64 t19.Keep.Life, .int .i64 t19.Keep.Moves, .int .i64 t19.Keep.Window, .int .u64 t19.Near.Mac, .int .u32 t19.Near.Ip, .int .i64 t19.Near.Room, .int .i64 t19.Near.Life, .int .i64 t19.Near.Pend, .int .i64 t19.Near.Tries, .int .i64 t19.Near.Apart, .int .i64 t19.Heard, slcV ((A00.s (Int.toNat x14)).2.2.1) t19.Segs.length, slcV ((A00.s (Int.toNat x14)).2.2.2) t19.Routes.length, .int .i64 t19.Most, .bool t19.Answers] 73 (0, 0))]) (fun b21 => ?_)
   refine WP.done (WP.seq (WP.seq (WP.region (WL.rn 1 [3, 3, 3, 3, 3, 3, 3, 3, 3, 3, 3, 3, 3, 3, 3, 3, 3, 3, 3, 3, 3] [(23, .agg #[.int .u64 t19.Bridge, .int .u64 t19.Mac, .int .u32 t19.Ip, slcV ((A00.s (Int.toNat x14)).1) t19.Ports.length, slcV ((A00.s (Int.toNat x14)).2.1) t19.Edges.length, .int .i64 t19.Keep.Room, .int .i64 t19.Keep.Life, .int .i64 t19.Keep.Moves, .int .i64 t19.Keep.Window, .int .u64 t19.Near.Mac, .int .u32 t19.Near.Ip, .int .i64 t19.Near.Room, .int .i64 t19.Near.Life, .int .i64 t19.Near.Pend, .int .i64 t19.Near.Tries, .int .i64 t19.Near.Apart, .int .i64 t19.Heard, slcV ((A00.s (Int.toNat x14)).2.2.1) t19.Segs.length, slcV ((A00.s (Int.toNat x14)).2.2.2) t19.Routes.length, .int .i64 t19.Most, .bool t19.Answers])] ?_))))
   obtain ⟨r22, h23, hM⟩ := bind_some hM
   refine WL.callX (F0 := [Row 3 api_PortCfg.encS api_PortCfg.inK ((A00.s (Int.toNat x14)).1) t19.Ports, Row 1 (pl encB) noK ((A00.s (Int.toNat x14)).2.1) t19.Edges, Row 3 api_Seg.encS api_Seg.inK ((A00.s (Int.toNat x14)).2.2.1) t19.Segs, Row 3 (pl api_Route.enc) noK ((A00.s (Int.toNat x14)).2.2.2) t19.Routes]) [] [] [false, false, false, false] (fun _ => _) [3, 2, 1, 0] (by kernel_rfl) (vtep_New_calls k ((A00.s (Int.toNat x14)).1) ((A00.s (Int.toNat x14)).2.1) ((A00.s (Int.toNat x14)).2.2.1) ((A00.s (Int.toNat x14)).2.2.2) t19.Bridge t19.Mac t19.Ip t19.Ports t19.Edges t19.Keep t19.Near t19.Heard t19.Segs t19.Routes t19.Most t19.Answers _ h23) rfl rfl (by kernel_rfl) (by kernel_rfl) (fun _ => rfl) (fun A24 => ?_)
   refine WL.rn 5 [] [(9, .int .i64 r22), (22, .tuple #[.pointer A24, .int .i64 r22]), (25, .pointer A24), (26, .int .i64 r22)] ?_
   refine WP.done (WP.seq (WP.rn [] [(27, .int .i64 r22), (28, .bool (r22 != 0))] ?_))
   refine WP.cond (r22 != 0) rfl rfl (fun c25 => ?_) (fun c25 => ?_)
   ·replace hM := cond_t hM c25
    refine WP.seq (WP.rn [] [(2, .int .i64 r22), (29, .int .i64 r22)] ?_)
    obtain rfl := Option.some.inj hM
    exact WP.retF [] [] [4]
   ·replace hM := cond_f hM c25
    refine WP.skip (WP.rs [0, 2, 3, 4, 5, 7, 9, 16, 17, 18, 19, 20, 21, 22, 23, 24, 25, 26, 27, 28] ?_)
    refine WP.graphF (X := Unit) 12 7 [⟨0, 9, fun _ => [(b2, .map (mapE .u32 Value.bool x15) x15.c)], fun _ => []⟩, ⟨0, 10, fun _ => [((b2 + 1), .map (mapE .u64 Value.bool x16) x16.c)], fun _ => []⟩, ⟨0, 11, fun _ => [((b2 + 2), .map (mapE .u64 Value.bool x17) x17.c)], fun _ => []⟩, ⟨0, 12, fun _ => [(b21, .cells #[.int .u64 t19.Bridge, .int .u64 t19.Mac, .int .u32 t19.Ip, slcV ((A00.s (Int.toNat x14)).1) t19.Ports.length, slcV ((A00.s (Int.toNat x14)).2.1) t19.Edges.length, .int .i64 t19.Keep.Room, .int .i64 t19.Keep.Life, .int .i64 t19.Keep.Moves, .int .i64 t19.Keep.Window, .int .u64 t19.Near.Mac, .int .u32 t19.Near.Ip, .int .i64 t19.Near.Room, .int .i64 t19.Near.Life, .int .i64 t19.Near.Pend, .int .i64 t19.Near.Tries, .int .i64 t19.Near.Apart, .int .i64 t19.Heard, slcV ((A00.s (Int.toNat x14)).2.2.1) t19.Segs.length, slcV ((A00.s (Int.toNat x14)).2.2.2) t19.Routes.length, .int .i64 t19.Most, .bool t19.Answers] 73 (0, 0))], fun _ => []⟩, ⟨10, 12, fun _ => [(b2, .map (mapE .u32 Value.bool (MapS.set x15 t19.Ip true)) (MapS.set x15 t19.Ip true).c)], fun _ => []⟩, ⟨11, 12, fun _ => [((b2 + 1), .map (mapE .u64 Value.bool (MapS.set x16 t19.Mac true)) (MapS.set x16 t19.Mac true).c)], fun _ => []⟩, ⟨12, 12, fun _ => [((b2 + 2), .map (mapE .u64 Value.bool (MapS.set x17 t19.Bridge true)) (MapS.set x17 t19.Bridge true).c)], fun _ => []⟩] [⟨[], [], [], [], [], fun _ => .map (some b2), fun _ => []⟩, ⟨[], [], [], [], [], fun _ => .pointer (some ⟨b21, 2, none⟩), fun _ => []⟩, ⟨[1], [3], [3], [], [], fun _ => .int .u32 t19.Ip, fun _ => []⟩, ⟨[], [], [], [], [], fun _ => .map (some (b2 + 1)), fun _ => []⟩, ⟨[], [], [], [], [], fun _ => .pointer (some ⟨b21, 1, none⟩), fun _ => []⟩, ⟨[4], [3], [3], [], [], fun _ => .int .u64 t19.Mac, fun _ => []⟩, ⟨[], [], [], [], [], fun _ => .map (some (b2 + 2)), fun _ => []⟩, ⟨[], [], [], [], [], fun _ => .pointer (some ⟨b21, 0, none⟩), fun _ => []⟩, ⟨[7], [3], [3], [], [], fun _ => .int .u64 t19.Bridge, fun _ => []⟩, ⟨[0, 1, 2], [0], [4], [], [], fun _ => .tuple #[], fun _ => []⟩, ⟨[0, 1, 2, 3, 4, 5, 9], [1], [5], [], [], fun _ => .tuple #[], fun _ => []⟩, ⟨[0, 1, 2, 3, 4, 5, 6, 7, 8, 9, 10], [2], [6], [], [], fun _ => .tuple #[], fun _ => []⟩] (fun ξ => [(30, .map (some b2)), (31, .pointer (some ⟨b21, 2, none⟩)), (32, .int .u32 t19.Ip), (33, .map (some (b2 + 1))), (34, .pointer (some ⟨b21, 1, none⟩)), (35, .int .u64 t19.Mac), (36, .map (some (b2 + 2))), (37, .pointer (some ⟨b21, 0, none⟩)), (38, .int .u64 t19.Bridge)]) (fun ξ => [(b21, .cells #[.int .u64 t19.Bridge, .int .u64 t19.Mac, .int .u32 t19.Ip, slcV ((A00.s (Int.toNat x14)).1) t19.Ports.length, slcV ((A00.s (Int.toNat x14)).2.1) t19.Edges.length, .int .i64 t19.Keep.Room, .int .i64 t19.Keep.Life, .int .i64 t19.Keep.Moves, .int .i64 t19.Keep.Window, .int .u64 t19.Near.Mac, .int .u32 t19.Near.Ip, .int .i64 t19.Near.Room, .int .i64 t19.Near.Life, .int .i64 t19.Near.Pend, .int .i64 t19.Near.Tries, .int .i64 t19.Near.Apart, .int .i64 t19.Heard, slcV ((A00.s (Int.toNat x14)).2.2.1) t19.Segs.length, slcV ((A00.s (Int.toNat x14)).2.2.2) t19.Routes.length, .int .i64 t19.Most, .bool t19.Answers] 73 (0, 0)), (b2, .map (mapE .u32 Value.bool (MapS.set x15 t19.Ip true)) (MapS.set x15 t19.Ip true).c), ((b2 + 1), .map (mapE .u64 Value.bool (MapS.set x16 t19.Mac true)) (MapS.set x16 t19.Mac true).c), ((b2 + 2), .map (mapE .u64 Value.bool (MapS.set x17 t19.Bridge true)) (MapS.set x17 t19.Bridge true).c)]) (fun ξ => []) (fun ξ => []) (AllN.cons ?_ (AllN.cons ?_ (AllN.cons ?_ (AllN.cons ?_ (AllN.cons ?_ (AllN.cons ?_ (AllN.cons ?_ (AllN.cons ?_ (AllN.cons ?_ (AllN.cons ?_ (AllN.cons ?_ (AllN.cons ?_ AllN.nil)))))))))))) (AllN.cons (VAgr.c rfl) (AllN.cons (VAgr.c rfl) (AllN.cons (VAgr.c rfl) (AllN.cons (VAgr.c rfl) (AllN.cons (VAgr.c rfl) (AllN.cons (VAgr.c rfl) (AllN.cons (VAgr.c rfl) (AllN.cons (VAgr.c rfl) (AllN.cons (VAgr.c rfl) (AllN.cons (VAgr.c rfl) (AllN.cons (VAgr.c rfl) (AllN.cons (VAgr.c rfl) AllN.nil)))))))))))) (AllN.cons (RAgr.c rfl) (AllN.cons (RAgr.c rfl) (AllN.cons (RAgr.c rfl) (AllN.cons (RAgr.c rfl) (AllN.cons (RAgr.c rfl) (AllN.cons (RAgr.c rfl) (AllN.cons (RAgr.c rfl) AllN.nil))))))) (fun ξ => ?_)
    ·
     intro o t ho ht ξ Gr Γr Lr Q hk
     cases ho; cases ht
     refine WL.rn 1 [] [(30, .map (some b2))] ?_
     exact WL.fin (hk default)
    ·
     intro o t ho ht ξ Gr Γr Lr Q hk
     cases ho; cases ht
     refine WL.rn 1 [] [(31, .pointer (some ⟨b21, 2, none⟩))] ?_
     exact WL.fin (hk default)
    ·
     intro o t ho ht ξ Gr Γr Lr Q hk
     cases ho; cases ht
     refine WL.rn 1 [0] [(32, .int .u32 t19.Ip)] ?_
     exact WL.fin (hk default)
    ·
     intro o t ho ht ξ Gr Γr Lr Q hk
     cases ho; cases ht
     refine WL.rn 1 [] [(33, .map (some (b2 + 1)))] ?_
     exact WL.fin (hk default)
    ·
     intro o t ho ht ξ Gr Γr Lr Q hk
     cases ho; cases ht
     refine WL.rn 1 [] [(34, .pointer (some ⟨b21, 1, none⟩))] ?_
     exact WL.fin (hk default)
    ·
     intro o t ho ht ξ Gr Γr Lr Q hk
     cases ho; cases ht
     refine WL.rn 1 [0] [(35, .int .u64 t19.Mac)] ?_
     exact WL.fin (hk default)
    ·
     intro o t ho ht ξ Gr Γr Lr Q hk
     cases ho; cases ht
     refine WL.rn 1 [] [(36, .map (some (b2 + 2)))] ?_
     exact WL.fin (hk default)
    ·
     intro o t ho ht ξ Gr Γr Lr Q hk
     cases ho; cases ht
     refine WL.rn 1 [] [(37, .pointer (some ⟨b21, 0, none⟩))] ?_
     exact WL.fin (hk default)
    ·
     intro o t ho ht ξ Gr Γr Lr Q hk
     cases ho; cases ht
     refine WL.rn 1 [0] [(38, .int .u64 t19.Bridge)] ?_
     exact WL.fin (hk default)
    ·
     intro o t ho ht ξ Gr Γr Lr Q hk
     cases ho; cases ht
     refine WL.mapSet (kt := 49) (et := 4) (kk := .u32) (f := Value.bool) (m := x15) (b := b2) (k := t19.Ip) 0 true (by kernel_rfl) (by kernel_rfl) (by kernel_rfl) (by kernel_rfl) (by kernel_rfl) (by kernel_rfl) (by kernel_rfl) (by kernel_rfl) ?_
     exact WL.fin (hk default)
    ·
     intro o t ho ht ξ Gr Γr Lr Q hk
     cases ho; cases ht
     refine WL.mapSet (kt := 36) (et := 4) (kk := .u64) (f := Value.bool) (m := x16) (b := (b2 + 1)) (k := t19.Mac) 0 true (by kernel_rfl) (by kernel_rfl) (by kernel_rfl) (by kernel_rfl) (by kernel_rfl) (by kernel_rfl) (by kernel_rfl) (by kernel_rfl) ?_
     exact WL.fin (hk default)
    ·
     intro o t ho ht ξ Gr Γr Lr Q hk
     cases ho; cases ht
     refine WL.mapSet (kt := 36) (et := 4) (kk := .u64) (f := Value.bool) (m := x17) (b := (b2 + 2)) (k := t19.Bridge) 0 true (by kernel_rfl) (by kernel_rfl) (by kernel_rfl) (by kernel_rfl) (by kernel_rfl) (by kernel_rfl) (by kernel_rfl) (by kernel_rfl) ?_
     exact WL.fin (hk default)
    refine WP.less (Φ' := ([Row 3 (pl api_Route.enc) noK ((A00.s (Int.toNat x14)).2.2.2) t19.Routes, Row 3 api_Seg.encS api_Seg.inK ((A00.s (Int.toNat x14)).2.2.1) t19.Segs, Row 1 (pl encB) noK ((A00.s (Int.toNat x14)).2.1) t19.Edges, Row 3 api_PortCfg.encS api_PortCfg.inK ((A00.s (Int.toNat x14)).1) t19.Ports, Row 21 api_Gate.encS api_Gate.inK A00 a0] ++ Glob)) (fun _ h => h) ?_
    refine WP.leave (WP.rn [] [(18, .int .i64 (i64 (x14 + 1))), (39, .int .i64 (i64 (x14 + 1)))] ?_)
    exact WP.again' [0, 2, 3, 4, 5, 16, 17, 18] (x13, i64 (x14 + 1), (MapS.set x15 t19.Ip true), (MapS.set x16 t19.Mac true), (MapS.set x17 t19.Bridge true)) hM (by kernel_rfl) (fun _ h => (h.pick [1, 2, 3] (by kernel_rfl)).lessF [4] (by kernel_rfl))
  ·replace hM := cond_f hM c18
   refine WP.exit rfl (WP.seq (WP.seq (WP.region (WL.rn 1 [] [(40, .map (some b2))] ?_))))
   refine WL.mapLen (kt := 49) (et := 4) (f := Value.bool) (m := x15) (b := b2) (kk := .u32) 0 rfl (by kernel_rfl) (by kernel_rfl) (by kernel_rfl) (by kernel_rfl) (by kernel_rfl) rfl ?_
   refine WL.rn 4 [] [(45, .bool (decide ((MapS.len x15) < (a0.length : Int))))] ?_
   refine WL.join (σ := Bool) 6 (fun st => config_Check.k3 x17 a0 st = some r) (fun st => [(0, slcV A00 a0.length), (2, .int .i64 x13), (5, .map (some (b2 + 2))), (51, .bool st)]) (fun st => Sat w Z [((b2 + 2), .map (mapE .u64 Value.bool x17) x17.c)] [] ([Row 21 api_Gate.encS api_Gate.inK A00 a0] ++ Glob)) (fun st hM => ?_) (fun K3 => ?_)
   ·
    obtain ⟨x27, rfl⟩ : ∃ y, y = st := ⟨st, rfl⟩
    replace hM : config_Check.k3 x17 a0 x27 = some r := hM
    unfold config_Check.k3 at hM
    try dsimp only
    refine WL.rn 1 [] [(52, .bool x27)] ?_
    refine WL.join (σ := Bool) 6 (fun st => config_Check.k2 st = some r) (fun st => [(2, .int .i64 x13), (58, .bool st)]) (fun st => Sat w Z [] [] ([Row 21 api_Gate.encS api_Gate.inK A00 a0] ++ Glob)) (fun st hM => ?_) (fun K2 => ?_)
    ·
     obtain ⟨x29, rfl⟩ : ∃ y, y = st := ⟨st, rfl⟩
     replace hM : config_Check.k2 x29 = some r := hM
     unfold config_Check.k2 at hM
     try dsimp only
     refine WP.done ?_
     refine WP.cond x29 rfl rfl (fun c30 => ?_) (fun c30 => ?_)
     ·replace hM := cond_t hM c30
      refine WP.seq (WP.rn [] [(2, .int .i64 270)] ?_)
      obtain rfl := Option.some.inj hM
      exact WP.retF [] [] [0]
     ·replace hM := cond_f hM c30
      refine WP.skip (WP.seq (WP.rn [] [(2, .int .i64 0)] ?_))
      obtain rfl := Option.some.inj hM
      exact WP.retF [] [] [0]
    ·
     refine WL.sp 52 x27 (fun c28 => ?_) (fun c28 => ?_)
     ·replace hM := cond_t hM c28
      refine WL.rn 6 [] [(58, .bool true)] ?_
      exact WL.sub [2, 58] (by kernel_rfl) (WL.pick [] (by kernel_rfl) (by kernel_rfl) (WL.lessF [0] (by kernel_rfl) (K2 true hM)))
     ·replace hM := cond_f hM c28
      refine WL.rn 1 [] [(53, .map (some (b2 + 2)))] ?_
      refine WL.mapLen (kt := 36) (et := 4) (f := Value.bool) (m := x17) (b := (b2 + 2)) (kk := .u64) 0 rfl (by kernel_rfl) (by kernel_rfl) (by kernel_rfl) (by kernel_rfl) (by kernel_rfl) rfl ?_
      refine WL.rn 4 [] [(58, .bool (decide ((MapS.len x17) < (a0.length : Int))))] ?_
      exact WL.sub [2, 58] (by kernel_rfl) (WL.pick [] (by kernel_rfl) (by kernel_rfl) (WL.lessF [0] (by kernel_rfl) (K2 (decide ((MapS.len x17) < (a0.length : Int))) hM)))
   ·
    refine WL.sp 45 (decide ((MapS.len x15) < (a0.length : Int))) (fun c26 => ?_) (fun c26 => ?_)
    ·replace hM := cond_t hM c26
     refine WL.rn 6 [] [(51, .bool true)] ?_
     exact WL.sub [0, 2, 5, 51] (by kernel_rfl) (WL.pick [2] (by kernel_rfl) (by kernel_rfl) (WL.lessF [0] (by kernel_rfl) (K3 true hM)))
    ·replace hM := cond_f hM c26
     refine WL.rn 1 [] [(46, .map (some (b2 + 1)))] ?_
     refine WL.mapLen (kt := 36) (et := 4) (f := Value.bool) (m := x16) (b := (b2 + 1)) (kk := .u64) 1 rfl (by kernel_rfl) (by kernel_rfl) (by kernel_rfl) (by kernel_rfl) (by kernel_rfl) rfl ?_
     refine WL.rn 4 [] [(51, .bool (decide ((MapS.len x16) < (a0.length : Int))))] ?_
     exact WL.sub [0, 2, 5, 51] (by kernel_rfl) (WL.pick [2] (by kernel_rfl) (by kernel_rfl) (WL.lessF [0] (by kernel_rfl) (K3 (decide ((MapS.len x16) < (a0.length : Int))) hM)))
def gangwaylaw24_Two.f : Option (api_Gate) :=
 some (api_Gate.mk 9 2 1 ([(api_PortCfg.mk false 5 ([] : List Int)), (api_PortCfg.mk false 5 ([] : List Int))] : List api_PortCfg) ([true, true] : List Bool) (api_Keep.mk 8 99 2 9) (api_Near.mk 2 1 8 99 4 2 3) 50 ([(api_Seg.mk 5 1000 ([7, 8] : List Int))] : List api_Seg) ([(api_Route.mk (api_Net.mk 0 0) 0)] : List api_Route) 1500 true)
theorem gangwaylaw24_Two_calls (r : api_Gate) (h : gangwaylaw24_Two.f = some r) : Does Tryz.prog 39 #[] [] ([] ++ Glob) (fun x : ((SkL (SkL Unit)) × (SkL Unit) × (SkL (SkL Unit)) × (SkL Unit)) => .agg #[.int .u64 r.Bridge, .int .u64 r.Mac, .int .u32 r.Ip, slcV x.1 r.Ports.length, slcV x.2.1 r.Edges.length, .int .i64 r.Keep.Room, .int .i64 r.Keep.Life, .int .i64 r.Keep.Moves, .int .i64 r.Keep.Window, .int .u64 r.Near.Mac, .int .u32 r.Near.Ip, .int .i64 r.Near.Room, .int .i64 r.Near.Life, .int .i64 r.Near.Pend, .int .i64 r.Near.Tries, .int .i64 r.Near.Apart, .int .i64 r.Heard, slcV x.2.2.1 r.Segs.length, slcV x.2.2.2 r.Routes.length, .int .i64 r.Most, .bool r.Answers]) (fun x => []) (fun _ => []) (fun x => [Row 3 api_PortCfg.encS api_PortCfg.inK x.1 r.Ports, Row 1 (pl encB) noK x.2.1 r.Edges, Row 3 api_Seg.encS api_Seg.inK x.2.2.1 r.Segs, Row 3 (pl api_Route.enc) noK x.2.2.2 r.Routes] ++ ([] ++ Glob)) := by
 intro w Z hS
 refine callsS (args := []) (L := []) (N := 13) Tryz.func39 hS ?_
 have hM := h
 clear h hS
 unfold gangwaylaw24_Two.f at hM
 refine WP.seq ?_
 refine WP.rh [] (fun b1 => [(0, .pointer (some ⟨b1, 0, none⟩))]) (fun b1 => []) (fun b1 => [(b1, .cells #[.int .u64 0, .int .u64 0, .int .u32 0, .slice none 0 0, .slice none 0 0, .int .i64 0, .int .i64 0, .int .i64 0, .int .i64 0, .int .u64 0, .int .u32 0, .int .i64 0, .int .i64 0, .int .i64 0, .int .i64 0, .int .i64 0, .int .i64 0, .slice none 0 0, .slice none 0 0, .int .i64 0, .bool false] 73 (0, 0))]) (fun b1 => ?_)
 refine WP.seq ?_
 refine WP.rh [0, 0, 0, 0, 0, 0, 0, 0, 0, 0, 0, 0, 0, 0, 0, 0, 0, 0, 0, 0, 0] (fun b2 => []) (fun b2 => [(0, 0, [.int .u64 9, .int .u64 2, .int .u32 1, .slice (some ⟨b2, 0, none⟩) 2 2, .slice (some ⟨(b2 + 1), 0, none⟩) 2 2, .int .i64 8, .int .i64 99, .int .i64 2, .int .i64 9, .int .u64 2, .int .u32 1, .int .i64 8, .int .i64 99, .int .i64 4, .int .i64 2, .int .i64 3, .int .i64 50, .slice (some ⟨(b2 + 3), 0, none⟩) 1 1, .slice (some ⟨(b2 + 4), 0, none⟩) 1 1, .int .i64 1500, .bool true])]) (fun b2 => [(b2, .cells #[.bool false, .int .i64 5, .slice none 0 0, .bool false, .int .i64 5, .slice none 0 0] 84 (0, 0)), ((b2 + 1), .cells #[.bool true, .bool true] 4 (0, 0)), ((b2 + 2), .cells #[.int .u32 7, .int .u32 8] 49 (0, 0)), ((b2 + 3), .cells #[.int .i64 5, .int .i64 1000, .slice (some ⟨(b2 + 2), 0, none⟩) 2 2] 93 (0, 0)), ((b2 + 4), .cells #[.int .u32 0, .int .i64 0, .int .u32 0] 162 (0, 0))]) (fun b2 => ?_)
 refine WP.know (Row 1 (pl (encI .i64)) noK (SkL.nil (fun _ => ())) ([] : List Int)) [] [] (by kernel_rfl) (fun w _ => RowP.empty (fun _ => rfl)) ?_
 refine WP.ice (H' := [(b1, .cells #[.int .u64 9, .int .u64 2, .int .u32 1, slcV (SkL.at b2 2 (skF [(SkL.nil (fun _ => ())), (SkL.nil (fun _ => ()))] (SkL.nil (fun _ => ())))) ([(api_PortCfg.mk false 5 ([] : List Int)), (api_PortCfg.mk false 5 ([] : List Int))] : List api_PortCfg).length, .slice (some ⟨(b2 + 1), 0, none⟩) 2 2, .int .i64 8, .int .i64 99, .int .i64 2, .int .i64 9, .int .u64 2, .int .u32 1, .int .i64 8, .int .i64 99, .int .i64 4, .int .i64 2, .int .i64 3, .int .i64 50, .slice (some ⟨(b2 + 3), 0, none⟩) 1 1, .slice (some ⟨(b2 + 4), 0, none⟩) 1 1, .int .i64 1500, .bool true] 73 (0, 0)), ((b2 + 1), .cells #[.bool true, .bool true] 4 (0, 0)), ((b2 + 2), .cells #[.int .u32 7, .int .u32 8] 49 (0, 0)), ((b2 + 3), .cells #[.int .i64 5, .int .i64 1000, .slice (some ⟨(b2 + 2), 0, none⟩) 2 2] 93 (0, 0)), ((b2 + 4), .cells #[.int .u32 0, .int .i64 0, .int .u32 0] 162 (0, 0))]) (Row 3 api_PortCfg.encS api_PortCfg.inK (SkL.at b2 2 (skF [(SkL.nil (fun _ => ())), (SkL.nil (fun _ => ()))] (SkL.nil (fun _ => ())))) ([(api_PortCfg.mk false 5 ([] : List Int)), (api_PortCfg.mk false 5 ([] : List Int))] : List api_PortCfg)) 1 (b := b2) (ob := .cells #[.bool false, .int .i64 5, .slice none 0 0, .bool false, .int .i64 5, .slice none 0 0] 84 (0, 0)) (by kernel_rfl) [0, 0] [Row 1 (pl (encI .i64)) noK (SkL.nil (fun _ => ())) ([] : List Int), Row 1 (pl (encI .i64)) noK (SkL.nil (fun _ => ())) ([] : List Int)] (by kernel_rfl) (fun w hb hψ => row_of_block hb (fun _ _ => rfl) ⟨[], by kernel_rfl⟩ (Nat.le_of_ble_eq_true rfl) (And.intro (hψ _ (List.mem_of_getElem? (i := 0) rfl)) (And.intro (hψ _ (List.mem_of_getElem? (i := 1) rfl)) trivial))) (by kernel_rfl) ?_
 refine WP.ice (H' := [(b1, .cells #[.int .u64 9, .int .u64 2, .int .u32 1, slcV (SkL.at b2 2 (skF [(SkL.nil (fun _ => ())), (SkL.nil (fun _ => ()))] (SkL.nil (fun _ => ())))) ([(api_PortCfg.mk false 5 ([] : List Int)), (api_PortCfg.mk false 5 ([] : List Int))] : List api_PortCfg).length, slcV (SkL.at (b2 + 1) 2 (fun _ => ())) ([true, true] : List Bool).length, .int .i64 8, .int .i64 99, .int .i64 2, .int .i64 9, .int .u64 2, .int .u32 1, .int .i64 8, .int .i64 99, .int .i64 4, .int .i64 2, .int .i64 3, .int .i64 50, .slice (some ⟨(b2 + 3), 0, none⟩) 1 1, .slice (some ⟨(b2 + 4), 0, none⟩) 1 1, .int .i64 1500, .bool true] 73 (0, 0)), ((b2 + 2), .cells #[.int .u32 7, .int .u32 8] 49 (0, 0)), ((b2 + 3), .cells #[.int .i64 5, .int .i64 1000, .slice (some ⟨(b2 + 2), 0, none⟩) 2 2] 93 (0, 0)), ((b2 + 4), .cells #[.int .u32 0, .int .i64 0, .int .u32 0] 162 (0, 0))]) (Row 1 (pl encB) noK (SkL.at (b2 + 1) 2 (fun _ => ())) ([true, true] : List Bool)) 1 (b := (b2 + 1)) (ob := .cells #[.bool true, .bool true] 4 (0, 0)) (by kernel_rfl) [] [] (by kernel_rfl) (fun w hb hψ => row_of_block hb (fun _ _ => rfl) ⟨[], by kernel_rfl⟩ (Nat.le_of_ble_eq_true rfl) (InK.no _ _)) (by kernel_rfl) ?_
 refine WP.ice (H' := [(b1, .cells #[.int .u64 9, .int .u64 2, .int .u32 1, slcV (SkL.at b2 2 (skF [(SkL.nil (fun _ => ())), (SkL.nil (fun _ => ()))] (SkL.nil (fun _ => ())))) ([(api_PortCfg.mk false 5 ([] : List Int)), (api_PortCfg.mk false 5 ([] : List Int))] : List api_PortCfg).length, slcV (SkL.at (b2 + 1) 2 (fun _ => ())) ([true, true] : List Bool).length, .int .i64 8, .int .i64 99, .int .i64 2, .int .i64 9, .int .u64 2, .int .u32 1, .int .i64 8, .int .i64 99, .int .i64 4, .int .i64 2, .int .i64 3, .int .i64 50, .slice (some ⟨(b2 + 3), 0, none⟩) 1 1, .slice (some ⟨(b2 + 4), 0, none⟩) 1 1, .int .i64 1500, .bool true] 73 (0, 0)), ((b2 + 3), .cells #[.int .i64 5, .int .i64 1000, slcV (SkL.at (b2 + 2) 2 (fun _ => ())) ([7, 8] : List Int).length] 93 (0, 0)), ((b2 + 4), .cells #[.int .u32 0, .int .i64 0, .int .u32 0] 162 (0, 0))]) (Row 1 (pl (encI .u32)) noK (SkL.at (b2 + 2) 2 (fun _ => ())) ([7, 8] : List Int)) 1 (b := (b2 + 2)) (ob := .cells #[.int .u32 7, .int .u32 8] 49 (0, 0)) (by kernel_rfl) [] [] (by kernel_rfl) (fun w hb hψ => row_of_block hb (fun _ _ => rfl) ⟨[], by kernel_rfl⟩ (Nat.le_of_ble_eq_true rfl) (InK.no _ _)) (by kernel_rfl) ?_
 refine WP.ice (H' := [(b1, .cells #[.int .u64 9, .int .u64 2, .int .u32 1, slcV (SkL.at b2 2 (skF [(SkL.nil (fun _ => ())), (SkL.nil (fun _ => ()))] (SkL.nil (fun _ => ())))) ([(api_PortCfg.mk false 5 ([] : List Int)), (api_PortCfg.mk false 5 ([] : List Int))] : List api_PortCfg).length, slcV (SkL.at (b2 + 1) 2 (fun _ => ())) ([true, true] : List Bool).length, .int .i64 8, .int .i64 99, .int .i64 2, .int .i64 9, .int .u64 2, .int .u32 1, .int .i64 8, .int .i64 99, .int .i64 4, .int .i64 2, .int .i64 3, .int .i64 50, slcV (SkL.at (b2 + 3) 1 (skF [(SkL.at (b2 + 2) 2 (fun _ => ()))] (SkL.nil (fun _ => ())))) ([(api_Seg.mk 5 1000 ([7, 8] : List Int))] : List api_Seg).length, .slice (some ⟨(b2 + 4), 0, none⟩) 1 1, .int .i64 1500, .bool true] 73 (0, 0)), ((b2 + 4), .cells #[.int .u32 0, .int .i64 0, .int .u32 0] 162 (0, 0))]) (Row 3 api_Seg.encS api_Seg.inK (SkL.at (b2 + 3) 1 (skF [(SkL.at (b2 + 2) 2 (fun _ => ()))] (SkL.nil (fun _ => ())))) ([(api_Seg.mk 5 1000 ([7, 8] : List Int))] : List api_Seg)) 1 (b := (b2 + 3)) (ob := .cells #[.int .i64 5, .int .i64 1000, slcV (SkL.at (b2 + 2) 2 (fun _ => ())) ([7, 8] : List Int).length] 93 (0, 0)) (by kernel_rfl) [0] [Row 1 (pl (encI .u32)) noK (SkL.at (b2 + 2) 2 (fun _ => ())) ([7, 8] : List Int)] (by kernel_rfl) (fun w hb hψ => row_of_block hb (fun _ _ => rfl) ⟨[], by kernel_rfl⟩ (Nat.le_of_ble_eq_true rfl) (And.intro (hψ _ (List.mem_of_getElem? (i := 0) rfl)) trivial)) (by kernel_rfl) ?_
 refine WP.ice (H' := [(b1, .cells #[.int .u64 9, .int .u64 2, .int .u32 1, slcV (SkL.at b2 2 (skF [(SkL.nil (fun _ => ())), (SkL.nil (fun _ => ()))] (SkL.nil (fun _ => ())))) ([(api_PortCfg.mk false 5 ([] : List Int)), (api_PortCfg.mk false 5 ([] : List Int))] : List api_PortCfg).length, slcV (SkL.at (b2 + 1) 2 (fun _ => ())) ([true, true] : List Bool).length, .int .i64 8, .int .i64 99, .int .i64 2, .int .i64 9, .int .u64 2, .int .u32 1, .int .i64 8, .int .i64 99, .int .i64 4, .int .i64 2, .int .i64 3, .int .i64 50, slcV (SkL.at (b2 + 3) 1 (skF [(SkL.at (b2 + 2) 2 (fun _ => ()))] (SkL.nil (fun _ => ())))) ([(api_Seg.mk 5 1000 ([7, 8] : List Int))] : List api_Seg).length, slcV (SkL.at (b2 + 4) 1 (fun _ => ())) ([(api_Route.mk (api_Net.mk 0 0) 0)] : List api_Route).length, .int .i64 1500, .bool true] 73 (0, 0))]) (Row 3 (pl api_Route.enc) noK (SkL.at (b2 + 4) 1 (fun _ => ())) ([(api_Route.mk (api_Net.mk 0 0) 0)] : List api_Route)) 1 (b := (b2 + 4)) (ob := .cells #[.int .u32 0, .int .i64 0, .int .u32 0] 162 (0, 0)) (by kernel_rfl) [] [] (by kernel_rfl) (fun w hb hψ => row_of_block hb (fun _ _ => rfl) ⟨[], by kernel_rfl⟩ (Nat.le_of_ble_eq_true rfl) (InK.no _ _)) (by kernel_rfl) ?_
 obtain rfl := Option.some.inj hM
 exact WP.ret [0, 0, 0, 0, 0, 0, 0, 0, 0, 0, 0, 0, 0, 0, 0, 0, 0, 0, 0, 0, 0] [b1, b1, b1, b1, b1, b1, b1, b1, b1, b1, b1, b1, b1, b1, b1, b1, b1, b1, b1, b1, b1] (.agg #[.int .u64 9, .int .u64 2, .int .u32 1, slcV (SkL.at b2 2 (skF [(SkL.nil (fun _ => ())), (SkL.nil (fun _ => ()))] (SkL.nil (fun _ => ())))) ([(api_PortCfg.mk false 5 ([] : List Int)), (api_PortCfg.mk false 5 ([] : List Int))] : List api_PortCfg).length, slcV (SkL.at (b2 + 1) 2 (fun _ => ())) ([true, true] : List Bool).length, .int .i64 8, .int .i64 99, .int .i64 2, .int .i64 9, .int .u64 2, .int .u32 1, .int .i64 8, .int .i64 99, .int .i64 4, .int .i64 2, .int .i64 3, .int .i64 50, slcV (SkL.at (b2 + 3) 1 (skF [(SkL.at (b2 + 2) 2 (fun _ => ()))] (SkL.nil (fun _ => ())))) ([(api_Seg.mk 5 1000 ([7, 8] : List Int))] : List api_Seg).length, slcV (SkL.at (b2 + 4) 1 (fun _ => ())) ([(api_Route.mk (api_Net.mk 0 0) 0)] : List api_Route).length, .int .i64 1500, .bool true]) (by kernel_rfl) (fun w' hw => ⟨((SkL.at b2 2 (skF [(SkL.nil (fun _ => ())), (SkL.nil (fun _ => ()))] (SkL.nil (fun _ => ())))), (SkL.at (b2 + 1) 2 (fun _ => ())), (SkL.at (b2 + 3) 1 (skF [(SkL.at (b2 + 2) 2 (fun _ => ()))] (SkL.nil (fun _ => ())))), (SkL.at (b2 + 4) 1 (fun _ => ()))), rfl, (hw.pick [] (by kernel_rfl)).less (sub_ret [4, 3, 1, 0] [] (by kernel_rfl) (by kernel_rfl))⟩)
def gangwaylaw27_Pair.f : Option ((List api_Gate)) :=
 (gangwaylaw24_Two.f).bind fun r1 =>
 (gangwaylaw24_Two.f).bind fun r4 =>
 some ([(api_Gate.mk r1.Bridge r1.Mac r1.Ip r1.Ports r1.Edges r1.Keep r1.Near r1.Heard ([(api_Seg.mk 5 1000 ([7] : List Int))] : List api_Seg) r1.Routes r1.Most r1.Answers), (api_Gate.mk 10 14 7 r4.Ports r4.Edges r4.Keep (api_Near.mk 14 7 r4.Near.Room r4.Near.Life r4.Near.Pend r4.Near.Tries r4.Near.Apart) r4.Heard ([(api_Seg.mk 5 1000 ([1] : List Int))] : List api_Seg) r4.Routes r4.Most r4.Answers)] : List api_Gate)
theorem gangwaylaw27_Pair_calls (r : (List api_Gate)) (h : gangwaylaw27_Pair.f = some r) : Does Tryz.prog 18 #[] [] ([] ++ Glob) (fun x : (SkL ((SkL (SkL Unit)) × (SkL Unit) × (SkL (SkL Unit)) × (SkL Unit))) => slcV x r.length) (fun x => []) (fun _ => []) (fun x => [Row 21 api_Gate.encS api_Gate.inK x r] ++ ([] ++ Glob)) := by
 intro w Z hS
 refine callsS (args := []) (L := []) (N := 23) Tryz.func18 hS ?_
 have hM := h
 clear h hS
 unfold gangwaylaw27_Pair.f at hM
 refine WP.seq (WP.rn [] [(0, .slice none 0 0)] ?_)
 refine WP.seq (WP.region ?_)
 obtain ⟨r1, h2, hM⟩ := bind_some hM
 refine WL.callX (F0 := []) [] [] [] (fun _ => _) [] (by kernel_rfl) (gangwaylaw24_Two_calls _ h2) rfl rfl (by kernel_rfl) (by kernel_rfl) (fun _ => rfl) (fun A3 => ?_)
 obtain ⟨r4, h5, hM⟩ := bind_some hM
 refine WL.callX (F0 := []) [] [] [] (fun _ => _) [] (by kernel_rfl) (gangwaylaw24_Two_calls _ h5) rfl rfl (by kernel_rfl) (by kernel_rfl) (fun _ => rfl) (fun A6 => ?_)
 refine WL.rh 4 [0, 0, 0, 0, 0, 0, 0, 0, 0, 0, 0, 0, 0, 0, 0, 0, 0, 0, 0, 0, 0, 1, 1, 1, 1, 1, 1, 1, 1, 1, 1, 1, 1, 1, 1, 1, 1, 1, 1, 1, 1, 1] (fun b7 => [(1, .pointer (some ⟨b7, 0, none⟩)), (2, .pointer (some ⟨(b7 + 1), 0, none⟩))]) (fun b7 => []) (fun b7 => [(b7, .cells #[.int .u64 r1.Bridge, .int .u64 r1.Mac, .int .u32 r1.Ip, slcV A3.1 r1.Ports.length, slcV A3.2.1 r1.Edges.length, .int .i64 r1.Keep.Room, .int .i64 r1.Keep.Life, .int .i64 r1.Keep.Moves, .int .i64 r1.Keep.Window, .int .u64 r1.Near.Mac, .int .u32 r1.Near.Ip, .int .i64 r1.Near.Room, .int .i64 r1.Near.Life, .int .i64 r1.Near.Pend, .int .i64 r1.Near.Tries, .int .i64 r1.Near.Apart, .int .i64 r1.Heard, slcV A3.2.2.1 r1.Segs.length, slcV A3.2.2.2 r1.Routes.length, .int .i64 r1.Most, .bool r1.Answers] 73 (0, 0)), ((b7 + 1), .cells #[.int .u64 r4.Bridge, .int .u64 r4.Mac, .int .u32 r4.Ip, slcV A6.1 r4.Ports.length, slcV A6.2.1 r4.Edges.length, .int .i64 r4.Keep.Room, .int .i64 r4.Keep.Life, .int .i64 r4.Keep.Moves, .int .i64 r4.Keep.Window, .int .u64 r4.Near.Mac, .int .u32 r4.Near.Ip, .int .i64 r4.Near.Room, .int .i64 r4.Near.Life, .int .i64 r4.Near.Pend, .int .i64 r4.Near.Tries, .int .i64 r4.Near.Apart, .int .i64 r4.Heard, slcV A6.2.2.1 r4.Segs.length, slcV A6.2.2.2 r4.Routes.length, .int .i64 r4.Most, .bool r4.Answers] 73 (0, 0))]) (fun b7 => ?_)
 refine WP.done (WP.seq ?_)
 refine WP.rh [0] (fun b8 => []) (fun b8 => [(0, 17, [.slice (some ⟨(b8 + 1), 0, none⟩) 1 1])]) (fun b8 => [(b8, .cells #[.int .u32 7] 49 (0, 0)), ((b8 + 1), .cells #[.int .i64 5, .int .i64 1000, .slice (some ⟨b8, 0, none⟩) 1 1] 93 (0, 0))]) (fun b8 => ?_)
 refine WP.seq ?_
 refine WP.rh [1] (fun b9 => []) (fun b9 => [(1, 17, [.slice (some ⟨(b9 + 1), 0, none⟩) 1 1])]) (fun b9 => [(b9, .cells #[.int .u32 1] 49 (0, 0)), ((b9 + 1), .cells #[.int .i64 5, .int .i64 1000, .slice (some ⟨b9, 0, none⟩) 1 1] 93 (0, 0))]) (fun b9 => ?_)
 refine WP.seq ?_
 refine WP.rh [1] (fun _ => []) (fun _ => [(1, 0, [.int .u64 10])]) (fun _ => []) (fun _ => ?_)
 refine WP.seq ?_
 refine WP.rh [1] (fun _ => []) (fun _ => [(1, 1, [.int .u64 14])]) (fun _ => []) (fun _ => ?_)
 refine WP.seq ?_
 refine WP.rh [1] (fun _ => []) (fun _ => [(1, 9, [.int .u64 14])]) (fun _ => []) (fun _ => ?_)
 refine WP.seq ?_
 refine WP.rh [1] (fun _ => []) (fun _ => [(1, 2, [.int .u32 7])]) (fun _ => []) (fun _ => ?_)
 refine WP.seq ?_
 refine WP.rh [1] (fun _ => []) (fun _ => [(1, 10, [.int .u32 7])]) (fun _ => []) (fun _ => ?_)
 refine WP.seq ?_
 refine WP.rh [0, 0, 0, 0, 0, 0, 0, 0, 0, 0, 0, 0, 0, 0, 0, 0, 0, 0, 0, 0, 0, 1, 1, 1, 1, 1, 1, 1, 1, 1, 1, 1, 1, 1, 1, 1, 1, 1, 1, 1, 1, 1] (fun b10 => [(0, .slice (some ⟨b10, 0, none⟩) 2 2)]) (fun b10 => []) (fun b10 => [(b10, .cells #[.int .u64 r1.Bridge, .int .u64 r1.Mac, .int .u32 r1.Ip, slcV A3.1 r1.Ports.length, slcV A3.2.1 r1.Edges.length, .int .i64 r1.Keep.Room, .int .i64 r1.Keep.Life, .int .i64 r1.Keep.Moves, .int .i64 r1.Keep.Window, .int .u64 r1.Near.Mac, .int .u32 r1.Near.Ip, .int .i64 r1.Near.Room, .int .i64 r1.Near.Life, .int .i64 r1.Near.Pend, .int .i64 r1.Near.Tries, .int .i64 r1.Near.Apart, .int .i64 r1.Heard, .slice (some ⟨(b8 + 1), 0, none⟩) 1 1, slcV A3.2.2.2 r1.Routes.length, .int .i64 r1.Most, .bool r1.Answers, .int .u64 10, .int .u64 14, .int .u32 7, slcV A6.1 r4.Ports.length, slcV A6.2.1 r4.Edges.length, .int .i64 r4.Keep.Room, .int .i64 r4.Keep.Life, .int .i64 r4.Keep.Moves, .int .i64 r4.Keep.Window, .int .u64 14, .int .u32 7, .int .i64 r4.Near.Room, .int .i64 r4.Near.Life, .int .i64 r4.Near.Pend, .int .i64 r4.Near.Tries, .int .i64 r4.Near.Apart, .int .i64 r4.Heard, .slice (some ⟨(b9 + 1), 0, none⟩) 1 1, slcV A6.2.2.2 r4.Routes.length, .int .i64 r4.Most, .bool r4.Answers] 73 (0, 0))]) (fun b10 => ?_)
 refine WP.kp [false, false, true, true, true, true, true] ?_
 refine WP.ice (H' := [((b8 + 1), .cells #[.int .i64 5, .int .i64 1000, slcV (SkL.at b8 1 (fun _ => ())) ([7] : List Int).length] 93 (0, 0)), (b9, .cells #[.int .u32 1] 49 (0, 0)), ((b9 + 1), .cells #[.int .i64 5, .int .i64 1000, .slice (some ⟨b9, 0, none⟩) 1 1] 93 (0, 0)), (b10, .cells #[.int .u64 r1.Bridge, .int .u64 r1.Mac, .int .u32 r1.Ip, slcV A3.1 r1.Ports.length, slcV A3.2.1 r1.Edges.length, .int .i64 r1.Keep.Room, .int .i64 r1.Keep.Life, .int .i64 r1.Keep.Moves, .int .i64 r1.Keep.Window, .int .u64 r1.Near.Mac, .int .u32 r1.Near.Ip, .int .i64 r1.Near.Room, .int .i64 r1.Near.Life, .int .i64 r1.Near.Pend, .int .i64 r1.Near.Tries, .int .i64 r1.Near.Apart, .int .i64 r1.Heard, .slice (some ⟨(b8 + 1), 0, none⟩) 1 1, slcV A3.2.2.2 r1.Routes.length, .int .i64 r1.Most, .bool r1.Answers, .int .u64 10, .int .u64 14, .int .u32 7, slcV A6.1 r4.Ports.length, slcV A6.2.1 r4.Edges.length, .int .i64 r4.Keep.Room, .int .i64 r4.Keep.Life, .int .i64 r4.Keep.Moves, .int .i64 r4.Keep.Window, .int .u64 14, .int .u32 7, .int .i64 r4.Near.Room, .int .i64 r4.Near.Life, .int .i64 r4.Near.Pend, .int .i64 r4.Near.Tries, .int .i64 r4.Near.Apart, .int .i64 r4.Heard, .slice (some ⟨(b9 + 1), 0, none⟩) 1 1, slcV A6.2.2.2 r4.Routes.length, .int .i64 r4.Most, .bool r4.Answers] 73 (0, 0))]) (Row 1 (pl (encI .u32)) noK (SkL.at b8 1 (fun _ => ())) ([7] : List Int)) 0 (b := b8) (ob := .cells #[.int .u32 7] 49 (0, 0)) (by kernel_rfl) [] [] (by kernel_rfl) (fun w hb hψ => row_of_block hb (fun _ _ => rfl) ⟨[], by kernel_rfl⟩ (Nat.le_of_ble_eq_true rfl) (InK.no _ _)) (by kernel_rfl) ?_
 refine WP.ice (H' := [(b9, .cells #[.int .u32 1] 49 (0, 0)), ((b9 + 1), .cells #[.int .i64 5, .int .i64 1000, .slice (some ⟨b9, 0, none⟩) 1 1] 93 (0, 0)), (b10, .cells #[.int .u64 r1.Bridge, .int .u64 r1.Mac, .int .u32 r1.Ip, slcV A3.1 r1.Ports.length, slcV A3.2.1 r1.Edges.length, .int .i64 r1.Keep.Room, .int .i64 r1.Keep.Life, .int .i64 r1.Keep.Moves, .int .i64 r1.Keep.Window, .int .u64 r1.Near.Mac, .int .u32 r1.Near.Ip, .int .i64 r1.Near.Room, .int .i64 r1.Near.Life, .int .i64 r1.Near.Pend, .int .i64 r1.Near.Tries, .int .i64 r1.Near.Apart, .int .i64 r1.Heard, slcV (SkL.at (b8 + 1) 1 (skF [(SkL.at b8 1 (fun _ => ()))] (SkL.nil (fun _ => ())))) ([(api_Seg.mk 5 1000 ([7] : List Int))] : List api_Seg).length, slcV A3.2.2.2 r1.Routes.length, .int .i64 r1.Most, .bool r1.Answers, .int .u64 10, .int .u64 14, .int .u32 7, slcV A6.1 r4.Ports.length, slcV A6.2.1 r4.Edges.length, .int .i64 r4.Keep.Room, .int .i64 r4.Keep.Life, .int .i64 r4.Keep.Moves, .int .i64 r4.Keep.Window, .int .u64 14, .int .u32 7, .int .i64 r4.Near.Room, .int .i64 r4.Near.Life, .int .i64 r4.Near.Pend, .int .i64 r4.Near.Tries, .int .i64 r4.Near.Apart, .int .i64 r4.Heard, .slice (some ⟨(b9 + 1), 0, none⟩) 1 1, slcV A6.2.2.2 r4.Routes.length, .int .i64 r4.Most, .bool r4.Answers] 73 (0, 0))]) (Row 3 api_Seg.encS api_Seg.inK (SkL.at (b8 + 1) 1 (skF [(SkL.at b8 1 (fun _ => ()))] (SkL.nil (fun _ => ())))) ([(api_Seg.mk 5 1000 ([7] : List Int))] : List api_Seg)) 0 (b := (b8 + 1)) (ob := .cells #[.int .i64 5, .int .i64 1000, slcV (SkL.at b8 1 (fun _ => ())) ([7] : List Int).length] 93 (0, 0)) (by kernel_rfl) [0] [Row 1 (pl (encI .u32)) noK (SkL.at b8 1 (fun _ => ())) ([7] : List Int)] (by kernel_rfl) (fun w hb hψ => row_of_block hb (fun _ _ => rfl) ⟨[], by kernel_rfl⟩ (Nat.le_of_ble_eq_true rfl) (And.intro (hψ _ (List.mem_of_getElem? (i := 0) rfl)) trivial)) (by kernel_rfl) ?_
 refine WP.ice (H' := [((b9 + 1), .cells #[.int .i64 5, .int .i64 1000, slcV (SkL.at b9 1 (fun _ => ())) ([1] : List Int).length] 93 (0, 0)), (b10, .cells #[.int .u64 r1.Bridge, .int .u64 r1.Mac, .int .u32 r1.Ip, slcV A3.1 r1.Ports.length, slcV A3.2.1 r1.Edges.length, .int .i64 r1.Keep.Room, .int .i64 r1.Keep.Life, .int .i64 r1.Keep.Moves, .int .i64 r1.Keep.Window, .int .u64 r1.Near.Mac, .int .u32 r1.Near.Ip, .int .i64 r1.Near.Room, .int .i64 r1.Near.Life, .int .i64 r1.Near.Pend, .int .i64 r1.Near.Tries, .int .i64 r1.Near.Apart, .int .i64 r1.Heard, slcV (SkL.at (b8 + 1) 1 (skF [(SkL.at b8 1 (fun _ => ()))] (SkL.nil (fun _ => ())))) ([(api_Seg.mk 5 1000 ([7] : List Int))] : List api_Seg).length, slcV A3.2.2.2 r1.Routes.length, .int .i64 r1.Most, .bool r1.Answers, .int .u64 10, .int .u64 14, .int .u32 7, slcV A6.1 r4.Ports.length, slcV A6.2.1 r4.Edges.length, .int .i64 r4.Keep.Room, .int .i64 r4.Keep.Life, .int .i64 r4.Keep.Moves, .int .i64 r4.Keep.Window, .int .u64 14, .int .u32 7, .int .i64 r4.Near.Room, .int .i64 r4.Near.Life, .int .i64 r4.Near.Pend, .int .i64 r4.Near.Tries, .int .i64 r4.Near.Apart, .int .i64 r4.Heard, .slice (some ⟨(b9 + 1), 0, none⟩) 1 1, slcV A6.2.2.2 r4.Routes.length, .int .i64 r4.Most, .bool r4.Answers] 73 (0, 0))]) (Row 1 (pl (encI .u32)) noK (SkL.at b9 1 (fun _ => ())) ([1] : List Int)) 0 (b := b9) (ob := .cells #[.int .u32 1] 49 (0, 0)) (by kernel_rfl) [] [] (by kernel_rfl) (fun w hb hψ => row_of_block hb (fun _ _ => rfl) ⟨[], by kernel_rfl⟩ (Nat.le_of_ble_eq_true rfl) (InK.no _ _)) (by kernel_rfl) ?_
 refine WP.ice (H' := [(b10, .cells #[.int .u64 r1.Bridge, .int .u64 r1.Mac, .int .u32 r1.Ip, slcV A3.1 r1.Ports.length, slcV A3.2.1 r1.Edges.length, .int .i64 r1.Keep.Room, .int .i64 r1.Keep.Life, .int .i64 r1.Keep.Moves, .int .i64 r1.Keep.Window, .int .u64 r1.Near.Mac, .int .u32 r1.Near.Ip, .int .i64 r1.Near.Room, .int .i64 r1.Near.Life, .int .i64 r1.Near.Pend, .int .i64 r1.Near.Tries, .int .i64 r1.Near.Apart, .int .i64 r1.Heard, slcV (SkL.at (b8 + 1) 1 (skF [(SkL.at b8 1 (fun _ => ()))] (SkL.nil (fun _ => ())))) ([(api_Seg.mk 5 1000 ([7] : List Int))] : List api_Seg).length, slcV A3.2.2.2 r1.Routes.length, .int .i64 r1.Most, .bool r1.Answers, .int .u64 10, .int .u64 14, .int .u32 7, slcV A6.1 r4.Ports.length, slcV A6.2.1 r4.Edges.length, .int .i64 r4.Keep.Room, .int .i64 r4.Keep.Life, .int .i64 r4.Keep.Moves, .int .i64 r4.Keep.Window, .int .u64 14, .int .u32 7, .int .i64 r4.Near.Room, .int .i64 r4.Near.Life, .int .i64 r4.Near.Pend, .int .i64 r4.Near.Tries, .int .i64 r4.Near.Apart, .int .i64 r4.Heard, slcV (SkL.at (b9 + 1) 1 (skF [(SkL.at b9 1 (fun _ => ()))] (SkL.nil (fun _ => ())))) ([(api_Seg.mk 5 1000 ([1] : List Int))] : List api_Seg).length, slcV A6.2.2.2 r4.Routes.length, .int .i64 r4.Most, .bool r4.Answers] 73 (0, 0))]) (Row 3 api_Seg.encS api_Seg.inK (SkL.at (b9 + 1) 1 (skF [(SkL.at b9 1 (fun _ => ()))] (SkL.nil (fun _ => ())))) ([(api_Seg.mk 5 1000 ([1] : List Int))] : List api_Seg)) 0 (b := (b9 + 1)) (ob := .cells #[.int .i64 5, .int .i64 1000, slcV (SkL.at b9 1 (fun _ => ())) ([1] : List Int).length] 93 (0, 0)) (by kernel_rfl) [0] [Row 1 (pl (encI .u32)) noK (SkL.at b9 1 (fun _ => ())) ([1] : List Int)] (by kernel_rfl) (fun w hb hψ => row_of_block hb (fun _ _ => rfl) ⟨[], by kernel_rfl⟩ (Nat.le_of_ble_eq_true rfl) (And.intro (hψ _ (List.mem_of_getElem? (i := 0) rfl)) trivial)) (by kernel_rfl) ?_
 refine WP.ice (H' := []) (Row 21 api_Gate.encS api_Gate.inK (SkL.at b10 2 (skF [(A3.1, A3.2.1, (SkL.at (b8 + 1) 1 (skF [(SkL.at b8 1 (fun _ => ()))] (SkL.nil (fun _ => ())))), A3.2.2.2), (A6.1, A6.2.1, (SkL.at (b9 + 1) 1 (skF [(SkL.at b9 1 (fun _ => ()))] (SkL.nil (fun _ => ())))), A6.2.2.2)] ((SkL.nil (fun _ => (SkL.nil (fun _ => ())))), (SkL.nil (fun _ => ())), (SkL.nil (fun _ => (SkL.nil (fun _ => ())))), (SkL.nil (fun _ => ()))))) ([(api_Gate.mk r1.Bridge r1.Mac r1.Ip r1.Ports r1.Edges r1.Keep r1.Near r1.Heard ([(api_Seg.mk 5 1000 ([7] : List Int))] : List api_Seg) r1.Routes r1.Most r1.Answers), (api_Gate.mk 10 14 7 r4.Ports r4.Edges r4.Keep (api_Near.mk 14 7 r4.Near.Room r4.Near.Life r4.Near.Pend r4.Near.Tries r4.Near.Apart) r4.Heard ([(api_Seg.mk 5 1000 ([1] : List Int))] : List api_Seg) r4.Routes r4.Most r4.Answers)] : List api_Gate)) 0 (b := b10) (ob := .cells #[.int .u64 r1.Bridge, .int .u64 r1.Mac, .int .u32 r1.Ip, slcV A3.1 r1.Ports.length, slcV A3.2.1 r1.Edges.length, .int .i64 r1.Keep.Room, .int .i64 r1.Keep.Life, .int .i64 r1.Keep.Moves, .int .i64 r1.Keep.Window, .int .u64 r1.Near.Mac, .int .u32 r1.Near.Ip, .int .i64 r1.Near.Room, .int .i64 r1.Near.Life, .int .i64 r1.Near.Pend, .int .i64 r1.Near.Tries, .int .i64 r1.Near.Apart, .int .i64 r1.Heard, slcV (SkL.at (b8 + 1) 1 (skF [(SkL.at b8 1 (fun _ => ()))] (SkL.nil (fun _ => ())))) ([(api_Seg.mk 5 1000 ([7] : List Int))] : List api_Seg).length, slcV A3.2.2.2 r1.Routes.length, .int .i64 r1.Most, .bool r1.Answers, .int .u64 10, .int .u64 14, .int .u32 7, slcV A6.1 r4.Ports.length, slcV A6.2.1 r4.Edges.length, .int .i64 r4.Keep.Room, .int .i64 r4.Keep.Life, .int .i64 r4.Keep.Moves, .int .i64 r4.Keep.Window, .int .u64 14, .int .u32 7, .int .i64 r4.Near.Room, .int .i64 r4.Near.Life, .int .i64 r4.Near.Pend, .int .i64 r4.Near.Tries, .int .i64 r4.Near.Apart, .int .i64 r4.Heard, slcV (SkL.at (b9 + 1) 1 (skF [(SkL.at b9 1 (fun _ => ()))] (SkL.nil (fun _ => ())))) ([(api_Seg.mk 5 1000 ([1] : List Int))] : List api_Seg).length, slcV A6.2.2.2 r4.Routes.length, .int .i64 r4.Most, .bool r4.Answers] 73 (0, 0)) (by kernel_rfl) [8, 9, 2, 11, 4, 5, 0, 7] [Row 3 api_PortCfg.encS api_PortCfg.inK A3.1 r1.Ports, Row 1 (pl encB) noK A3.2.1 r1.Edges, Row 3 api_Seg.encS api_Seg.inK (SkL.at (b8 + 1) 1 (skF [(SkL.at b8 1 (fun _ => ()))] (SkL.nil (fun _ => ())))) ([(api_Seg.mk 5 1000 ([7] : List Int))] : List api_Seg), Row 3 (pl api_Route.enc) noK A3.2.2.2 r1.Routes, Row 3 api_PortCfg.encS api_PortCfg.inK A6.1 r4.Ports, Row 1 (pl encB) noK A6.2.1 r4.Edges, Row 3 api_Seg.encS api_Seg.inK (SkL.at (b9 + 1) 1 (skF [(SkL.at b9 1 (fun _ => ()))] (SkL.nil (fun _ => ())))) ([(api_Seg.mk 5 1000 ([1] : List Int))] : List api_Seg), Row 3 (pl api_Route.enc) noK A6.2.2.2 r4.Routes] (by kernel_rfl) (fun w hb hψ => row_of_block hb (fun _ _ => rfl) ⟨[], by kernel_rfl⟩ (Nat.le_of_ble_eq_true rfl) (And.intro (And.intro (hψ _ (List.mem_of_getElem? (i := 0) rfl)) (And.intro (hψ _ (List.mem_of_getElem? (i := 1) rfl)) (And.intro (hψ _ (List.mem_of_getElem? (i := 2) rfl)) (hψ _ (List.mem_of_getElem? (i := 3) rfl))))) (And.intro (And.intro (hψ _ (List.mem_of_getElem? (i := 4) rfl)) (And.intro (hψ _ (List.mem_of_getElem? (i := 5) rfl)) (And.intro (hψ _ (List.mem_of_getElem? (i := 6) rfl)) (hψ _ (List.mem_of_getElem? (i := 7) rfl))))) trivial))) (by kernel_rfl) ?_
 obtain rfl := Option.some.inj hM
 exact WP.ret [] [] (slcV (SkL.at b10 2 (skF [(A3.1, A3.2.1, (SkL.at (b8 + 1) 1 (skF [(SkL.at b8 1 (fun _ => ()))] (SkL.nil (fun _ => ())))), A3.2.2.2), (A6.1, A6.2.1, (SkL.at (b9 + 1) 1 (skF [(SkL.at b9 1 (fun _ => ()))] (SkL.nil (fun _ => ())))), A6.2.2.2)] ((SkL.nil (fun _ => (SkL.nil (fun _ => ())))), (SkL.nil (fun _ => ())), (SkL.nil (fun _ => (SkL.nil (fun _ => ())))), (SkL.nil (fun _ => ()))))) ([(api_Gate.mk r1.Bridge r1.Mac r1.Ip r1.Ports r1.Edges r1.Keep r1.Near r1.Heard ([(api_Seg.mk 5 1000 ([7] : List Int))] : List api_Seg) r1.Routes r1.Most r1.Answers), (api_Gate.mk 10 14 7 r4.Ports r4.Edges r4.Keep (api_Near.mk 14 7 r4.Near.Room r4.Near.Life r4.Near.Pend r4.Near.Tries r4.Near.Apart) r4.Heard ([(api_Seg.mk 5 1000 ([1] : List Int))] : List api_Seg) r4.Routes r4.Most r4.Answers)] : List api_Gate).length) (by kernel_rfl) (fun w' hw => ⟨(SkL.at b10 2 (skF [(A3.1, A3.2.1, (SkL.at (b8 + 1) 1 (skF [(SkL.at b8 1 (fun _ => ()))] (SkL.nil (fun _ => ())))), A3.2.2.2), (A6.1, A6.2.1, (SkL.at (b9 + 1) 1 (skF [(SkL.at b9 1 (fun _ => ()))] (SkL.nil (fun _ => ())))), A6.2.2.2)] ((SkL.nil (fun _ => (SkL.nil (fun _ => ())))), (SkL.nil (fun _ => ())), (SkL.nil (fun _ => (SkL.nil (fun _ => ())))), (SkL.nil (fun _ => ()))))), rfl, (hw.pick [] (by kernel_rfl)).less (sub_ret [0] [] (by kernel_rfl) (by kernel_rfl))⟩)
def ether_tag.f (a0 : api_Tag) : Option (Bool) :=
 bif !a0.Has then
  some ((a0.Has == false) && ((a0.Pri == 0) && ((a0.Dei == false) && ((a0.Vid == 0) && true))))
 else
  some ((((decide (a0.Pri ≥ 0)) && (decide (a0.Pri < 8))) && (decide (a0.Vid ≥ 0))) && (decide (a0.Vid < 4096)))
theorem ether_tag_calls (a0 : api_Tag) (r : Bool) (h : ether_tag.f a0 = some r) : Pure Tryz.prog Glob 121 #[api_Tag.v a0] (.bool r) := by
 intro w Z hS
 refine callsS (args := [api_Tag.v a0]) (L := [(0, api_Tag.v a0)]) (N := 27) Tryz.func121 hS ?_
 have hM := h
 clear h hS
 unfold ether_tag.f at hM
 refine WP.seq ?_
 refine WP.rh [] (fun b1 => [(1, .pointer (some ⟨b1, 0, none⟩)), (2, .bool false)]) (fun b1 => []) (fun b1 => [(b1, api_Tag.o a0)]) (fun b1 => ?_)
 refine WP.seq (WP.seq (WP.rn [0] [(5, .bool (!a0.Has))] ?_))
 refine WP.cond (!a0.Has) rfl rfl (fun c2 => ?_) (fun c2 => ?_)
 ·replace hM := cond_t hM c2
  refine WP.seq (WP.region (WL.rn 2 [0, 0, 0, 0] [(6, api_Tag.v a0), (7, .agg #[.bool false, .int .i64 0, .bool false, .int .i64 0])] ?_))
  refine WL.val (fun _ => run_structEq (xs := #[.bool a0.Has, .int .i64 a0.Pri, .bool a0.Dei, .int .i64 a0.Vid]) (ys := #[.bool false, .int .i64 0, .bool false, .int .i64 0]) (b := ((a0.Has == false) && ((a0.Pri == 0) && ((a0.Dei == false) && ((a0.Vid == 0) && true))))) (by kernel_rfl) (by kernel_rfl) (by kernel_rfl) (by kernel_rfl)) (by kernel_rfl) (by kernel_rfl) rfl ?_
  refine WL.rn 1 [] [(2, .bool ((a0.Has == false) && ((a0.Pri == 0) && ((a0.Dei == false) && ((a0.Vid == 0) && true)))))] ?_
  refine WP.done ?_
  obtain rfl := Option.some.inj hM
  exact WP.retQ [] []
 ·replace hM := cond_f hM c2
  refine WP.skip (WP.seq (WP.region (WL.rn 4 [0] [(12, .bool (decide (a0.Pri ≥ 0)))] ?_)))
  refine WL.bo 12 (decide (a0.Pri ≥ 0)) 4 [0] [] (fun b' => [(16, .bool (b' && (decide (a0.Pri < 8))))]) ?_
  refine WL.rn 1 [] [(17, .bool ((decide (a0.Pri ≥ 0)) && (decide (a0.Pri < 8))))] ?_
  refine WL.bo 17 ((decide (a0.Pri ≥ 0)) && (decide (a0.Pri < 8))) 4 [0] [] (fun b' => [(21, .bool (b' && (decide (a0.Vid ≥ 0))))]) ?_
  refine WL.rn 1 [] [(22, .bool (((decide (a0.Pri ≥ 0)) && (decide (a0.Pri < 8))) && (decide (a0.Vid ≥ 0))))] ?_
  refine WL.bo 22 (((decide (a0.Pri ≥ 0)) && (decide (a0.Pri < 8))) && (decide (a0.Vid ≥ 0))) 4 [0] [] (fun b' => [(26, .bool (b' && (decide (a0.Vid < 4096))))]) ?_
  refine WL.rn 1 [] [(2, .bool ((((decide (a0.Pri ≥ 0)) && (decide (a0.Pri < 8))) && (decide (a0.Vid ≥ 0))) && (decide (a0.Vid < 4096))))] ?_
  refine WP.done (WP.kp [false] ?_)
  obtain rfl := Option.some.inj hM
  exact WP.retQ [] []
def ether_size.k1 (x3 : Int) : Option (Int) :=
 some x3
def ether_size.f (a0 : api_Frame) : Option (Int) :=
 bif a0.Tag.Has then
  ether_size.k1 (i64 ((i64 (14 + (a0.Body.size : Int))) + 4))
 else
  ether_size.k1 (i64 (14 + (a0.Body.size : Int)))
theorem ether_size_calls (a0 : api_Frame) (r : Int) (h : ether_size.f a0 = some r) : Pure Tryz.prog Glob 122 #[api_Frame.v a0] (.int .i64 r) := by
 intro w Z hS
 refine callsS (args := [api_Frame.v a0]) (L := [(0, api_Frame.v a0)]) (N := 14) Tryz.func122 hS ?_
 have hM := h
 clear h hS
 unfold ether_size.f at hM
 refine WP.seq ?_
 refine WP.rh [] (fun b1 => [(1, .pointer (some ⟨b1, 0, none⟩)), (2, .int .i64 0)]) (fun b1 => []) (fun b1 => [(b1, api_Frame.o a0)]) (fun b1 => ?_)
 refine WP.seq (WP.rn [0] [(3, .int .i64 (i64 (14 + (a0.Body.size : Int))))] ?_)
 refine WP.seqJoin (σ := Int) (fun st => ether_size.k1 st = some r) (fun st => [(2, .int .i64 0), (3, .int .i64 st)]) (fun st => Sat w Z [] [] Glob) (fun st hM => ?_) (fun K1 => ?_)
 ·
  obtain ⟨x3, rfl⟩ : ∃ y, y = st := ⟨st, rfl⟩
  replace hM : ether_size.k1 x3 = some r := hM
  unfold ether_size.k1 at hM
  try dsimp only
  refine WP.seq (WP.rn [] [(2, .int .i64 x3)] ?_)
  obtain rfl := Option.some.inj hM
  exact WP.retQ [] []
 ·
  refine WP.seq (WP.rn [0] [(10, .bool a0.Tag.Has)] ?_)
  refine WP.kp [false] ?_
  refine WP.cond a0.Tag.Has rfl rfl (fun c2 => ?_) (fun c2 => ?_)
  ·replace hM := cond_t hM c2
   refine WP.rn [] [(3, .int .i64 (i64 ((i64 (14 + (a0.Body.size : Int))) + 4)))] ?_
   exact WP.sub [2, 3] (by kernel_rfl) (WP.pick [] (by kernel_rfl) (by kernel_rfl) (K1 (i64 ((i64 (14 + (a0.Body.size : Int))) + 4)) hM))
  ·replace hM := cond_f hM c2
   refine WP.skip ?_
   exact WP.sub [2, 3] (by kernel_rfl) (WP.pick [] (by kernel_rfl) (by kernel_rfl) (K1 (i64 (14 + (a0.Body.size : Int))) hM))
def ether_Check.k1 (a0 : api_Frame) (x7 : Bool) : Option (Int) :=
 bif x7 then
  some 41
 else
  bif ((a0.Type_ == 0) && (decide ((a0.Body.size : Int) > 1500))) then
   some 40
  else
   (ether_size.f a0).bind fun r10 =>
   bif decide (r10 > 1600) then
    some 41
   else
    some 0
def ether_Check.k2 (a0 : api_Frame) (x5 : Bool) : Option (Int) :=
 bif x5 then
  ether_Check.k1 a0 true
 else
  ether_Check.k1 a0 ((a0.Type_ != 0) && (!(((decide (a0.Type_ ≥ 1536)) && (decide (a0.Type_ ≤ 65535))) && (a0.Type_ != 33024))))
def ether_Check.f (a0 : api_Frame) : Option (Int) :=
 bif ((decide (a0.Dst ≥ 281474976710656)) || (decide (a0.Src ≥ 281474976710656))) then
  ether_Check.k2 a0 true
 else
  (ether_tag.f a0.Tag).bind fun r3 =>
  ether_Check.k2 a0 (!r3)
theorem ether_Check_calls (a0 : api_Frame) (r : Int) (h : ether_Check.f a0 = some r) : Pure Tryz.prog Glob 73 #[api_Frame.v a0] (.int .i64 r) := by
 intro w Z hS
 refine callsS (args := [api_Frame.v a0]) (L := [(0, api_Frame.v a0)]) (N := 55) Tryz.func73 hS ?_
 have hM := h
 clear h hS
 unfold ether_Check.f at hM
 refine WP.seq ?_
 refine WP.rh [] (fun b1 => [(1, .pointer (some ⟨b1, 0, none⟩)), (2, .int .i64 0)]) (fun b1 => []) (fun b1 => [(b1, api_Frame.o a0)]) (fun b1 => ?_)
 refine WP.seq (WP.region (WL.rn 4 [0] [(7, .bool (decide (a0.Type_ ≥ 1536)))] ?_))
 refine WL.bo 7 (decide (a0.Type_ ≥ 1536)) 4 [0] [] (fun b' => [(11, .bool (b' && (decide (a0.Type_ ≤ 65535))))]) ?_
 refine WL.rn 1 [] [(12, .bool ((decide (a0.Type_ ≥ 1536)) && (decide (a0.Type_ ≤ 65535))))] ?_
 refine WL.bo 12 ((decide (a0.Type_ ≥ 1536)) && (decide (a0.Type_ ≤ 65535))) 4 [0] [] (fun b' => [(16, .bool (b' && (a0.Type_ != 33024)))]) ?_
 refine WL.rn 1 [] [(3, .bool (((decide (a0.Type_ ≥ 1536)) && (decide (a0.Type_ ≤ 65535))) && (a0.Type_ != 33024)))] ?_
 refine WP.done (WP.seq (WP.block (WP.seq (WP.region (WL.rn 4 [0] [(21, .bool (decide (a0.Dst ≥ 281474976710656)))] ?_)))))
 refine WL.bo 21 (decide (a0.Dst ≥ 281474976710656)) 4 [] [0] (fun b' => [(25, .bool (b' || (decide (a0.Src ≥ 281474976710656))))]) ?_
 refine WL.rn 1 [] [(26, .bool ((decide (a0.Dst ≥ 281474976710656)) || (decide (a0.Src ≥ 281474976710656))))] ?_
 refine WL.join (σ := Bool) 5 (fun st => ether_Check.k2 a0 st = some r) (fun st => [(1, .pointer (some ⟨b1, 0, none⟩)), (2, .int .i64 0), (3, .bool (((decide (a0.Type_ ≥ 1536)) && (decide (a0.Type_ ≤ 65535))) && (a0.Type_ != 33024))), (31, .bool st)]) (fun st => Sat w Z [(b1, api_Frame.o a0)] [] Glob) (fun st hM => ?_) (fun K2 => ?_)
 ·
  obtain ⟨x5, rfl⟩ : ∃ y, y = st := ⟨st, rfl⟩
  replace hM : ether_Check.k2 a0 x5 = some r := hM
  unfold ether_Check.k2 at hM
  try dsimp only
  refine WL.rn 1 [] [(32, .bool x5)] ?_
  refine WL.join (σ := Bool) 8 (fun st => ether_Check.k1 a0 st = some r) (fun st => [(1, .pointer (some ⟨b1, 0, none⟩)), (2, .int .i64 0), (40, .bool st)]) (fun st => Sat w Z [(b1, api_Frame.o a0)] [] Glob) (fun st hM => ?_) (fun K1 => ?_)
  ·
   obtain ⟨x7, rfl⟩ : ∃ y, y = st := ⟨st, rfl⟩
   replace hM : ether_Check.k1 a0 x7 = some r := hM
   unfold ether_Check.k1 at hM
   try dsimp only
   refine WL.rn 1 [] [(17, .bool x7)] ?_
   refine WP.done ?_
   refine WP.cond x7 rfl rfl (fun c8 => ?_) (fun c8 => ?_)
   ·replace hM := cond_t hM c8
    refine WP.seq (WP.rn [] [(2, .int .i64 41)] ?_)
    refine WP.kp [false] ?_
    obtain rfl := Option.some.inj hM
    exact WP.retQ [] []
   ·replace hM := cond_f hM c8
    refine WP.seq (WP.region (WL.rn 4 [0] [(45, .bool (a0.Type_ == 0))] ?_))
    refine WL.bo 45 (a0.Type_ == 0) 5 [0] [] (fun b' => [(50, .bool (b' && (decide ((a0.Body.size : Int) > 1500))))]) ?_
    refine WL.rn 1 [] [(41, .bool ((a0.Type_ == 0) && (decide ((a0.Body.size : Int) > 1500))))] ?_
    refine WP.done ?_
    refine WP.cond ((a0.Type_ == 0) && (decide ((a0.Body.size : Int) > 1500))) rfl rfl (fun c9 => ?_) (fun c9 => ?_)
    ·replace hM := cond_t hM c9
     refine WP.seq (WP.rn [] [(2, .int .i64 40)] ?_)
     refine WP.kp [false] ?_
     obtain rfl := Option.some.inj hM
     exact WP.retQ [] []
    ·replace hM := cond_f hM c9
     refine WP.seq (WP.region (WL.rn 1 [0, 0, 0, 0, 0, 0, 0, 0] [(52, api_Frame.v a0)] ?_))
     obtain ⟨r10, h11, hM⟩ := bind_some hM
     refine WL.callP [] [] (ether_size_calls a0 _ h11) (fun _ h => h) (by kernel_rfl) (by kernel_rfl) rfl ?_
     refine WL.rn 2 [] [(51, .bool (decide (r10 > 1600)))] ?_
     refine WP.done (WP.kp [false] ?_)
     refine WP.cond (decide (r10 > 1600)) rfl rfl (fun c12 => ?_) (fun c12 => ?_)
     ·replace hM := cond_t hM c12
      refine WP.seq (WP.rn [] [(2, .int .i64 41)] ?_)
      obtain rfl := Option.some.inj hM
      exact WP.retQ [] []
     ·replace hM := cond_f hM c12
      refine WP.skip (WP.leave (WP.seq (WP.rn [] [(2, .int .i64 0)] ?_)))
      obtain rfl := Option.some.inj hM
      exact WP.retQ [] []
  ·
   refine WL.sp 32 x5 (fun c6 => ?_) (fun c6 => ?_)
   ·replace hM := cond_t hM c6
    refine WL.rn 8 [] [(40, .bool true)] ?_
    exact WL.sub [1, 2, 40] (by kernel_rfl) (WL.pick [0] (by kernel_rfl) (by kernel_rfl) (K1 true hM))
   ·replace hM := cond_f hM c6
    refine WL.rn 4 [0] [(36, .bool (a0.Type_ != 0))] ?_
    refine WL.bo 36 (a0.Type_ != 0) 3 [] [] (fun b' => [(39, .bool (b' && (!(((decide (a0.Type_ ≥ 1536)) && (decide (a0.Type_ ≤ 65535))) && (a0.Type_ != 33024)))))]) ?_
    refine WL.rn 1 [] [(40, .bool ((a0.Type_ != 0) && (!(((decide (a0.Type_ ≥ 1536)) && (decide (a0.Type_ ≤ 65535))) && (a0.Type_ != 33024)))))] ?_
    exact WL.sub [1, 2, 40] (by kernel_rfl) (WL.pick [0] (by kernel_rfl) (by kernel_rfl) (K1 ((a0.Type_ != 0) && (!(((decide (a0.Type_ ≥ 1536)) && (decide (a0.Type_ ≤ 65535))) && (a0.Type_ != 33024)))) hM))
 ·
  refine WL.sp 26 ((decide (a0.Dst ≥ 281474976710656)) || (decide (a0.Src ≥ 281474976710656))) (fun c2 => ?_) (fun c2 => ?_)
  ·replace hM := cond_t hM c2
   refine WL.rn 5 [] [(31, .bool true)] ?_
   exact WL.sub [1, 2, 3, 31] (by kernel_rfl) (WL.pick [0] (by kernel_rfl) (by kernel_rfl) (K2 true hM))
  ·replace hM := cond_f hM c2
   refine WL.rn 2 [0, 0, 0, 0] [(28, api_Tag.v a0.Tag)] ?_
   obtain ⟨r3, h4, hM⟩ := bind_some hM
   refine WL.callP [] [] (ether_tag_calls a0.Tag _ h4) (fun _ h => h) (by kernel_rfl) (by kernel_rfl) rfl ?_
   refine WL.rn 2 [] [(31, .bool (!r3))] ?_
   exact WL.sub [1, 2, 3, 31] (by kernel_rfl) (WL.pick [0] (by kernel_rfl) (by kernel_rfl) (K2 (!r3) hM))
def octets_Put.l3 (t8 : Nat) (a0 : Int) (a1 : Int) : Nat → Int → (List Int) → Option (ByteArray × Int)
 | 0, _, _ => none
 | n + 1, x17, x18 =>
  bif decide (x17 < (t8 : Int)) then
   (shrI .u64 a0 (i64 (8 * x17))).bind fun t20 =>
   (getL t8 x18 (i64 ((i64 (a1 - 1)) - x17))).bind fun t22 =>
   octets_Put.l3 t8 a0 a1 n (i64 (x17 + 1)) (List.set x18 (i64 ((i64 (a1 - 1)) - x17)).toNat (u8 t20))
  else
   (strOf t8 x18).bind fun t24 =>
   some (t24, 0)
def octets_Put.k2 (a1 : Int) (a0 : Int) (k : Nat) (x6 : Bool) : Option (ByteArray × Int) :=
 bif x6 then
  some ((⟨#[]⟩ : ByteArray), 1)
 else
  (mkLen 1 a1).bind fun t8 =>
  octets_Put.l3 t8 a0 a1 k 0 (List.replicate t8 0)
def octets_Put.k1 (a1 : Int) (a0 : Int) (k : Nat) (x5 : Bool) : Option (ByteArray × Int) :=
 octets_Put.k2 a1 a0 k x5
def octets_Put.f (k : Nat) (a0 : Int) (a1 : Int) : Option (ByteArray × Int) :=
 bif ((decide (a1 < 1)) || (decide (a1 > 8))) then
  octets_Put.k2 a1 a0 k true
 else
  bif decide (a1 < 8) then
   (shrI .u64 a0 (i64 (8 * a1))).bind fun t3 =>
   octets_Put.k1 a1 a0 k (t3 != 0)
  else
   octets_Put.k1 a1 a0 k false
theorem octets_Put_calls (k : Nat) (a0 : Int) (a1 : Int) (r : ByteArray × Int) (h : octets_Put.f k a0 a1 = some r) : Pure Tryz.prog Glob 123 #[.int .u64 a0, .int .i64 a1] (.tuple #[.string r.1, .int .i64 r.2]) := by
 intro w Z hS
 refine callsS (args := [.int .u64 a0, .int .i64 a1]) (L := [(0, .int .u64 a0), (1, .int .i64 a1)]) (N := 46) Tryz.func123 hS ?_
 have hM := h
 clear h hS
 unfold octets_Put.f at hM
 refine WP.seq ?_
 refine WP.rn [] [(4, .string (⟨#[]⟩ : ByteArray)), (5, .int .i64 0)] ?_
 refine WP.seq (WP.seq (WP.region (WL.rn 3 [] [(10, .bool (decide (a1 < 1)))] ?_)))
 refine WL.bo 10 (decide (a1 < 1)) 3 [] [] (fun b' => [(13, .bool (b' || (decide (a1 > 8))))]) ?_
 refine WL.rn 1 [] [(14, .bool ((decide (a1 < 1)) || (decide (a1 > 8))))] ?_
 refine WL.join (σ := Bool) 10 (fun st => octets_Put.k2 a1 a0 k st = some r) (fun st => [(0, .int .u64 a0), (1, .int .i64 a1), (4, .string (⟨#[]⟩ : ByteArray)), (5, .int .i64 0), (24, .bool st)]) (fun st => Sat w Z [] [] Glob) (fun st hM => ?_) (fun K2 => ?_)
 ·
  obtain ⟨x6, rfl⟩ : ∃ y, y = st := ⟨st, rfl⟩
  replace hM : octets_Put.k2 a1 a0 k x6 = some r := hM
  unfold octets_Put.k2 at hM
  try dsimp only
  refine WP.done ?_
  refine WP.cond x6 rfl rfl (fun c7 => ?_) (fun c7 => ?_)
  ·replace hM := cond_t hM c7
   refine WP.seq ?_
   refine WP.rn [] [(4, .string (⟨#[]⟩ : ByteArray)), (5, .int .i64 1)] ?_
   obtain rfl := Option.some.inj hM
   exact WP.retQ [] []
  ·replace hM := cond_f hM c7
   refine WP.skip (WP.seq (WP.region (WL.rn 1 [] [(25, .int .i64 a1)] ?_)))
   obtain ⟨t8, h9, hM⟩ := bind_some hM
   refine WL.makeSlice (f := (encI .u8)) (z := 0) (zv := .int .u8 0) (i := a1) (k := .i64) (e := 5) (by kernel_rfl) (by kernel_rfl) rfl Nat.zero_lt_one (fun _ => rfl) (by kernel_rfl) (by kernel_rfl) h9 (by kernel_rfl) rfl (fun b10 => ?_)
   refine WL.rn 1 [] [(6, .slice (some ⟨b10, 0, none⟩) t8 t8)] ?_
   refine WP.done (WP.seq (WP.seq (WP.rn [] [(28, .int .i64 (t8 : Int)), (29, .int .i64 0)] ?_)))
   refine WP.block ?_
   refine WP.sub [0, 1, 4, 5, 6, 28, 29] (L' := [(0, .int .u64 a0), (1, .int .i64 a1), (4, .string (⟨#[]⟩ : ByteArray)), (5, .int .i64 0), (6, .slice (some ⟨b10, 0, none⟩) t8 t8), (28, .int .i64 (t8 : Int)), (29, .int .i64 0)]) (by kernel_rfl) ?_
   refine WP.loop (σ := Int × (List Int)) (fun n st => octets_Put.l3 t8 a0 a1 n st.1 st.2) r (fun st => [(0, .int .u64 a0), (1, .int .i64 a1), (4, .string (⟨#[]⟩ : ByteArray)), (5, .int .i64 0), (6, .slice (some ⟨b10, 0, none⟩) t8 t8), (28, .int .i64 (t8 : Int)), (29, .int .i64 st.1)]) (fun st => Sat w Z [(b10, .cells (rowF (encI .u8) st.2) 5 (0, 0))] [] Glob) (st := (0, (List.replicate t8 0))) (fun n st hM => ?_) hM
   rcases n with _ | n
   ·exact nomatch (show (none : Option _) = some r from hM)
   obtain ⟨x17, x18⟩ := st
   replace hM : octets_Put.l3 t8 a0 a1 (n + 1) x17 x18 = some r := hM
   rw [octets_Put.l3] at hM
   try dsimp only
   refine WP.seq (WP.rn [] [(30, .bool (decide (x17 < (t8 : Int))))] ?_)
   refine WP.seq ?_
   refine WP.cond (decide (x17 < (t8 : Int))) rfl rfl (fun c19 => ?_) (fun c19 => ?_)
   ·replace hM := cond_t hM c19
    refine WP.skip (WP.seq (WP.block (WP.seq (WP.rn [] [(7, .int .i64 x17), (31, .int .i64 x17)] ?_))))
    refine WP.region ?_
    refine WL.rn 8 [] [(32, .slice (some ⟨b10, 0, none⟩) t8 t8), (33, .int .i64 a1), (34, .int .i64 (i64 (a1 - 1))), (35, .int .i64 x17), (36, .int .i64 (i64 ((i64 (a1 - 1)) - x17))), (37, .int .u64 a0), (38, .int .i64 x17), (39, .int .i64 (i64 (8 * x17)))] ?_
    obtain ⟨t20, h21, hM⟩ := bind_some hM
    refine WL.val (fun _ => run_shr (k := .u64) (k' := .i64) (a := a0) (b := i64 (8 * x17)) (by kernel_rfl) (by kernel_rfl) h21) (by kernel_rfl) (by kernel_rfl) rfl ?_
    refine WL.rn 1 [] [(41, .int .u8 (u8 t20))] ?_
    obtain ⟨t22, h23, hM⟩ := bind_some hM
    refine WL.val (fun _ => run_indexAddr (i := i64 ((i64 (a1 - 1)) - x17)) (k := .i64) (b := b10) (o := 0) (n := t8) (c := t8) (e := 5) (sz := 1) (by kernel_rfl) (by kernel_rfl) (by kernel_rfl) (by kernel_rfl) (getL_parts h23).1) (by kernel_rfl) (by kernel_rfl) rfl ?_
    refine WL.storeCell (b := b10) (off := 0 + (i64 ((i64 (a1 - 1)) - x17)).toNat * 1) (e := 5) (H' := [(b10, .cells (rowF (encI .u8) (List.set x18 (i64 ((i64 (a1 - 1)) - x17)).toNat (u8 t20))) 5 (0, 0))]) (v := .int .u8 (u8 t20)) (u := .int .u8 t22) 0 (fun _ => by kernel_rfl) (by kernel_rfl) (by kernel_rfl) (by kernel_rfl) (by kernel_rfl) rfl (by kernel_rfl) (rowF_at0 (f := (encI .u8)) (m := 1) (fun _ => rfl) Nat.zero_lt_one h23) (rowF_set0 (f := (encI .u8)) (m := 1) (x' := u8 t20) (fun _ => rfl) Nat.zero_lt_one h23 rfl) (by kernel_rfl) (by kernel_rfl) ?_
    refine WP.done (WP.leave (WP.rn [] [(29, .int .i64 (i64 (x17 + 1))), (43, .int .i64 (i64 (x17 + 1)))] ?_))
    exact WP.again' [0, 1, 4, 5, 6, 28, 29] (i64 (x17 + 1), (List.set x18 (i64 ((i64 (a1 - 1)) - x17)).toNat (u8 t20))) hM (by kernel_rfl) (fun _ h => h.pick [0] (by kernel_rfl))
   ·replace hM := cond_f hM c19
    refine WP.exit rfl (WP.seq (WP.region ?_))
    refine WL.rn 1 [] [(44, .slice (some ⟨b10, 0, none⟩) t8 t8)] ?_
    obtain ⟨t24, h25, hM⟩ := bind_some hM
    refine WL.strOf (b := b10) (n := t8) (c := t8) (xs := x18) (e0 := 5) (fr := (0, 0)) 0 (e := 5) (by kernel_rfl) (by kernel_rfl) (by kernel_rfl) (by kernel_rfl) (by kernel_rfl) (by kernel_rfl) h25 (by kernel_rfl) rfl ?_
    refine WL.rn 2 [] [(4, .string t24), (5, .int .i64 0)] ?_
    refine WP.done (WP.kp [false] ?_)
    obtain rfl := Option.some.inj hM
    exact WP.retQ [] []
 ·
  refine WL.sp 14 ((decide (a1 < 1)) || (decide (a1 > 8))) (fun c1 => ?_) (fun c1 => ?_)
  ·replace hM := cond_t hM c1
   refine WL.rn 10 [] [(24, .bool true)] ?_
   exact WL.sub [0, 1, 4, 5, 24] (by kernel_rfl) (WL.pick [] (by kernel_rfl) (by kernel_rfl) (K2 true hM))
  ·replace hM := cond_f hM c1
   refine WL.rn 3 [] [(17, .bool (decide (a1 < 8)))] ?_
   refine WL.join (σ := Bool) 6 (fun st => octets_Put.k1 a1 a0 k st = some r) (fun st => [(0, .int .u64 a0), (1, .int .i64 a1), (4, .string (⟨#[]⟩ : ByteArray)), (5, .int .i64 0), (14, .bool false), (23, .bool st)]) (fun st => Sat w Z [] [] Glob) (fun st hM => ?_) (fun K1 => ?_)
   ·
    obtain ⟨x5, rfl⟩ : ∃ y, y = st := ⟨st, rfl⟩
    replace hM : octets_Put.k1 a1 a0 k x5 = some r := hM
    unfold octets_Put.k1 at hM
    try dsimp only
    refine WL.rn 1 [] [(24, .bool x5)] ?_
    exact WL.sub [0, 1, 4, 5, 24] (by kernel_rfl) (WL.pick [] (by kernel_rfl) (by kernel_rfl) (K2 x5 hM))
   ·
    refine WL.sp 17 (decide (a1 < 8)) (fun c2 => ?_) (fun c2 => ?_)
    ·replace hM := cond_t hM c2
     refine WL.rn 3 [] [(18, .int .u64 a0), (20, .int .i64 (i64 (8 * a1)))] ?_
     obtain ⟨t3, h4, hM⟩ := bind_some hM
     refine WL.val (fun _ => run_shr (k := .u64) (k' := .i64) (a := a0) (b := i64 (8 * a1)) (by kernel_rfl) (by kernel_rfl) h4) (by kernel_rfl) (by kernel_rfl) rfl ?_
     refine WL.rn 2 [] [(23, .bool (t3 != 0))] ?_
     exact WL.sub [0, 1, 4, 5, 14, 23] (by kernel_rfl) (WL.pick [] (by kernel_rfl) (by kernel_rfl) (K1 (t3 != 0) hM))
    ·replace hM := cond_f hM c2
     refine WL.rn 6 [] [(23, .bool false)] ?_
     exact WL.sub [0, 1, 4, 5, 14, 23] (by kernel_rfl) (WL.pick [] (by kernel_rfl) (by kernel_rfl) (K1 false hM))
def ether_put.f (k : Nat) (a0 : Int) (a1 : Int) : Option (ByteArray) :=
 (octets_Put.f k a0 a1).bind fun (r1, r2) =>
 some r1
theorem ether_put_calls (k : Nat) (a0 : Int) (a1 : Int) (r : ByteArray) (h : ether_put.f k a0 a1 = some r) : Pure Tryz.prog Glob 74 #[.int .u64 a0, .int .i64 a1] (.string r) := by
 intro w Z hS
 refine callsS (args := [.int .u64 a0, .int .i64 a1]) (L := [(0, .int .u64 a0), (1, .int .i64 a1)]) (N := 14) Tryz.func74 hS ?_
 have hM := h
 clear h hS
 unfold ether_put.f at hM
 refine WP.seq ?_
 refine WP.rn [] [(4, .string (⟨#[]⟩ : ByteArray))] ?_
 refine WP.seq (WP.region (WL.rn 2 [] [(8, .int .u64 a0), (9, .int .i64 a1)] ?_))
 obtain ⟨⟨r1, r2⟩, h3, hM⟩ := bind_some hM
 dsimp only at hM
 refine WL.callP [] [] (octets_Put_calls k a0 a1 _ h3) (fun _ h => h) (by kernel_rfl) (by kernel_rfl) rfl ?_
 refine WL.rn 5 [] [(5, .string r1)] ?_
 refine WP.done (WP.seq (WP.rn [] [(4, .string r1)] ?_))
 obtain rfl := Option.some.inj hM
 exact WP.retQ [] []
def ether_info.k1 (x3 : Int) : Option (Int) :=
 some (u64 x3)
def ether_info.f (a0 : api_Tag) : Option (Int) :=
 bif a0.Dei then
  ether_info.k1 (bOr .i64 (bOr .i64 (i64 (a0.Pri * 8192)) a0.Vid) 4096)
 else
  ether_info.k1 (bOr .i64 (i64 (a0.Pri * 8192)) a0.Vid)
theorem ether_info_calls (a0 : api_Tag) (r : Int) (h : ether_info.f a0 = some r) : Pure Tryz.prog Glob 75 #[api_Tag.v a0] (.int .u64 r) := by
 intro w Z hS
 refine callsS (args := [api_Tag.v a0]) (L := [(0, api_Tag.v a0)]) (N := 16) Tryz.func75 hS ?_
 have hM := h
 clear h hS
 unfold ether_info.f at hM
 refine WP.seq ?_
 refine WP.rh [] (fun b1 => [(1, .pointer (some ⟨b1, 0, none⟩)), (2, .int .u64 0)]) (fun b1 => []) (fun b1 => [(b1, api_Tag.o a0)]) (fun b1 => ?_)
 refine WP.seq (WP.rn [0, 0] [(3, .int .i64 (bOr .i64 (i64 (a0.Pri * 8192)) a0.Vid))] ?_)
 refine WP.seqJoin (σ := Int) (fun st => ether_info.k1 st = some r) (fun st => [(2, .int .u64 0), (3, .int .i64 st)]) (fun st => Sat w Z [] [] Glob) (fun st hM => ?_) (fun K1 => ?_)
 ·
  obtain ⟨x3, rfl⟩ : ∃ y, y = st := ⟨st, rfl⟩
  replace hM : ether_info.k1 x3 = some r := hM
  unfold ether_info.k1 at hM
  try dsimp only
  refine WP.seq (WP.rn [] [(2, .int .u64 (u64 x3))] ?_)
  obtain rfl := Option.some.inj hM
  exact WP.retQ [] []
 ·
  refine WP.seq (WP.rn [0] [(11, .bool a0.Dei)] ?_)
  refine WP.kp [false] ?_
  refine WP.cond a0.Dei rfl rfl (fun c2 => ?_) (fun c2 => ?_)
  ·replace hM := cond_t hM c2
   refine WP.rn [] [(3, .int .i64 (bOr .i64 (bOr .i64 (i64 (a0.Pri * 8192)) a0.Vid) 4096))] ?_
   exact WP.sub [2, 3] (by kernel_rfl) (WP.pick [] (by kernel_rfl) (by kernel_rfl) (K1 (bOr .i64 (bOr .i64 (i64 (a0.Pri * 8192)) a0.Vid) 4096) hM))
  ·replace hM := cond_f hM c2
   refine WP.skip ?_
   exact WP.sub [2, 3] (by kernel_rfl) (WP.pick [] (by kernel_rfl) (by kernel_rfl) (K1 (bOr .i64 (i64 (a0.Pri * 8192)) a0.Vid) hM))
def ether_Build.k1 (k : Nat) (x22 : ByteArray) (a0 : api_Frame) (x24 : Int) : Option (ByteArray × Int) :=
 (ether_put.f k (u64 x24) 2).bind fun r25 =>
 (catS x22 r25).bind fun t27 =>
 (catS t27 a0.Body).bind fun t29 =>
 some (t29, 0)
def ether_Build.k2 (a0 : api_Frame) (k : Nat) (x22 : ByteArray) : Option (ByteArray × Int) :=
 bif (a0.Type_ == 0) then
  ether_Build.k1 k x22 a0 (a0.Body.size : Int)
 else
  ether_Build.k1 k x22 a0 a0.Type_
def ether_Build.f (k : Nat) (a0 : api_Frame) : Option (ByteArray × Int) :=
 (ether_Check.f a0).bind fun r2 =>
 bif (r2 != 0) then
  some ((⟨#[]⟩ : ByteArray), r2)
 else
  (ether_put.f k a0.Dst 6).bind fun r5 =>
  (ether_put.f k a0.Src 6).bind fun r7 =>
  (catS r5 r7).bind fun t9 =>
  bif a0.Tag.Has then
   (ether_put.f k 33024 2).bind fun r12 =>
   (ether_info.f a0.Tag).bind fun r14 =>
   (ether_put.f k r14 2).bind fun r16 =>
   (catS r12 r16).bind fun t18 =>
   (catS t9 t18).bind fun t20 =>
   ether_Build.k2 a0 k t20
  else
   ether_Build.k2 a0 k t9
theorem ether_Build_calls (k : Nat) (a0 : api_Frame) (r : ByteArray × Int) (h : ether_Build.f k a0 = some r) : Pure Tryz.prog Glob 40 #[api_Frame.v a0] (.tuple #[.string r.1, .int .i64 r.2]) := by
 intro w Z hS
 refine callsS (args := [api_Frame.v a0]) (L := [(0, api_Frame.v a0)]) (N := 45) Tryz.func40 hS ?_
 have hM := h
 clear h hS
 unfold ether_Build.f at hM
 refine WP.seq ?_
 refine WP.rh [] (fun b1 => [(1, .pointer (some ⟨b1, 0, none⟩)), (2, .string (⟨#[]⟩ : ByteArray)), (3, .int .i64 0)]) (fun b1 => []) (fun b1 => [(b1, api_Frame.o a0)]) (fun b1 => ?_)
 refine WP.seq (WP.seq (WP.region (WL.rn 1 [0, 0, 0, 0, 0, 0, 0, 0] [(7, api_Frame.v a0)] ?_)))
 obtain ⟨r2, h3, hM⟩ := bind_some hM
 refine WL.callP [] [] (ether_Check_calls a0 _ h3) (fun _ h => h) (by kernel_rfl) (by kernel_rfl) rfl ?_
 refine WL.rn 1 [] [(4, .int .i64 r2)] ?_
 refine WP.done (WP.seq (WP.rn [] [(10, .bool (r2 != 0))] ?_))
 refine WP.cond (r2 != 0) rfl rfl (fun c4 => ?_) (fun c4 => ?_)
 ·replace hM := cond_t hM c4
  refine WP.seq ?_
  refine WP.rn [] [(2, .string (⟨#[]⟩ : ByteArray)), (3, .int .i64 r2)] ?_
  obtain rfl := Option.some.inj hM
  exact WP.retQ [] []
 ·replace hM := cond_f hM c4
  refine WP.skip (WP.seq (WP.quiet (by kernel_rfl) (by kernel_rfl) ?_))
  refine QL.rn 2 [0] [(13, .int .u64 a0.Dst)] ?_
  obtain ⟨r5, h6, hM⟩ := bind_some hM
  refine QL.callP [] [] (ether_put_calls k a0.Dst 6 _ h6) (fun _ h => h) (by kernel_rfl) (by kernel_rfl) rfl ?_
  refine QL.rn 2 [0] [(16, .int .u64 a0.Src)] ?_
  obtain ⟨r7, h8, hM⟩ := bind_some hM
  refine QL.callP [] [] (ether_put_calls k a0.Src 6 _ h8) (fun _ h => h) (by kernel_rfl) (by kernel_rfl) rfl ?_
  obtain ⟨t9, h10, hM⟩ := bind_some hM
  refine QL.val (fun _ => run_catS (a := r5) (b := r7) (by kernel_rfl) (by kernel_rfl) h10) (by kernel_rfl) (by kernel_rfl) rfl ?_
  refine QL.rn 1 [] [(5, .string t9)] ?_
  refine QL.done ?_
  refine WP.seqJoin (σ := ByteArray) (fun st => ether_Build.k2 a0 k st = some r) (fun st => [(1, .pointer (some ⟨b1, 0, none⟩)), (2, .string (⟨#[]⟩ : ByteArray)), (3, .int .i64 0), (5, .string st)]) (fun st => Sat w Z [(b1, api_Frame.o a0)] [] Glob) (fun st hM => ?_) (fun K2 => ?_)
  ·
   obtain ⟨x22, rfl⟩ : ∃ y, y = st := ⟨st, rfl⟩
   replace hM : ether_Build.k2 a0 k x22 = some r := hM
   unfold ether_Build.k2 at hM
   try dsimp only
   refine WP.seq (WP.rn [0] [(6, .int .i64 a0.Type_)] ?_)
   refine WP.seqJoin (σ := Int) (fun st => ether_Build.k1 k x22 a0 st = some r) (fun st => [(1, .pointer (some ⟨b1, 0, none⟩)), (2, .string (⟨#[]⟩ : ByteArray)), (3, .int .i64 0), (5, .string x22), (6, .int .i64 st)]) (fun st => Sat w Z [(b1, api_Frame.o a0)] [] Glob) (fun st hM => ?_) (fun K1 => ?_)
   ·
    obtain ⟨x24, rfl⟩ : ∃ y, y = st := ⟨st, rfl⟩
    replace hM : ether_Build.k1 k x22 a0 x24 = some r := hM
    unfold ether_Build.k1 at hM
    try dsimp only
    refine WP.seq (WP.quiet (by kernel_rfl) (by kernel_rfl) ?_)
    refine QL.rn 3 [] [(37, .string x22), (39, .int .u64 (u64 x24))] ?_
    obtain ⟨r25, h26, hM⟩ := bind_some hM
    refine QL.callP [] [] (ether_put_calls k (u64 x24) 2 _ h26) (fun _ h => h) (by kernel_rfl) (by kernel_rfl) rfl ?_
    obtain ⟨t27, h28, hM⟩ := bind_some hM
    refine QL.val (fun _ => run_catS (a := x22) (b := r25) (by kernel_rfl) (by kernel_rfl) h28) (by kernel_rfl) (by kernel_rfl) rfl ?_
    refine QL.rn 2 [0] [(43, .string a0.Body)] ?_
    obtain ⟨t29, h30, hM⟩ := bind_some hM
    refine QL.val (fun _ => run_catS (a := t27) (b := a0.Body) (by kernel_rfl) (by kernel_rfl) h30) (by kernel_rfl) (by kernel_rfl) rfl ?_
    refine QL.rn 2 [] [(2, .string t29), (3, .int .i64 0)] ?_
    refine QL.done ?_
    refine WP.kp [false] ?_
    obtain rfl := Option.some.inj hM
    exact WP.retQ [] []
   ·
    refine WP.seq (WP.rn [] [(33, .bool (a0.Type_ == 0))] ?_)
    refine WP.cond (a0.Type_ == 0) rfl rfl (fun c23 => ?_) (fun c23 => ?_)
    ·replace hM := cond_t hM c23
     refine WP.rn [0] [(6, .int .i64 (a0.Body.size : Int))] ?_
     exact WP.sub [1, 2, 3, 5, 6] (by kernel_rfl) (WP.pick [0] (by kernel_rfl) (by kernel_rfl) (K1 (a0.Body.size : Int) hM))
    ·replace hM := cond_f hM c23
     refine WP.skip ?_
     exact WP.sub [1, 2, 3, 5, 6] (by kernel_rfl) (WP.pick [0] (by kernel_rfl) (by kernel_rfl) (K1 a0.Type_ hM))
  ·
   refine WP.seq (WP.rn [0] [(21, .bool a0.Tag.Has)] ?_)
   refine WP.cond a0.Tag.Has rfl rfl (fun c11 => ?_) (fun c11 => ?_)
   ·replace hM := cond_t hM c11
    refine WP.quiet (by kernel_rfl) (by kernel_rfl) ?_
    refine QL.rn 1 [] [(22, .string t9)] ?_
    obtain ⟨r12, h13, hM⟩ := bind_some hM
    refine QL.callP [] [] (ether_put_calls k 33024 2 _ h13) (fun _ h => h) (by kernel_rfl) (by kernel_rfl) rfl ?_
    refine QL.rn 2 [0, 0, 0, 0] [(25, api_Tag.v a0.Tag)] ?_
    obtain ⟨r14, h15, hM⟩ := bind_some hM
    refine QL.callP [] [] (ether_info_calls a0.Tag _ h15) (fun _ h => h) (by kernel_rfl) (by kernel_rfl) rfl ?_
    obtain ⟨r16, h17, hM⟩ := bind_some hM
    refine QL.callP [] [] (ether_put_calls k r14 2 _ h17) (fun _ h => h) (by kernel_rfl) (by kernel_rfl) rfl ?_
    obtain ⟨t18, h19, hM⟩ := bind_some hM
    refine QL.val (fun _ => run_catS (a := r12) (b := r16) (by kernel_rfl) (by kernel_rfl) h19) (by kernel_rfl) (by kernel_rfl) rfl ?_
    obtain ⟨t20, h21, hM⟩ := bind_some hM
    refine QL.val (fun _ => run_catS (a := t9) (b := t18) (by kernel_rfl) (by kernel_rfl) h21) (by kernel_rfl) (by kernel_rfl) rfl ?_
    refine QL.rn 1 [] [(5, .string t20)] ?_
    refine QL.done ?_
    exact WP.sub [1, 2, 3, 5] (by kernel_rfl) (WP.pick [0] (by kernel_rfl) (by kernel_rfl) (K2 t20 hM))
   ·replace hM := cond_f hM c11
    refine WP.skip ?_
    exact WP.sub [1, 2, 3, 5] (by kernel_rfl) (WP.pick [0] (by kernel_rfl) (by kernel_rfl) (K2 t9 hM))
def gangwaylaw28_bytes.f (k : Nat) (a0 : api_Frame) : Option (ByteArray) :=
 (ether_Build.f k a0).bind fun (r2, r3) =>
 some r2
theorem gangwaylaw28_bytes_calls (k : Nat) (a0 : api_Frame) (r : ByteArray) (h : gangwaylaw28_bytes.f k a0 = some r) : Pure Tryz.prog Glob 19 #[api_Frame.v a0] (.string r) := by
 intro w Z hS
 refine callsS (args := [api_Frame.v a0]) (L := [(0, api_Frame.v a0)]) (N := 11) Tryz.func19 hS ?_
 have hM := h
 clear h hS
 unfold gangwaylaw28_bytes.f at hM
 refine WP.seq ?_
 refine WP.rh [] (fun b1 => [(1, .pointer (some ⟨b1, 0, none⟩)), (2, .string (⟨#[]⟩ : ByteArray))]) (fun b1 => []) (fun b1 => [(b1, api_Frame.o a0)]) (fun b1 => ?_)
 refine WP.seq (WP.region (WL.rn 1 [0, 0, 0, 0, 0, 0, 0, 0] [(6, api_Frame.v a0)] ?_))
 obtain ⟨⟨r2, r3⟩, h4, hM⟩ := bind_some hM
 dsimp only at hM
 refine WL.callP [] [] (ether_Build_calls k a0 _ h4) (fun _ h => h) (by kernel_rfl) (by kernel_rfl) rfl ?_
 refine WL.rn 5 [] [(3, .string r2)] ?_
 refine WP.done (WP.kp [false] ?_)
 refine WP.seq (WP.rn [] [(2, .string r2)] ?_)
 obtain rfl := Option.some.inj hM
 exact WP.retQ [] []
def arp_joined.l1 (a0 : (List arp_field)) (k : Nat) : Nat → Int → ByteArray → Option (ByteArray)
 | 0, _, _ => none
 | n + 1, x12, x13 =>
  bif decide (x12 < (a0.length : Int)) then
   (getL a0.length a0 x12).bind fun t15 =>
   (octets_Put.f k t15.v t15.n).bind fun (r18, r19) =>
   (bldS x13 r18).bind fun t21 =>
   arp_joined.l1 a0 k n (i64 (x12 + 1)) t21
  else
   some x13
def arp_joined.f (k : Nat) (a0 : (List arp_field)) : Option (ByteArray) :=
 arp_joined.l1 a0 k k 0 (⟨#[]⟩ : ByteArray)
theorem arp_joined_calls (k : Nat) (A00 : SkL Unit) (a0 : (List arp_field)) (r : ByteArray) (h : arp_joined.f k a0 = some r) : Pure Tryz.prog ([Row 2 (pl arp_field.enc) noK A00 a0] ++ Glob) 76 #[slcV A00 a0.length] (.string r) := by
 intro w Z hS'
 obtain ⟨Z0, hz, hS, hback⟩ := Sat.noT hS'
 refine Calls.mono (R := fun e w' => e = .returned (.string r) ∧ Sat w Z0 [] [] ([Row 2 (pl arp_field.enc) noK A00 a0] ++ Glob) w') ?_ (fun e w' ⟨a, b⟩ => ⟨a, hback w' b⟩)
 refine callsS (args := [slcV A00 a0.length]) (L := [(0, slcV A00 a0.length)]) (N := 26) Tryz.func76 hS ?_
 have hM := h
 clear h
 unfold arp_joined.f at hM
 refine WP.seq ?_
 refine WP.rn [] [(2, .string (⟨#[]⟩ : ByteArray))] ?_
 refine WP.seq ?_
 refine WP.rh [] (fun b1 => [(3, .pointer (some ⟨b1, 0, none⟩))]) (fun b1 => []) (fun b1 => [(b1, .cells #[.pointer none, .slice none 0 0] 252 (0, 0))]) (fun b1 => ?_)
 refine WP.bldNew (T := 252) (e := 5) hz hS ?_
 refine WP.seq (WP.seq (WP.rn [] [(8, slcV A00 a0.length), (9, .int .i64 (a0.length : Int)), (10, .int .i64 0)] ?_))
 refine WP.block ?_
 refine WP.sub [2, 3, 8, 9, 10] (L' := [(2, .string (⟨#[]⟩ : ByteArray)), (3, .pointer (some ⟨b1, 0, none⟩)), (8, slcV A00 a0.length), (9, .int .i64 (a0.length : Int)), (10, .int .i64 0)]) (by kernel_rfl) ?_
 refine WP.lessF [0] (F' := [Row 2 (pl arp_field.enc) noK A00 a0]) (by kernel_rfl) ?_
 refine WP.loop (σ := Int × ByteArray) (fun n st => arp_joined.l1 a0 k n st.1 st.2) r (fun st => [(2, .string (⟨#[]⟩ : ByteArray)), (3, .pointer (some ⟨b1, 0, none⟩)), (8, slcV A00 a0.length), (9, .int .i64 (a0.length : Int)), (10, .int .i64 st.1)]) (fun st => Sat w Z0 [] [Bld 252 5 w.heap.size b1 st.2] ([Row 2 (pl arp_field.enc) noK A00 a0] ++ Glob)) (st := (0, (⟨#[]⟩ : ByteArray))) (fun n st hM => ?_) hM
 rcases n with _ | n
 ·exact nomatch (show (none : Option _) = some r from hM)
 obtain ⟨x12, x13⟩ := st
 replace hM : arp_joined.l1 a0 k (n + 1) x12 x13 = some r := hM
 rw [arp_joined.l1] at hM
 try dsimp only
 refine WP.seq (WP.rn [] [(11, .bool (decide (x12 < (a0.length : Int))))] ?_)
 refine WP.seq ?_
 refine WP.cond (decide (x12 < (a0.length : Int))) rfl rfl (fun c14 => ?_) (fun c14 => ?_)
 ·replace hM := cond_t hM c14
  refine WP.skip (WP.seq (WP.block (WP.seq (WP.region ?_))))
  obtain ⟨t15, h16, hM⟩ := bind_some hM
  refine WL.valF (φ := Row 2 (pl arp_field.enc) noK A00 a0) (fact_at 0 rfl) (fun w hR => run_indexRowF (A := A00) (xs := a0) (i := x12) (k := .i64) (e := 168) (m := 2) (by kernel_rfl) (by kernel_rfl) h16 (by kernel_rfl) (by kernel_rfl) hR) (by kernel_rfl) (by kernel_rfl) rfl ?_
  refine WL.valF (φ := Row 2 (pl arp_field.enc) noK A00 a0) (fact_at 0 rfl) (fun w hR => run_loadRowFA (A := A00) (xs := a0) (i := x12) (j := 0) (n := 2) (vs := [.int .u64 t15.v, .int .i64 t15.n]) h16 (fun _ => by kernel_rfl) (by kernel_rfl) (by kernel_rfl) (by kernel_rfl) rfl hR) (by kernel_rfl) (by kernel_rfl) rfl ?_
  refine WL.rh 2 [0, 0] (fun b17 => [(5, .pointer (some ⟨b17, 0, none⟩))]) (fun b17 => []) (fun b17 => [(b17, arp_field.o t15)]) (fun b17 => ?_)
  refine WP.done (WP.seq (WP.region ?_))
  refine WL.rn 4 [0, 0] [(15, .pointer (some ⟨b17, 0, none⟩)), (16, .int .u64 t15.v), (17, .pointer (some ⟨b17, 1, none⟩)), (18, .int .i64 t15.n)] ?_
  obtain ⟨⟨r18, r19⟩, h20, hM⟩ := bind_some hM
  dsimp only at hM
  refine WL.callP [] [] (octets_Put_calls k t15.v t15.n _ h20) (fun _ h => List.mem_append_right _ h) (by kernel_rfl) (by kernel_rfl) rfl ?_
  refine WL.rn 5 [] [(6, .string r18), (14, .tuple #[.string r18, .int .i64 r19]), (20, .string r18), (21, .int .i64 r19)] ?_
  refine WP.done (WP.region (WL.rn 1 [] [(22, .string r18)] ?_))
  refine WL.kp [false] ?_
  obtain ⟨t21, h22, hM⟩ := bind_some hM
  refine WL.bldWrite Bldr.lays166 Bldr.extra hz hS [] [] x13 r18 t21 (by kernel_rfl) h22 (by kernel_rfl) rfl ?_
  refine WP.done (WP.leave (WP.rn [] [(10, .int .i64 (i64 (x12 + 1))), (24, .int .i64 (i64 (x12 + 1)))] ?_))
  exact WP.again' [2, 3, 8, 9, 10] (i64 (x12 + 1), t21) hM (by kernel_rfl) (fun _ h => ((h.pick [] (by kernel_rfl)).lessF [0] (by kernel_rfl)).pickG [0] [] 1 rfl (by decide) (by kernel_rfl))
 ·replace hM := cond_f hM c14
  refine WP.exit rfl (WP.seq (WP.region (WL.bldString Bldr.lays169 Bldr.extra hz hS [] [] x13 (by kernel_rfl) (by kernel_rfl) rfl ?_)))
  refine WL.rn 1 [] [(2, .string x13)] ?_
  refine WP.done ?_
  obtain rfl := Option.some.inj hM
  exact WP.retF [] [] [0]
def arp_laid.f (k : Nat) (a0 : api_Arp) : Option (ByteArray) :=
 (arp_joined.f k ([(arp_field.mk (u64 a0.Op) 2), (arp_field.mk (Int.tmod a0.SMac 281474976710656) 6), (arp_field.mk (u64 a0.SIp) 4), (arp_field.mk (Int.tmod a0.TMac 281474976710656) 6), (arp_field.mk (u64 a0.TIp) 4)] : List arp_field)).bind fun r3 =>
 (catS (⟨#[0, 1, 8, 0, 6, 4]⟩ : ByteArray) r3).bind fun t5 =>
 some t5
theorem arp_laid_calls (k : Nat) (a0 : api_Arp) (r : ByteArray) (h : arp_laid.f k a0 = some r) : Pure Tryz.prog Glob 41 #[api_Arp.v a0] (.string r) := by
 intro w Z hS
 refine callsS (args := [api_Arp.v a0]) (L := [(0, api_Arp.v a0)]) (N := 26) Tryz.func41 hS ?_
 have hM := h
 clear h hS
 unfold arp_laid.f at hM
 refine WP.less (Φ' := [] ++ Glob) (fun _ h => h) ?_
 refine WP.seq ?_
 refine WP.rh [] (fun b1 => [(1, .pointer (some ⟨b1, 0, none⟩)), (2, .string (⟨#[]⟩ : ByteArray))]) (fun b1 => []) (fun b1 => [(b1, api_Arp.o a0)]) (fun b1 => ?_)
 refine WP.seq (WP.region ?_)
 refine WL.rh 21 [0, 0, 0, 0, 0] (fun b2 => [(23, .slice (some ⟨b2, 0, none⟩) 5 5)]) (fun b2 => []) (fun b2 => [(b2, .cells #[.int .u64 (u64 a0.Op), .int .i64 2, .int .u64 (Int.tmod a0.SMac 281474976710656), .int .i64 6, .int .u64 (u64 a0.SIp), .int .i64 4, .int .u64 (Int.tmod a0.TMac 281474976710656), .int .i64 6, .int .u64 (u64 a0.TIp), .int .i64 4] 168 (0, 0))]) (fun b2 => ?_)
 refine WL.ice (H' := [(b1, api_Arp.o a0)]) (Row 2 (pl arp_field.enc) noK (SkL.at b2 5 (fun _ => ())) ([(arp_field.mk (u64 a0.Op) 2), (arp_field.mk (Int.tmod a0.SMac 281474976710656) 6), (arp_field.mk (u64 a0.SIp) 4), (arp_field.mk (Int.tmod a0.TMac 281474976710656) 6), (arp_field.mk (u64 a0.TIp) 4)] : List arp_field)) 1 (b := b2) (ob := .cells #[.int .u64 (u64 a0.Op), .int .i64 2, .int .u64 (Int.tmod a0.SMac 281474976710656), .int .i64 6, .int .u64 (u64 a0.SIp), .int .i64 4, .int .u64 (Int.tmod a0.TMac 281474976710656), .int .i64 6, .int .u64 (u64 a0.TIp), .int .i64 4] 168 (0, 0)) (by kernel_rfl) [] [] (by kernel_rfl) (fun w hb hψ => row_of_block hb (fun _ _ => rfl) ⟨[], by kernel_rfl⟩ (Nat.le_of_ble_eq_true rfl) (InK.no _ _)) (by kernel_rfl) ?_
 obtain ⟨r3, h4, hM⟩ := bind_some hM
 refine WL.callP [] [] (arp_joined_calls k (SkL.at b2 5 (fun _ => ())) ([(arp_field.mk (u64 a0.Op) 2), (arp_field.mk (Int.tmod a0.SMac 281474976710656) 6), (arp_field.mk (u64 a0.SIp) 4), (arp_field.mk (Int.tmod a0.TMac 281474976710656) 6), (arp_field.mk (u64 a0.TIp) 4)] : List arp_field) _ h4) (sub_pick [0] (by kernel_rfl)) (by kernel_rfl) (by kernel_rfl) rfl ?_
 obtain ⟨t5, h6, hM⟩ := bind_some hM
 refine WL.val (fun _ => run_catS (a := (⟨#[0, 1, 8, 0, 6, 4]⟩ : ByteArray)) (b := r3) (by kernel_rfl) (by kernel_rfl) h6) (by kernel_rfl) (by kernel_rfl) rfl ?_
 refine WL.rn 1 [] [(2, .string t5)] ?_
 refine WP.done (WP.kp [false] ?_)
 obtain rfl := Option.some.inj hM
 exact WP.ret [] [] (.string t5) (by kernel_rfl) (fun w' hw => ⟨rfl, (hw.pick [] rfl).less (fun _ h => List.mem_append_right _ h)⟩)
def arp_Ask.f (k : Nat) (a0 : Int) (a1 : Int) (a2 : Int) : Option (api_Frame) :=
 (arp_laid.f k (api_Arp.mk 1 a0 a1 0 a2)).bind fun r3 =>
 some (api_Frame.mk 281474976710655 a0 (api_Tag.mk false 0 false 0) 2054 r3)
theorem arp_Ask_calls (k : Nat) (a0 : Int) (a1 : Int) (a2 : Int) (r : api_Frame) (h : arp_Ask.f k a0 a1 a2 = some r) : Pure Tryz.prog Glob 20 #[.int .u64 a0, .int .u32 a1, .int .u32 a2] (api_Frame.v r) := by
 intro w Z hS
 refine callsS (args := [.int .u64 a0, .int .u32 a1, .int .u32 a2]) (L := [(0, .int .u64 a0), (1, .int .u32 a1), (2, .int .u32 a2)]) (N := 16) Tryz.func20 hS ?_
 have hM := h
 clear h hS
 unfold arp_Ask.f at hM
 refine WP.seq ?_
 refine WP.rh [] (fun b1 => [(6, .pointer (some ⟨b1, 0, none⟩))]) (fun b1 => []) (fun b1 => [(b1, .cells #[.int .u64 0, .int .u64 0, .bool false, .int .i64 0, .bool false, .int .i64 0, .int .i64 0, .string (⟨#[]⟩ : ByteArray)] 40 (0, 0))]) (fun b1 => ?_)
 refine WP.seq ?_
 refine WP.rh [1, 1, 1, 1, 1] (fun b2 => [(7, .pointer (some ⟨b2, 0, none⟩))]) (fun b2 => []) (fun b2 => [(b2, .cells #[.int .i64 1, .int .u64 a0, .int .u32 a1, .int .u64 0, .int .u32 a2] 51 (0, 0))]) (fun b2 => ?_)
 refine WP.seq (WP.region (WL.rn 2 [1, 1, 1, 1, 1] [(12, .int .u64 a0), (13, .agg #[.int .i64 1, .int .u64 a0, .int .u32 a1, .int .u64 0, .int .u32 a2])] ?_))
 obtain ⟨r3, h4, hM⟩ := bind_some hM
 refine WL.callP [] [] (arp_laid_calls k (api_Arp.mk 1 a0 a1 0 a2) _ h4) (fun _ h => h) (by kernel_rfl) (by kernel_rfl) rfl ?_
 refine WL.rh 2 [0, 0, 0, 0, 0, 0, 0, 0] (fun _ => []) (fun _ => [(0, 0, [.int .u64 281474976710655, .int .u64 a0]), (0, 6, [.int .i64 2054, .string r3])]) (fun _ => []) (fun _ => ?_)
 refine WP.done (WP.kp [true, false] ?_)
 obtain rfl := Option.some.inj hM
 exact WP.retQ [0, 0, 0, 0, 0, 0, 0, 0] [b1, b1, b1, b1, b1, b1, b1, b1]
def arp_Parse_1.f (k : Nat) (a0 : Int) (a1 : ByteArray) (a2 : Int) : Option (Int × Int) :=
 (octets_Get.f k a1 a2 a0).bind fun (r1, r2) =>
 some (r1, i64 (a2 + a0))
theorem arp_Parse_1_calls (k : Nat) (b_0 : Nat) (b_1 : Nat) (a0 : Int) (a1 : ByteArray) (a2 : Int) (r : Int × Int) (h : arp_Parse_1.f k a0 a1 a2 = some r) : Does Tryz.prog 77 #[.int .i64 a0, .pointer (some ⟨b_0, 0, none⟩), .pointer (some ⟨b_1, 0, none⟩)] [(b_0, .cells #[.string a1] 9 (0, 0)), (b_1, .cells #[.int .i64 a2] 3 (0, 0))] Glob (fun _ : Unit => .int .u64 r.1) (fun _ => [(b_0, .cells #[.string a1] 9 (0, 0)), (b_1, .cells #[.int .i64 r.2] 3 (0, 0))]) (fun _ => []) (fun _ => Glob) := by
 intro w Z hS
 refine callsS (args := [.int .i64 a0, .pointer (some ⟨b_0, 0, none⟩), .pointer (some ⟨b_1, 0, none⟩)]) (L := [(0, .int .i64 a0), (1, .pointer (some ⟨b_0, 0, none⟩)), (2, .pointer (some ⟨b_1, 0, none⟩))]) (N := 18) Tryz.func77 hS ?_
 have hM := h
 clear h hS
 unfold arp_Parse_1.f at hM
 refine WP.seq (WP.rn [] [(4, .int .u64 0)] ?_)
 refine WP.seq (WP.region (WL.rn 3 [0, 1] [(8, .string a1), (9, .int .i64 a2), (10, .int .i64 a0)] ?_))
 obtain ⟨⟨r1, r2⟩, h3, hM⟩ := bind_some hM
 dsimp only at hM
 refine WL.callP [] [] (octets_Get_calls k a1 a2 a0 _ h3) (fun _ h => h) (by kernel_rfl) (by kernel_rfl) rfl ?_
 refine WL.rn 5 [] [(5, .int .u64 r1)] ?_
 refine WP.done (WP.seq ?_)
 refine WP.rh [1, 1] (fun _ => []) (fun _ => [(1, 0, [.int .i64 (i64 (a2 + a0))])]) (fun _ => []) (fun _ => ?_)
 refine WP.seq (WP.rn [] [(4, .int .u64 r1)] ?_)
 obtain rfl := Option.some.inj hM
 exact WP.ret [] [] (.int .u64 r1) (by kernel_rfl) (fun w' hw => ⟨(), rfl, hw.pick [0, 1] (by kernel_rfl)⟩)
def stringslite_HasPrefix.k1 (x4 : Bool) : Option (Bool) :=
 some x4
def stringslite_HasPrefix.f (a0 : ByteArray) (a1 : ByteArray) : Option (Bool) :=
 bif decide ((a0.size : Int) ≥ (a1.size : Int)) then
  (sliceS a0 0 (a1.size : Int)).bind fun t2 =>
  stringslite_HasPrefix.k1 (t2.toList == a1.toList)
 else
  stringslite_HasPrefix.k1 false
theorem stringslite_HasPrefix_calls (a0 : ByteArray) (a1 : ByteArray) (r : Bool) (h : stringslite_HasPrefix.f a0 a1 = some r) : Pure Tryz.prog Glob 128 #[.string a0, .string a1] (.bool r) := by
 intro w Z hS
 refine callsS (args := [.string a0, .string a1]) (L := [(0, .string a0), (1, .string a1)]) (N := 18) Tryz.func128 hS ?_
 have hM := h
 clear h hS
 unfold stringslite_HasPrefix.f at hM
 refine WP.seq (WP.rn [] [(4, .bool false)] ?_)
 refine WP.seq (WP.region (WL.rn 6 [] [(10, .bool (decide ((a0.size : Int) ≥ (a1.size : Int))))] ?_))
 refine WL.join (σ := Bool) 7 (fun st => stringslite_HasPrefix.k1 st = some r) (fun st => [(4, .bool false), (17, .bool st)]) (fun st => Sat w Z [] [] Glob) (fun st hM => ?_) (fun K1 => ?_)
 ·
  obtain ⟨x4, rfl⟩ : ∃ y, y = st := ⟨st, rfl⟩
  replace hM : stringslite_HasPrefix.k1 x4 = some r := hM
  unfold stringslite_HasPrefix.k1 at hM
  try dsimp only
  refine WL.rn 1 [] [(4, .bool x4)] ?_
  refine WP.done ?_
  obtain rfl := Option.some.inj hM
  exact WP.retQ [] []
 ·
  refine WL.sp 10 (decide ((a0.size : Int) ≥ (a1.size : Int))) (fun c1 => ?_) (fun c1 => ?_)
  ·replace hM := cond_t hM c1
   refine WL.rn 3 [] [(11, .string a0), (13, .int .i64 (a1.size : Int))] ?_
   obtain ⟨t2, h3, hM⟩ := bind_some hM
   refine WL.val (fun _ => run_sliceS_hi (s := a0) (kh := .i64) (h := (a1.size : Int)) (by kernel_rfl) (by kernel_rfl) (by kernel_rfl) h3) (by kernel_rfl) (by kernel_rfl) rfl ?_
   refine WL.rn 3 [] [(17, .bool (t2.toList == a1.toList))] ?_
   exact WL.sub [4, 17] (by kernel_rfl) (WL.pick [] (by kernel_rfl) (by kernel_rfl) (K1 (t2.toList == a1.toList) hM))
  ·replace hM := cond_f hM c1
   refine WL.rn 7 [] [(17, .bool false)] ?_
   exact WL.sub [4, 17] (by kernel_rfl) (WL.pick [] (by kernel_rfl) (by kernel_rfl) (K1 false hM))
def strings_HasPrefix.f (a0 : ByteArray) (a1 : ByteArray) : Option (Bool) :=
 (stringslite_HasPrefix.f a0 a1).bind fun r1 =>
 some r1
theorem strings_HasPrefix_calls (a0 : ByteArray) (a1 : ByteArray) (r : Bool) (h : strings_HasPrefix.f a0 a1 = some r) : Pure Tryz.prog Glob 79 #[.string a0, .string a1] (.bool r) := by
 intro w Z hS
 refine callsS (args := [.string a0, .string a1]) (L := [(0, .string a0), (1, .string a1)]) (N := 8) Tryz.func79 hS ?_
 have hM := h
 clear h hS
 unfold strings_HasPrefix.f at hM
 refine WP.seq (WP.rn [] [(4, .bool false)] ?_)
 refine WP.seq (WP.region (WL.rn 2 [] [(5, .string a0), (6, .string a1)] ?_))
 obtain ⟨r1, h2, hM⟩ := bind_some hM
 refine WL.callP [] [] (stringslite_HasPrefix_calls a0 a1 _ h2) (fun _ h => h) (by kernel_rfl) (by kernel_rfl) rfl ?_
 refine WL.rn 1 [] [(4, .bool r1)] ?_
 refine WP.done ?_
 obtain rfl := Option.some.inj hM
 exact WP.retQ [] []
def arp_Check.k1 (a0 : api_Arp) (x5 : Bool) : Option (Int) :=
 bif (x5 || (decide (a0.TMac ≥ 281474976710656))) then
  some 51
 else
  some 0
def arp_Check.f (a0 : api_Arp) : Option (Int) :=
 bif ((a0.Op != 1) && (a0.Op != 2)) then
  arp_Check.k1 a0 true
 else
  (addrs_Own.f a0.SMac).bind fun r3 =>
  arp_Check.k1 a0 (!r3)
theorem arp_Check_calls (a0 : api_Arp) (r : Int) (h : arp_Check.f a0 = some r) : Pure Tryz.prog Glob 43 #[api_Arp.v a0] (.int .i64 r) := by
 intro w Z hS
 refine callsS (args := [api_Arp.v a0]) (L := [(0, api_Arp.v a0)]) (N := 22) Tryz.func43 hS ?_
 have hM := h
 clear h hS
 unfold arp_Check.f at hM
 refine WP.seq ?_
 refine WP.rh [] (fun b1 => [(1, .pointer (some ⟨b1, 0, none⟩)), (2, .int .i64 0)]) (fun b1 => []) (fun b1 => [(b1, api_Arp.o a0)]) (fun b1 => ?_)
 refine WP.seq (WP.seq (WP.region (WL.rn 4 [0] [(6, .bool (a0.Op != 1))] ?_)))
 refine WL.bo 6 (a0.Op != 1) 4 [0] [] (fun b' => [(10, .bool (b' && (a0.Op != 2)))]) ?_
 refine WL.rn 1 [] [(11, .bool ((a0.Op != 1) && (a0.Op != 2)))] ?_
 refine WL.join (σ := Bool) 5 (fun st => arp_Check.k1 a0 st = some r) (fun st => [(1, .pointer (some ⟨b1, 0, none⟩)), (2, .int .i64 0), (16, .bool st)]) (fun st => Sat w Z [(b1, api_Arp.o a0)] [] Glob) (fun st hM => ?_) (fun K1 => ?_)
 ·
  obtain ⟨x5, rfl⟩ : ∃ y, y = st := ⟨st, rfl⟩
  replace hM : arp_Check.k1 a0 x5 = some r := hM
  unfold arp_Check.k1 at hM
  try dsimp only
  refine WL.rn 1 [] [(17, .bool x5)] ?_
  refine WL.bo 17 x5 4 [] [0] (fun b' => [(21, .bool (b' || (decide (a0.TMac ≥ 281474976710656))))]) ?_
  refine WP.done (WP.kp [false] ?_)
  refine WP.cond (x5 || (decide (a0.TMac ≥ 281474976710656))) rfl rfl (fun c6 => ?_) (fun c6 => ?_)
  ·replace hM := cond_t hM c6
   refine WP.seq (WP.rn [] [(2, .int .i64 51)] ?_)
   obtain rfl := Option.some.inj hM
   exact WP.retQ [] []
  ·replace hM := cond_f hM c6
   refine WP.skip (WP.seq (WP.rn [] [(2, .int .i64 0)] ?_))
   obtain rfl := Option.some.inj hM
   exact WP.retQ [] []
 ·
  refine WL.sp 11 ((a0.Op != 1) && (a0.Op != 2)) (fun c2 => ?_) (fun c2 => ?_)
  ·replace hM := cond_t hM c2
   refine WL.rn 5 [] [(16, .bool true)] ?_
   exact WL.sub [1, 2, 16] (by kernel_rfl) (WL.pick [0] (by kernel_rfl) (by kernel_rfl) (K1 true hM))
  ·replace hM := cond_f hM c2
   refine WL.rn 2 [0] [(13, .int .u64 a0.SMac)] ?_
   obtain ⟨r3, h4, hM⟩ := bind_some hM
   refine WL.callP [] [] (addrs_Own_calls a0.SMac _ h4) (fun _ h => h) (by kernel_rfl) (by kernel_rfl) rfl ?_
   refine WL.rn 2 [] [(16, .bool (!r3))] ?_
   exact WL.sub [1, 2, 16] (by kernel_rfl) (WL.pick [0] (by kernel_rfl) (by kernel_rfl) (K1 (!r3) hM))
def arp_Parse.k1 (r4 : Int) (r7 : Int) (r10 : Int) (r13 : Int) (r16 : Int) (x25 : Bool) : Option (api_Arp × Int) :=
 bif x25 then
  some ((api_Arp.mk 0 0 0 0 0), 51)
 else
  some ((api_Arp.mk (i64 r4) r7 (u32 r10) r13 (u32 r16)), 0)
def arp_Parse.f (k : Nat) (a0 : ByteArray) : Option (api_Arp × Int) :=
 bif decide ((a0.size : Int) < 28) then
  some ((api_Arp.mk 0 0 0 0 0), 50)
 else
  (arp_Parse_1.f k 2 a0 6).bind fun (r4, r5) =>
  (arp_Parse_1.f k 6 a0 r5).bind fun (r7, r8) =>
  (arp_Parse_1.f k 4 a0 r8).bind fun (r10, r11) =>
  (arp_Parse_1.f k 6 a0 r11).bind fun (r13, r14) =>
  (arp_Parse_1.f k 4 a0 r14).bind fun (r16, r17) =>
  (strings_HasPrefix.f a0 (⟨#[0, 1, 8, 0, 6, 4]⟩ : ByteArray)).bind fun r20 =>
  bif !r20 then
   arp_Parse.k1 r4 r7 r10 r13 r16 true
  else
   (arp_Check.f (api_Arp.mk (i64 r4) r7 (u32 r10) r13 (u32 r16))).bind fun r23 =>
   arp_Parse.k1 r4 r7 r10 r13 r16 (r23 != 0)
theorem arp_Parse_calls (k : Nat) (a0 : ByteArray) (r : api_Arp × Int) (h : arp_Parse.f k a0 = some r) : Pure Tryz.prog Glob 42 #[.string a0] (.tuple #[api_Arp.v r.1, .int .i64 r.2]) := by
 intro w Z hS
 refine callsS (args := [.string a0]) (L := [(0, .string a0)]) (N := 36) Tryz.func42 hS ?_
 have hM := h
 clear h hS
 unfold arp_Parse.f at hM
 refine WP.seq ?_
 refine WP.rh [] (fun b1 => [(1, .pointer (some ⟨b1, 0, none⟩)), (2, .pointer (some ⟨(b1 + 1), 0, none⟩)), (3, .int .i64 0)]) (fun b1 => []) (fun b1 => [(b1, .cells #[.string a0] 9 (0, 0)), ((b1 + 1), .cells #[.int .i64 0, .int .u64 0, .int .u32 0, .int .u64 0, .int .u32 0] 51 (0, 0))]) (fun b1 => ?_)
 refine WP.seq (WP.seq (WP.rn [0] [(9, .bool (decide ((a0.size : Int) < 28)))] ?_))
 refine WP.cond (decide ((a0.size : Int) < 28)) rfl rfl (fun c2 => ?_) (fun c2 => ?_)
 ·replace hM := cond_t hM c2
  refine WP.seq (WP.rn [1, 1, 1, 1, 1] [(3, .int .i64 50)] ?_)
  obtain rfl := Option.some.inj hM
  exact WP.retQ [1, 1, 1, 1, 1] [(b1 + 1), (b1 + 1), (b1 + 1), (b1 + 1), (b1 + 1)]
 ·replace hM := cond_f hM c2
  refine WP.skip (WP.seq ?_)
  refine WP.rh [2] (fun b3 => [(4, .pointer (some ⟨b3, 0, none⟩))]) (fun b3 => []) (fun b3 => [(b3, .cells #[.int .i64 6] 3 (0, 0))]) (fun b3 => ?_)
  refine WP.seq ?_
  refine WP.rn [] [(5, .func (.func 77) #[] #[.pointer (some ⟨b1, 0, none⟩), .pointer (some ⟨b3, 0, none⟩)])] ?_
  refine WP.seq (WP.region ?_)
  refine WL.rn 1 [] [(12, .func (.func 77) #[] #[.pointer (some ⟨b1, 0, none⟩), .pointer (some ⟨b3, 0, none⟩)])] ?_
  obtain ⟨⟨r4, r5⟩, h6, hM⟩ := bind_some hM
  dsimp only at hM
  refine WL.callE (X := Unit) [] [] [true, false, true] (fun _ => _) (arp_Parse_1_calls k b1 b3 2 a0 6 _ h6) rfl rfl (fun _ h => h) (by kernel_rfl) (by kernel_rfl) (fun _ => rfl) (fun _ => ?_)
  refine WL.rn 2 [] [(14, .int .i64 (i64 r4)), (15, .func (.func 77) #[] #[.pointer (some ⟨b1, 0, none⟩), .pointer (some ⟨b3, 0, none⟩)])] ?_
  obtain ⟨⟨r7, r8⟩, h9, hM⟩ := bind_some hM
  dsimp only at hM
  refine WL.callE (X := Unit) [] [] [true, true, false] (fun _ => _) (arp_Parse_1_calls k b1 b3 6 a0 r5 _ h9) rfl rfl (fun _ h => h) (by kernel_rfl) (by kernel_rfl) (fun _ => rfl) (fun _ => ?_)
  refine WL.rn 1 [] [(17, .func (.func 77) #[] #[.pointer (some ⟨b1, 0, none⟩), .pointer (some ⟨b3, 0, none⟩)])] ?_
  obtain ⟨⟨r10, r11⟩, h12, hM⟩ := bind_some hM
  dsimp only at hM
  refine WL.callE (X := Unit) [] [] [true, true, false] (fun _ => _) (arp_Parse_1_calls k b1 b3 4 a0 r8 _ h12) rfl rfl (fun _ h => h) (by kernel_rfl) (by kernel_rfl) (fun _ => rfl) (fun _ => ?_)
  refine WL.rn 2 [] [(19, .int .u32 (u32 r10)), (20, .func (.func 77) #[] #[.pointer (some ⟨b1, 0, none⟩), .pointer (some ⟨b3, 0, none⟩)])] ?_
  obtain ⟨⟨r13, r14⟩, h15, hM⟩ := bind_some hM
  dsimp only at hM
  refine WL.callE (X := Unit) [] [] [true, true, false] (fun _ => _) (arp_Parse_1_calls k b1 b3 6 a0 r11 _ h15) rfl rfl (fun _ h => h) (by kernel_rfl) (by kernel_rfl) (fun _ => rfl) (fun _ => ?_)
  refine WL.rn 1 [] [(22, .func (.func 77) #[] #[.pointer (some ⟨b1, 0, none⟩), .pointer (some ⟨b3, 0, none⟩)])] ?_
  obtain ⟨⟨r16, r17⟩, h18, hM⟩ := bind_some hM
  dsimp only at hM
  refine WL.callE (X := Unit) [] [] [true, true, false] (fun _ => _) (arp_Parse_1_calls k b1 b3 4 a0 r14 _ h18) rfl rfl (fun _ h => h) (by kernel_rfl) (by kernel_rfl) (fun _ => rfl) (fun _ => ?_)
  refine WL.rh 4 [3, 3, 3, 3, 3] (fun b19 => [(6, .pointer (some ⟨b19, 0, none⟩))]) (fun b19 => []) (fun b19 => [(b19, .cells #[.int .i64 (i64 r4), .int .u64 r7, .int .u32 (u32 r10), .int .u64 r13, .int .u32 (u32 r16)] 51 (0, 0))]) (fun b19 => ?_)
  refine WP.done (WP.kp [true, false, true, true] ?_)
  refine WP.seq (WP.seq (WP.region (WL.rn 1 [0] [(26, .string a0)] ?_)))
  obtain ⟨r20, h21, hM⟩ := bind_some hM
  refine WL.callP [] [] (strings_HasPrefix_calls a0 (⟨#[0, 1, 8, 0, 6, 4]⟩ : ByteArray) _ h21) (fun _ h => h) (by kernel_rfl) (by kernel_rfl) rfl ?_
  refine WL.rn 2 [] [(29, .bool (!r20))] ?_
  refine WL.join (σ := Bool) 4 (fun st => arp_Parse.k1 r4 r7 r10 r13 r16 st = some r) (fun st => [(2, .pointer (some ⟨(b1 + 1), 0, none⟩)), (3, .int .i64 0), (6, .pointer (some ⟨b19, 0, none⟩)), (33, .bool st)]) (fun st => Sat w Z [((b1 + 1), .cells #[.int .i64 0, .int .u64 0, .int .u32 0, .int .u64 0, .int .u32 0] 51 (0, 0)), (b19, .cells #[.int .i64 (i64 r4), .int .u64 r7, .int .u32 (u32 r10), .int .u64 r13, .int .u32 (u32 r16)] 51 (0, 0))] [] Glob) (fun st hM => ?_) (fun K1 => ?_)
  ·
   obtain ⟨x25, rfl⟩ : ∃ y, y = st := ⟨st, rfl⟩
   replace hM : arp_Parse.k1 r4 r7 r10 r13 r16 x25 = some r := hM
   unfold arp_Parse.k1 at hM
   try dsimp only
   refine WP.done ?_
   refine WP.cond x25 rfl rfl (fun c26 => ?_) (fun c26 => ?_)
   ·replace hM := cond_t hM c26
    refine WP.seq (WP.rn [0, 0, 0, 0, 0] [(3, .int .i64 51)] ?_)
    obtain rfl := Option.some.inj hM
    exact WP.retQ [0, 0, 0, 0, 0] [(b1 + 1), (b1 + 1), (b1 + 1), (b1 + 1), (b1 + 1)]
   ·replace hM := cond_f hM c26
    refine WP.skip (WP.seq ?_)
    refine WP.rh [1, 1, 1, 1, 1, 0, 0, 0, 0, 0] (fun _ => [(3, .int .i64 0)]) (fun _ => [(0, 0, [.int .i64 (i64 r4), .int .u64 r7, .int .u32 (u32 r10), .int .u64 r13, .int .u32 (u32 r16)])]) (fun _ => []) (fun _ => ?_)
    refine WP.kp [true, false] ?_
    obtain rfl := Option.some.inj hM
    exact WP.retQ [0, 0, 0, 0, 0] [(b1 + 1), (b1 + 1), (b1 + 1), (b1 + 1), (b1 + 1)]
  ·
   refine WL.sp 29 (!r20) (fun c22 => ?_) (fun c22 => ?_)
   ·replace hM := cond_t hM c22
    refine WL.rn 4 [] [(33, .bool true)] ?_
    exact WL.sub [2, 3, 6, 33] (by kernel_rfl) (WL.pick [1, 2] (by kernel_rfl) (by kernel_rfl) (K1 true hM))
   ·replace hM := cond_f hM c22
    refine WL.rn 1 [2, 2, 2, 2, 2] [(30, .agg #[.int .i64 (i64 r4), .int .u64 r7, .int .u32 (u32 r10), .int .u64 r13, .int .u32 (u32 r16)])] ?_
    obtain ⟨r23, h24, hM⟩ := bind_some hM
    refine WL.callP [] [] (arp_Check_calls (api_Arp.mk (i64 r4) r7 (u32 r10) r13 (u32 r16)) _ h24) (fun _ h => h) (by kernel_rfl) (by kernel_rfl) rfl ?_
    refine WL.rn 2 [] [(33, .bool (r23 != 0))] ?_
    exact WL.sub [2, 3, 6, 33] (by kernel_rfl) (WL.pick [1, 2] (by kernel_rfl) (by kernel_rfl) (K1 (r23 != 0) hM))
def arp_Of.f (k : Nat) (a0 : api_Frame) : Option (api_Arp × Bool) :=
 bif (a0.Type_ != 2054) then
  some ((api_Arp.mk 0 0 0 0 0), false)
 else
  (arp_Parse.f k a0.Body).bind fun (r3, r4) =>
  some (r3, (r4 == 0))
theorem arp_Of_calls (k : Nat) (a0 : api_Frame) (r : api_Arp × Bool) (h : arp_Of.f k a0 = some r) : Pure Tryz.prog Glob 21 #[api_Frame.v a0] (.tuple #[api_Arp.v r.1, .bool r.2]) := by
 intro w Z hS
 refine callsS (args := [api_Frame.v a0]) (L := [(0, api_Frame.v a0)]) (N := 19) Tryz.func21 hS ?_
 have hM := h
 clear h hS
 unfold arp_Of.f at hM
 refine WP.seq ?_
 refine WP.rh [] (fun b1 => [(1, .pointer (some ⟨b1, 0, none⟩)), (2, .pointer (some ⟨(b1 + 1), 0, none⟩)), (3, .bool false)]) (fun b1 => []) (fun b1 => [(b1, api_Frame.o a0), ((b1 + 1), .cells #[.int .i64 0, .int .u64 0, .int .u32 0, .int .u64 0, .int .u32 0] 51 (0, 0))]) (fun b1 => ?_)
 refine WP.seq (WP.seq (WP.rn [0] [(8, .bool (a0.Type_ != 2054))] ?_))
 refine WP.cond (a0.Type_ != 2054) rfl rfl (fun c2 => ?_) (fun c2 => ?_)
 ·replace hM := cond_t hM c2
  refine WP.seq (WP.rn [1, 1, 1, 1, 1] [(3, .bool false)] ?_)
  obtain rfl := Option.some.inj hM
  exact WP.retQ [1, 1, 1, 1, 1] [(b1 + 1), (b1 + 1), (b1 + 1), (b1 + 1), (b1 + 1)]
 ·replace hM := cond_f hM c2
  refine WP.skip (WP.seq (WP.region (WL.rn 2 [0] [(12, .string a0.Body)] ?_)))
  obtain ⟨⟨r3, r4⟩, h5, hM⟩ := bind_some hM
  dsimp only at hM
  refine WL.callP [] [] (arp_Parse_calls k a0.Body _ h5) (fun _ h => h) (by kernel_rfl) (by kernel_rfl) rfl ?_
  refine WL.rh 6 [2, 2, 2, 2, 2] (fun b6 => [(4, .pointer (some ⟨b6, 0, none⟩)), (5, .int .i64 r4)]) (fun b6 => []) (fun b6 => [(b6, api_Arp.o r3)]) (fun b6 => ?_)
  refine WP.done (WP.kp [false, true, true] ?_)
  refine WP.seq ?_
  refine WP.rh [1, 1, 1, 1, 1, 0, 0, 0, 0, 0] (fun _ => [(3, .bool (r4 == 0))]) (fun _ => [(0, 0, [.int .i64 r3.Op, .int .u64 r3.SMac, .int .u32 r3.SIp, .int .u64 r3.TMac, .int .u32 r3.TIp])]) (fun _ => []) (fun _ => ?_)
  refine WP.kp [true, false] ?_
  obtain rfl := Option.some.inj hM
  exact WP.retQ [0, 0, 0, 0, 0] [(b1 + 1), (b1 + 1), (b1 + 1), (b1 + 1), (b1 + 1)]
def arp_Tell.k1 (k : Nat) (a1 : Int) (a0 : api_Arp) (x9 : Bool) : Option (api_Frame × Int) :=
 bif x9 then
  some ((api_Frame.mk 0 0 (api_Tag.mk false 0 false 0) 0 (⟨#[]⟩ : ByteArray)), 51)
 else
  (arp_laid.f k (api_Arp.mk 2 a1 a0.TIp a0.SMac a0.SIp)).bind fun r12 =>
  some ((api_Frame.mk a0.SMac a1 (api_Tag.mk false 0 false 0) 2054 r12), 0)
def arp_Tell.k2 (k : Nat) (a1 : Int) (a0 : api_Arp) (x5 : Bool) : Option (api_Frame × Int) :=
 bif x5 then
  arp_Tell.k1 k a1 a0 true
 else
  (addrs_Own.f a1).bind fun r7 =>
  arp_Tell.k1 k a1 a0 (!r7)
def arp_Tell.f (k : Nat) (a0 : api_Arp) (a1 : Int) : Option (api_Frame × Int) :=
 bif (a0.Op != 1) then
  arp_Tell.k2 k a1 a0 true
 else
  (arp_Check.f a0).bind fun r3 =>
  arp_Tell.k2 k a1 a0 (r3 != 0)
theorem arp_Tell_calls (k : Nat) (a0 : api_Arp) (a1 : Int) (r : api_Frame × Int) (h : arp_Tell.f k a0 a1 = some r) : Pure Tryz.prog Glob 22 #[api_Arp.v a0, .int .u64 a1] (.tuple #[api_Frame.v r.1, .int .i64 r.2]) := by
 intro w Z hS
 refine callsS (args := [api_Arp.v a0, .int .u64 a1]) (L := [(0, api_Arp.v a0), (1, .int .u64 a1)]) (N := 35) Tryz.func22 hS ?_
 have hM := h
 clear h hS
 unfold arp_Tell.f at hM
 refine WP.seq ?_
 refine WP.rh [] (fun b1 => [(2, .pointer (some ⟨b1, 0, none⟩)), (4, .pointer (some ⟨(b1 + 1), 0, none⟩)), (5, .int .i64 0)]) (fun b1 => []) (fun b1 => [(b1, api_Arp.o a0), ((b1 + 1), .cells #[.int .u64 0, .int .u64 0, .bool false, .int .i64 0, .bool false, .int .i64 0, .int .i64 0, .string (⟨#[]⟩ : ByteArray)] 40 (0, 0))]) (fun b1 => ?_)
 refine WP.seq (WP.seq (WP.region (WL.rn 4 [0] [(10, .bool (a0.Op != 1))] ?_)))
 refine WL.join (σ := Bool) 4 (fun st => arp_Tell.k2 k a1 a0 st = some r) (fun st => [(1, .int .u64 a1), (2, .pointer (some ⟨b1, 0, none⟩)), (4, .pointer (some ⟨(b1 + 1), 0, none⟩)), (5, .int .i64 0), (14, .bool st)]) (fun st => Sat w Z [(b1, api_Arp.o a0), ((b1 + 1), .cells #[.int .u64 0, .int .u64 0, .bool false, .int .i64 0, .bool false, .int .i64 0, .int .i64 0, .string (⟨#[]⟩ : ByteArray)] 40 (0, 0))] [] Glob) (fun st hM => ?_) (fun K2 => ?_)
 ·
  obtain ⟨x5, rfl⟩ : ∃ y, y = st := ⟨st, rfl⟩
  replace hM : arp_Tell.k2 k a1 a0 x5 = some r := hM
  unfold arp_Tell.k2 at hM
  try dsimp only
  refine WL.rn 1 [] [(15, .bool x5)] ?_
  refine WL.join (σ := Bool) 4 (fun st => arp_Tell.k1 k a1 a0 st = some r) (fun st => [(1, .int .u64 a1), (2, .pointer (some ⟨b1, 0, none⟩)), (4, .pointer (some ⟨(b1 + 1), 0, none⟩)), (5, .int .i64 0), (19, .bool st)]) (fun st => Sat w Z [(b1, api_Arp.o a0), ((b1 + 1), .cells #[.int .u64 0, .int .u64 0, .bool false, .int .i64 0, .bool false, .int .i64 0, .int .i64 0, .string (⟨#[]⟩ : ByteArray)] 40 (0, 0))] [] Glob) (fun st hM => ?_) (fun K1 => ?_)
  ·
   obtain ⟨x9, rfl⟩ : ∃ y, y = st := ⟨st, rfl⟩
   replace hM : arp_Tell.k1 k a1 a0 x9 = some r := hM
   unfold arp_Tell.k1 at hM
   try dsimp only
   refine WP.done ?_
   refine WP.cond x9 rfl rfl (fun c10 => ?_) (fun c10 => ?_)
   ·replace hM := cond_t hM c10
    refine WP.seq (WP.rn [1, 1, 1, 1, 1, 1, 1, 1] [(5, .int .i64 51)] ?_)
    obtain rfl := Option.some.inj hM
    exact WP.retQ [1, 1, 1, 1, 1, 1, 1, 1] [(b1 + 1), (b1 + 1), (b1 + 1), (b1 + 1), (b1 + 1), (b1 + 1), (b1 + 1), (b1 + 1)]
   ·replace hM := cond_f hM c10
    refine WP.skip (WP.seq ?_)
    refine WP.rh [0, 0, 0, 2, 2, 2, 2, 2] (fun b11 => [(6, .pointer (some ⟨b11, 0, none⟩))]) (fun b11 => []) (fun b11 => [(b11, .cells #[.int .i64 2, .int .u64 a1, .int .u32 a0.TIp, .int .u64 a0.SMac, .int .u32 a0.SIp] 51 (0, 0))]) (fun b11 => ?_)
    refine WP.seq ?_
    obtain ⟨r12, h13, hM⟩ := bind_some hM
    refine WP.less (Φ' := [] ++ Glob) (fun _ h => h) ?_
    refine WP.rs [1, 2, 4, 5, 6] ?_
    refine WP.graphF (X := Unit) 8 4 [⟨0, 8, fun _ => [(b1, api_Arp.o a0)], fun _ => []⟩, ⟨0, 6, fun _ => [((b1 + 1), .cells #[.int .u64 0, .int .u64 0, .bool false, .int .i64 0, .bool false, .int .i64 0, .int .i64 0, .string (⟨#[]⟩ : ByteArray)] 40 (0, 0))], fun _ => []⟩, ⟨0, 8, fun _ => [(b11, .cells #[.int .i64 2, .int .u64 a1, .int .u32 a0.TIp, .int .u64 a0.SMac, .int .u32 a0.SIp] 51 (0, 0))], fun _ => []⟩, ⟨7, 8, fun _ => [((b1 + 1), .cells #[.int .u64 a0.SMac, .int .u64 a1, .bool false, .int .i64 0, .bool false, .int .i64 0, .int .i64 2054, .string r12] 40 (0, 0))], fun _ => []⟩] [⟨[], [], [], [], [], fun _ => .pointer (some ⟨b1, 1, none⟩), fun _ => []⟩, ⟨[0], [0], [0], [], [], fun _ => .int .u64 a0.SMac, fun _ => []⟩, ⟨[], [], [], [], [], fun _ => .int .u64 a1, fun _ => []⟩, ⟨[], [2], [2], [], [], fun _ => .agg #[.int .i64 2, .int .u64 a1, .int .u32 a0.TIp, .int .u64 a0.SMac, .int .u32 a0.SIp], fun _ => []⟩, ⟨[3], [], [], [], [], fun _ => .string r12, fun _ => []⟩, ⟨[0, 1, 2, 3, 4], [], [], [], [], fun _ => .agg #[.int .u64 a0.SMac, .int .u64 a1, .bool false, .int .i64 0, .bool false, .int .i64 0, .int .i64 2054, .string r12], fun _ => []⟩, ⟨[0, 1, 2, 3, 4, 5], [1], [3], [], [], fun _ => .tuple #[], fun _ => []⟩, ⟨[0, 1, 2, 3, 4, 5, 6], [], [], [], [], fun _ => .int .i64 0, fun _ => []⟩] (fun ξ => [(5, .int .i64 0)]) (fun ξ => [(b1, api_Arp.o a0), (b11, .cells #[.int .i64 2, .int .u64 a1, .int .u32 a0.TIp, .int .u64 a0.SMac, .int .u32 a0.SIp] 51 (0, 0)), ((b1 + 1), .cells #[.int .u64 a0.SMac, .int .u64 a1, .bool false, .int .i64 0, .bool false, .int .i64 0, .int .i64 2054, .string r12] 40 (0, 0))]) (fun ξ => []) (fun ξ => []) (AllN.cons ?_ (AllN.cons ?_ (AllN.cons ?_ (AllN.cons ?_ (AllN.cons ?_ (AllN.cons ?_ (AllN.cons ?_ (AllN.cons ?_ AllN.nil)))))))) (AllN.cons (VAgr.c rfl) (AllN.cons (VAgr.c rfl) (AllN.cons (VAgr.c rfl) (AllN.cons (VAgr.c rfl) (AllN.cons (VAgr.c rfl) (AllN.cons (VAgr.c rfl) (AllN.cons (VAgr.c rfl) (AllN.cons (VAgr.c rfl) AllN.nil)))))))) (AllN.cons (RAgr.c rfl) (AllN.cons (RAgr.c rfl) (AllN.cons (RAgr.c rfl) (AllN.cons (RAgr.c rfl) AllN.nil)))) (fun ξ => ?_)
    ·
     intro o t ho ht ξ Gr Γr Lr Q hk
     cases ho; cases ht
     refine WL.rn 1 [] [(29, .pointer (some ⟨b1, 1, none⟩))] ?_
     exact WL.fin (hk default)
    ·
     intro o t ho ht ξ Gr Γr Lr Q hk
     cases ho; cases ht
     refine WL.rn 1 [0] [(30, .int .u64 a0.SMac)] ?_
     exact WL.fin (hk default)
    ·
     intro o t ho ht ξ Gr Γr Lr Q hk
     cases ho; cases ht
     refine WL.rn 1 [] [(31, .int .u64 a1)] ?_
     exact WL.fin (hk default)
    ·
     intro o t ho ht ξ Gr Γr Lr Q hk
     cases ho; cases ht
     refine WL.rn 1 [0, 0, 0, 0, 0] [(32, .agg #[.int .i64 2, .int .u64 a1, .int .u32 a0.TIp, .int .u64 a0.SMac, .int .u32 a0.SIp])] ?_
     exact WL.fin (hk default)
    ·
     intro o t ho ht ξ Gr Γr Lr Q hk
     cases ho; cases ht
     refine WL.callP [] [] (arp_laid_calls k (api_Arp.mk 2 a1 a0.TIp a0.SMac a0.SIp) _ h13) (fun _ h => List.mem_append_right _ h) (by kernel_rfl) (by kernel_rfl) rfl ?_
     exact WL.fin (hk default)
    ·
     intro o t ho ht ξ Gr Γr Lr Q hk
     cases ho; cases ht
     refine WL.rn 1 [] [(34, .agg #[.int .u64 a0.SMac, .int .u64 a1, .bool false, .int .i64 0, .bool false, .int .i64 0, .int .i64 2054, .string r12])] ?_
     exact WL.fin (hk default)
    ·
     intro o t ho ht ξ Gr Γr Lr Q hk
     cases ho; cases ht
     refine WL.rh 1 [0, 0, 0, 0, 0, 0, 0, 0] (fun _ => []) (fun _ => [(0, 0, [.int .u64 a0.SMac, .int .u64 a1]), (0, 6, [.int .i64 2054, .string r12])]) (fun _ => []) (fun _ => ?_)
     exact WL.fin (hk default)
    ·
     intro o t ho ht ξ Gr Γr Lr Q hk
     cases ho; cases ht
     refine WL.rn 1 [] [(5, .int .i64 0)] ?_
     exact WL.fin (hk default)
    refine WP.less (Φ' := Glob) (fun _ h => h) ?_
    refine WP.kp [false, false, true] ?_
    obtain rfl := Option.some.inj hM
    exact WP.retQ [0, 0, 0, 0, 0, 0, 0, 0] [(b1 + 1), (b1 + 1), (b1 + 1), (b1 + 1), (b1 + 1), (b1 + 1), (b1 + 1), (b1 + 1)]
  ·
   refine WL.sp 15 x5 (fun c6 => ?_) (fun c6 => ?_)
   ·replace hM := cond_t hM c6
    refine WL.rn 4 [] [(19, .bool true)] ?_
    exact WL.sub [1, 2, 4, 5, 19] (by kernel_rfl) (WL.pick [0, 1] (by kernel_rfl) (by kernel_rfl) (K1 true hM))
   ·replace hM := cond_f hM c6
    refine WL.rn 1 [] [(16, .int .u64 a1)] ?_
    obtain ⟨r7, h8, hM⟩ := bind_some hM
    refine WL.callP [] [] (addrs_Own_calls a1 _ h8) (fun _ h => h) (by kernel_rfl) (by kernel_rfl) rfl ?_
    refine WL.rn 2 [] [(19, .bool (!r7))] ?_
    exact WL.sub [1, 2, 4, 5, 19] (by kernel_rfl) (WL.pick [0, 1] (by kernel_rfl) (by kernel_rfl) (K1 (!r7) hM))
 ·
  refine WL.sp 10 (a0.Op != 1) (fun c2 => ?_) (fun c2 => ?_)
  ·replace hM := cond_t hM c2
   refine WL.rn 4 [] [(14, .bool true)] ?_
   exact WL.sub [1, 2, 4, 5, 14] (by kernel_rfl) (WL.pick [0, 1] (by kernel_rfl) (by kernel_rfl) (K2 true hM))
  ·replace hM := cond_f hM c2
   refine WL.rn 1 [0, 0, 0, 0, 0] [(11, api_Arp.v a0)] ?_
   obtain ⟨r3, h4, hM⟩ := bind_some hM
   refine WL.callP [] [] (arp_Check_calls a0 _ h4) (fun _ h => h) (by kernel_rfl) (by kernel_rfl) rfl ?_
   refine WL.rn 2 [] [(14, .bool (r3 != 0))] ?_
   exact WL.sub [1, 2, 4, 5, 14] (by kernel_rfl) (WL.pick [0, 1] (by kernel_rfl) (by kernel_rfl) (K2 (r3 != 0) hM))
def trace_bridges.f (k : Nat) (a0 : api_Event) : Option (Bool) :=
 (ether_Parse.f k a0.S).bind fun (r2, r3) =>
 some (((r3 == 0) && (decide (r2.Dst ≥ 1652522221568))) && (decide (r2.Dst < 1652522221584)))
theorem trace_bridges_calls (k : Nat) (a0 : api_Event) (r : Bool) (h : trace_bridges.f k a0 = some r) : Pure Tryz.prog Glob 15 #[api_Event.v a0] (.bool r) := by
 intro w Z hS
 refine callsS (args := [api_Event.v a0]) (L := [(0, api_Event.v a0)]) (N := 23) Tryz.func15 hS ?_
 have hM := h
 clear h hS
 unfold trace_bridges.f at hM
 refine WP.seq ?_
 refine WP.rh [] (fun b1 => [(1, .pointer (some ⟨b1, 0, none⟩)), (2, .bool false)]) (fun b1 => []) (fun b1 => [(b1, api_Event.o a0)]) (fun b1 => ?_)
 refine WP.seq (WP.region (WL.rn 2 [0] [(7, .string a0.S)] ?_))
 obtain ⟨⟨r2, r3⟩, h4, hM⟩ := bind_some hM
 dsimp only at hM
 refine WL.callP [] [] (ether_Parse_calls k a0.S _ h4) (fun _ h => h) (by kernel_rfl) (by kernel_rfl) rfl ?_
 refine WL.rh 6 [1, 1, 1, 1, 1, 1, 1, 1] (fun b5 => [(3, .pointer (some ⟨b5, 0, none⟩)), (4, .int .i64 r3)]) (fun b5 => []) (fun b5 => [(b5, api_Frame.o r2)]) (fun b5 => ?_)
 refine WP.done (WP.kp [false, true] ?_)
 refine WP.seq (WP.region (WL.rn 3 [] [(13, .bool (r3 == 0))] ?_))
 refine WL.bo 13 (r3 == 0) 4 [0] [] (fun b' => [(17, .bool (b' && (decide (r2.Dst ≥ 1652522221568))))]) ?_
 refine WL.rn 1 [] [(18, .bool ((r3 == 0) && (decide (r2.Dst ≥ 1652522221568))))] ?_
 refine WL.bo 18 ((r3 == 0) && (decide (r2.Dst ≥ 1652522221568))) 4 [0] [] (fun b' => [(22, .bool (b' && (decide (r2.Dst < 1652522221584))))]) ?_
 refine WL.rn 1 [] [(2, .bool (((r3 == 0) && (decide (r2.Dst ≥ 1652522221568))) && (decide (r2.Dst < 1652522221584))))] ?_
 refine WP.done (WP.kp [false] ?_)
 obtain rfl := Option.some.inj hM
 exact WP.retQ [] []
def trace_came.f (a0 : (List trace_seen)) (a1 : Int) : Option ((List trace_seen) × Int) :=
 some (a0, a1)
theorem trace_came_calls (A00 : SkL Unit) (a0 : (List trace_seen)) (a1 : Int) (r : (List trace_seen) × Int) (h : trace_came.f a0 a1 = some r) : Does Tryz.prog 36 #[slcV A00 a0.length, .int .i64 a1] [] ([Row 14 (pl trace_seen.enc) noK A00 a0] ++ Glob) (fun x : (Nat × (SkL Unit) × Nat) => .func (.func 72) #[] #[.pointer (some ⟨x.1, 0, none⟩), .pointer (some ⟨x.2.2, 0, none⟩)]) (fun x => [(x.1, .cells #[slcV x.2.1 r.1.length] 35 (0, 0)), (x.2.2, .cells #[.int .i64 r.2] 3 (0, 0))]) (fun _ => []) (fun x => [Row 14 (pl trace_seen.enc) noK x.2.1 r.1] ++ ([Row 14 (pl trace_seen.enc) noK A00 a0] ++ Glob)) := by
 intro w Z hS
 refine callsS (args := [slcV A00 a0.length, .int .i64 a1]) (L := [(0, slcV A00 a0.length), (1, .int .i64 a1)]) (N := 6) Tryz.func36 hS ?_
 have hM := h
 clear h hS
 unfold trace_came.f at hM
 refine WP.seq ?_
 refine WP.rh [] (fun b1 => [(2, .pointer (some ⟨b1, 0, none⟩)), (3, .pointer (some ⟨(b1 + 1), 0, none⟩)), (4, .nilFunc)]) (fun b1 => []) (fun b1 => [(b1, .cells #[slcV A00 a0.length] 35 (0, 0)), ((b1 + 1), .cells #[.int .i64 a1] 3 (0, 0))]) (fun b1 => ?_)
 refine WP.seq ?_
 refine WP.rn [] [(4, .func (.func 72) #[] #[.pointer (some ⟨b1, 0, none⟩), .pointer (some ⟨(b1 + 1), 0, none⟩)])] ?_
 obtain rfl := Option.some.inj hM
 exact WP.ret [] [] (.func (.func 72) #[] #[.pointer (some ⟨b1, 0, none⟩), .pointer (some ⟨(b1 + 1), 0, none⟩)]) (by kernel_rfl) (fun w' hw => ⟨(b1, A00, (b1 + 1)), rfl, (hw.pick [0, 1] (by kernel_rfl)).less (sub_ret [0] [0] (by kernel_rfl) (by kernel_rfl))⟩)
def trace_came_1.k1 {ρ : Type} (x3 : Int) (rec_l2 : Int → Option (ρ)) (x13 : Bool) (x14 : Bool) : Option (ρ) :=
 rec_l2 (i64 (x3 + 1))
def trace_came_1.l2 {ρ : Type} (t1 : (List trace_seen)) (Y : (trace_seen → Option (Option ρ))) (e : (Option ρ)) : Nat → Int → Option (ρ)
 | 0, _ => none
 | n + 1, x3 =>
  bif decide (x3 < (t1.length : Int)) then
   (getL t1.length t1 x3).bind fun t5 =>
   bif (t5.Event.In && t5.is_) then
    (Y t5).bind fun u10 =>
    match u10 with
    | none =>
     trace_came_1.k1 x3 (trace_came_1.l2 t1 Y e n) true true
    | some q12 =>
     some q12
   else
    trace_came_1.k1 x3 (trace_came_1.l2 t1 Y e n) false false
  else
   e
def trace_came_1.f {ρ : Type} (k : Nat) (a1 : (List trace_seen)) (a2 : Int) (Y : trace_seen → Option (Option ρ)) (e : Option ρ) : Option ρ :=
 (sliceL a1 0 a2).bind fun t1 =>
 trace_came_1.l2 t1 Y e k 0
theorem trace_came_1_calls {ρ : Type} (k : Nat) (b_0 : Nat) (b_1 : Nat) (A00 : SkL Unit) (a1 : (List trace_seen)) (a2 : Int) : Iter (ρ := ρ) Tryz.prog 72 #[.pointer (some ⟨b_0, 0, none⟩), .pointer (some ⟨b_1, 0, none⟩)] [(b_0, .cells #[slcV A00 a1.length] 35 (0, 0)), (b_1, .cells #[.int .i64 a2] 3 (0, 0))] [Row 14 (pl trace_seen.enc) noK A00 a1] (fun x : trace_seen => trace_seen.v x) (trace_came_1.f k a1 a2) := by
 intro Y e r l J Jx Γ h hY w Z hS
 refine callsS (args := [.func (.yield l) #[] #[], .pointer (some ⟨b_0, 0, none⟩), .pointer (some ⟨b_1, 0, none⟩)]) (L := [(0, .func (.yield l) #[] #[]), (1, .pointer (some ⟨b_0, 0, none⟩)), (2, .pointer (some ⟨b_1, 0, none⟩))]) (N := 28) Tryz.func72 hS ?_
 have hM := h
 clear h hS
 unfold trace_came_1.f at hM
 refine WP.seq (WP.region (WL.rn 2 [0, 1] [(6, slcV A00 a1.length), (7, .int .i64 a2)] ?_))
 obtain ⟨t1, h2, hM⟩ := bind_some hM
 refine WL.valF (φ := Row 14 (pl trace_seen.enc) noK A00 a1) (fact_at 0 rfl) (fun w hR => run_sliceRow_hi (A := A00) (xs := a1) (r := t1) (kh := .i64) (h := a2) (e := 42) (m := 14) (by kernel_rfl) (by kernel_rfl) hR.ptr h2 (by kernel_rfl) (by kernel_rfl)) (by kernel_rfl) (by kernel_rfl) rfl ?_
 refine WL.know (Row 14 (pl trace_seen.enc) noK (A00.cut 0 14) t1) [0] [Row 14 (pl trace_seen.enc) noK A00 a1] (by kernel_rfl) (fun w hψ => (hψ _ (List.mem_singleton.2 rfl)).cut h2) ?_
 refine WL.rn 2 [] [(9, .int .i64 (t1.length : Int)), (10, .int .i64 0)] ?_
 refine WP.done (WP.block ?_)
 refine WP.sub [0, 8, 9, 10] (L' := [(0, .func (.yield l) #[] #[]), (8, slcV (A00.cut 0 14) t1.length), (9, .int .i64 (t1.length : Int)), (10, .int .i64 0)]) (by kernel_rfl) ?_
 refine WP.lessF [0, 1] (F' := [Row 14 (pl trace_seen.enc) noK (A00.cut 0 14) t1, Row 14 (pl trace_seen.enc) noK A00 a1]) (by kernel_rfl) ?_
 refine WP.loop (σ := Int) (fun n st => trace_came_1.l2 t1 Y e n st) r (fun st => [(0, .func (.yield l) #[] #[]), (8, slcV (A00.cut 0 14) t1.length), (9, .int .i64 (t1.length : Int)), (10, .int .i64 st)]) (fun st => Sat w Z [(b_0, .cells #[slcV A00 a1.length] 35 (0, 0)), (b_1, .cells #[.int .i64 a2] 3 (0, 0))] [J] ([Row 14 (pl trace_seen.enc) noK (A00.cut 0 14) t1, Row 14 (pl trace_seen.enc) noK A00 a1] ++ Γ)) (st := 0) (fun n st hM => ?_) hM
 rcases n with _ | n
 ·exact nomatch (show (none : Option _) = some r from hM)
 obtain ⟨x3, rfl⟩ : ∃ y, y = st := ⟨st, rfl⟩
 replace hM : trace_came_1.l2 t1 Y e (n + 1) x3 = some r := hM
 rw [trace_came_1.l2] at hM
 try dsimp only
 refine WP.seq (WP.rn [] [(11, .bool (decide (x3 < (t1.length : Int))))] ?_)
 refine WP.seq ?_
 refine WP.cond (decide (x3 < (t1.length : Int))) rfl rfl (fun c4 => ?_) (fun c4 => ?_)
 ·replace hM := cond_t hM c4
  refine WP.skip (WP.seq (WP.block (WP.seq (WP.region ?_))))
  obtain ⟨t5, h6, hM⟩ := bind_some hM
  refine WL.valF (φ := Row 14 (pl trace_seen.enc) noK (A00.cut 0 14) t1) (fact_at 0 rfl) (fun w hR => run_indexRowF (A := (A00.cut 0 14)) (xs := t1) (i := x3) (k := .i64) (e := 42) (m := 14) (by kernel_rfl) (by kernel_rfl) h6 (by kernel_rfl) (by kernel_rfl) hR) (by kernel_rfl) (by kernel_rfl) rfl ?_
  refine WL.valF (φ := Row 14 (pl trace_seen.enc) noK (A00.cut 0 14) t1) (fact_at 0 rfl) (fun w hR => run_loadRowFA (A := (A00.cut 0 14)) (xs := t1) (i := x3) (j := 0) (n := 14) (vs := [.bool t5.Event.In, .int .i64 t5.Event.Gate, .int .i64 t5.Event.Port, .string t5.Event.S, .int .i64 t5.vid, .int .u64 t5.f.Dst, .int .u64 t5.f.Src, .bool t5.f.Tag.Has, .int .i64 t5.f.Tag.Pri, .bool t5.f.Tag.Dei, .int .i64 t5.f.Tag.Vid, .int .i64 t5.f.Type_, .string t5.f.Body, .bool t5.is_]) h6 (fun _ => by kernel_rfl) (by kernel_rfl) (by kernel_rfl) (by kernel_rfl) rfl hR) (by kernel_rfl) (by kernel_rfl) rfl ?_
  refine WL.rh 2 [2, 2, 2, 2, 2, 2, 2, 2, 2, 2, 2, 2, 2, 2] (fun b7 => [(5, .pointer (some ⟨b7, 0, none⟩))]) (fun b7 => []) (fun b7 => [(b7, trace_seen.o t5)]) (fun b7 => ?_)
  refine WP.done (WP.seq ?_)
  refine WP.join (σ := Bool × Bool) (fun st => trace_came_1.k1 x3 (trace_came_1.l2 t1 Y e n) st.1 st.2 = some r) (fun st => [(0, .func (.yield l) #[] #[]), (5, .pointer (some ⟨b7, 0, none⟩)), (8, slcV (A00.cut 0 14) t1.length), (9, .int .i64 (t1.length : Int)), (10, .int .i64 x3), (11, .bool (decide (x3 < (t1.length : Int)))), (12, ptrV (A00.cut 0 14) (Int.toNat x3 * 14)), (13, trace_seen.v t5), (14, .pointer (some ⟨b7, 0, none⟩)), (15, .pointer (some ⟨b7, 0, none⟩)), (16, .bool t5.Event.In), (17, .bool t5.Event.In), (20, .bool st.1), (21, .bool st.2), (26, .bool false)]) (fun st => Sat w Z [(b_0, .cells #[slcV A00 a1.length] 35 (0, 0)), (b_1, .cells #[.int .i64 a2] 3 (0, 0)), (b7, trace_seen.o t5)] [J] ([Row 14 (pl trace_seen.enc) noK (A00.cut 0 14) t1, Row 14 (pl trace_seen.enc) noK A00 a1] ++ Γ)) (fun st hM => ?_) (fun K1 => ?_)
  ·
   obtain ⟨x13, x14⟩ := st
   replace hM : trace_came_1.k1 x3 (trace_came_1.l2 t1 Y e n) x13 x14 = some r := hM
   unfold trace_came_1.k1 at hM
   try dsimp only
   refine WP.no rfl rfl (WP.skip (WP.leave (WP.rn [] [(10, .int .i64 (i64 (x3 + 1))), (27, .int .i64 (i64 (x3 + 1)))] ?_)))
   exact WP.again' [0, 8, 9, 10] (i64 (x3 + 1)) hM (by kernel_rfl) (fun _ h => ((h.pick [0, 1] (by kernel_rfl)).lessF [0, 1] (by kernel_rfl)).pickG [0] [] 1 rfl (by decide) (by kernel_rfl))
  ·
   refine WP.byBool (t5.Event.In && t5.is_) (fun c9 => ?_) (fun c9 => ?_)
   ·replace hM := cond_t hM c9
    refine WP.regionI 13 rfl ?_
    refine WI.pre 0 10 3 _ rfl rfl ?_
    refine WL.rn 4 [2] [(14, .pointer (some ⟨b7, 0, none⟩)), (15, .pointer (some ⟨b7, 0, none⟩)), (16, .bool t5.Event.In), (17, .bool t5.Event.In)] ?_
    refine WL.bo 17 t5.Event.In 3 [2] [] (fun b' => [(20, .bool (b' && t5.is_))]) ?_
    refine WL.rn 1 [] [(21, .bool (t5.Event.In && t5.is_))] ?_
    refine WL.ov 20 c9 ?_
    refine WL.ov 21 c9 ?_
    refine WL.rn 2 [2, 2, 2, 2, 2, 2, 2, 2, 2, 2, 2, 2, 2, 2] [(22, .func (.yield l) #[] #[]), (23, trace_seen.v t5)] ?_
    refine WL.rest ?_
    obtain ⟨u10, h11, hM⟩ := bind_some hM
    refine WI.yield hY t5 h11 rfl (by kernel_rfl) (by kernel_rfl) (fun _ => by kernel_rfl) rfl ?_
    rcases u10 with _ | q12
    ·dsimp only at hM
     refine WI.pre 11 2 0 _ rfl rfl ?_
     refine WL.rn 2 [] [(25, .bool false), (26, .bool false)] ?_
     refine WL.rest ?_
     refine WI.done ?_
     exact WP.sub [0, 5, 8, 9, 10, 11, 12, 13, 14, 15, 16, 17, 20, 21, 26] (by kernel_rfl) (WP.pick [0, 1, 2] (by kernel_rfl) (by kernel_rfl) (WP.pickG [0] [] 1 rfl (by decide) (by kernel_rfl) (WP.lessF [0, 1] (by kernel_rfl) (K1 (true, true) hM))))
    ·dsimp only at hM
     refine WI.pre 11 2 0 _ rfl rfl ?_
     refine WL.rn 2 [] [(25, .bool true), (26, .bool true)] ?_
     refine WL.rest ?_
     refine WI.done ?_
     refine WP.yes rfl rfl ?_
     obtain rfl := Option.some.inj hM
     exact WP.ret [] [] (.tuple #[]) (by kernel_rfl) (fun w' hw => ⟨⟨_, rfl⟩, .inr ((hw.pick [0, 1] (by kernel_rfl)).lessF [1] (by kernel_rfl))⟩)
   ·replace hM := cond_f hM c9
    refine WP.region ?_
    refine WL.rn 4 [2] [(14, .pointer (some ⟨b7, 0, none⟩)), (15, .pointer (some ⟨b7, 0, none⟩)), (16, .bool t5.Event.In), (17, .bool t5.Event.In)] ?_
    refine WL.bo 17 t5.Event.In 3 [2] [] (fun b' => [(20, .bool (b' && t5.is_))]) ?_
    refine WL.rn 1 [] [(21, .bool (t5.Event.In && t5.is_))] ?_
    refine WL.ov 20 c9 ?_
    refine WL.ov 21 c9 ?_
    refine WL.rn 5 [] [(22, .tuple #[]), (23, .tuple #[]), (24, .tuple #[]), (25, .tuple #[]), (26, .bool false)] ?_
    refine WP.done ?_
    exact WP.sub [0, 5, 8, 9, 10, 11, 12, 13, 14, 15, 16, 17, 20, 21, 26] (by kernel_rfl) (WP.pick [0, 1, 2] (by kernel_rfl) (by kernel_rfl) (WP.pickG [0] [] 1 rfl (by decide) (by kernel_rfl) (WP.lessF [0, 1] (by kernel_rfl) (K1 (false, false) hM))))
 ·replace hM := cond_f hM c4
  refine WP.exit rfl ?_
  exact WP.end [] [] (.tuple #[]) (by kernel_rfl) (fun w' hw => ⟨⟨_, rfl⟩, .inl ⟨hM, (hw.pick [0, 1] (by kernel_rfl)).lessF [1] (by kernel_rfl)⟩⟩)
def trace_carried.k1 (x16 : Bool) : Option (Option (Bool)) :=
 bif x16 then
  some (some true)
 else
  some none
def trace_carried.k2 (x9 : trace_seen) (t2 : trace_seen) (x14 : Bool) : Option (Option (Bool)) :=
 bif x14 then
  trace_carried.k1 ((x9.f.Dst == t2.f.Dst) && ((x9.f.Src == t2.f.Src) && (((x9.f.Tag.Has == t2.f.Tag.Has) && ((x9.f.Tag.Pri == t2.f.Tag.Pri) && ((x9.f.Tag.Dei == t2.f.Tag.Dei) && ((x9.f.Tag.Vid == t2.f.Tag.Vid) && true)))) && ((x9.f.Type_ == t2.f.Type_) && ((x9.f.Body == t2.f.Body) && true)))))
 else
  trace_carried.k1 false
def trace_carried.b3 (t2 : trace_seen) (k : Nat) (a0 : (List api_Gate)) (x9 : trace_seen) : Option (Option (Bool)) :=
 bif ((x9.Event.Gate != t2.Event.Gate) || (x9.Event.Port != t2.Event.Port)) then
  (trace_same.f k a0 x9 t2).bind fun r12 =>
  trace_carried.k2 x9 t2 r12
 else
  trace_carried.k2 x9 t2 false
def trace_carried.f (k : Nat) (a0 : (List api_Gate)) (a1 : (List trace_seen)) (a2 : Int) : Option (Bool) :=
 (getL a1.length a1 a2).bind fun t2 =>
 (trace_came.f a1 a2).bind fun (r5, r6) =>
 trace_came_1.f k r5 r6 (trace_carried.b3 t2 k a0) (
  some false)
theorem trace_carried_calls (k : Nat) (A00 : SkL ((SkL (SkL Unit)) × (SkL Unit) × (SkL (SkL Unit)) × (SkL Unit))) (A01 : SkL Unit) (a0 : (List api_Gate)) (a1 : (List trace_seen)) (a2 : Int) (r : Bool) (h : trace_carried.f k a0 a1 a2 = some r) : Pure Tryz.prog ([Row 21 api_Gate.encS api_Gate.inK A00 a0, Row 14 (pl trace_seen.enc) noK A01 a1] ++ Glob) 16 #[slcV A00 a0.length, slcV A01 a1.length, .int .i64 a2] (.bool r) := by
 intro w Z hS
 refine callsS (args := [slcV A00 a0.length, slcV A01 a1.length, .int .i64 a2]) (L := [(0, slcV A00 a0.length), (1, slcV A01 a1.length), (2, .int .i64 a2)]) (N := 46) Tryz.func16 hS ?_
 have hM := h
 clear h hS
 unfold trace_carried.f at hM
 refine WP.seq ?_
 refine WP.rh [] (fun b1 => [(3, .pointer (some ⟨b1, 0, none⟩)), (6, .pointer (some ⟨(b1 + 1), 0, none⟩))]) (fun b1 => []) (fun b1 => [(b1, .cells #[slcV A00 a0.length] 22 (0, 0)), ((b1 + 1), .cells #[.bool false] 4 (0, 0))]) (fun b1 => ?_)
 refine WP.seq (WP.region (WL.rn 2 [] [(9, slcV A01 a1.length), (10, .int .i64 a2)] ?_))
 obtain ⟨t2, h3, hM⟩ := bind_some hM
 refine WL.valF (φ := Row 14 (pl trace_seen.enc) noK A01 a1) (fact_at 1 rfl) (fun w hR => run_indexRowF (A := A01) (xs := a1) (i := a2) (k := .i64) (e := 42) (m := 14) (by kernel_rfl) (by kernel_rfl) h3 (by kernel_rfl) (by kernel_rfl) hR) (by kernel_rfl) (by kernel_rfl) rfl ?_
 refine WL.valF (φ := Row 14 (pl trace_seen.enc) noK A01 a1) (fact_at 1 rfl) (fun w hR => run_loadRowFA (A := A01) (xs := a1) (i := a2) (j := 0) (n := 14) (vs := [.bool t2.Event.In, .int .i64 t2.Event.Gate, .int .i64 t2.Event.Port, .string t2.Event.S, .int .i64 t2.vid, .int .u64 t2.f.Dst, .int .u64 t2.f.Src, .bool t2.f.Tag.Has, .int .i64 t2.f.Tag.Pri, .bool t2.f.Tag.Dei, .int .i64 t2.f.Tag.Vid, .int .i64 t2.f.Type_, .string t2.f.Body, .bool t2.is_]) h3 (fun _ => by kernel_rfl) (by kernel_rfl) (by kernel_rfl) (by kernel_rfl) rfl hR) (by kernel_rfl) (by kernel_rfl) rfl ?_
 refine WL.rh 2 [2, 2, 2, 2, 2, 2, 2, 2, 2, 2, 2, 2, 2, 2] (fun b4 => [(7, .pointer (some ⟨b4, 0, none⟩))]) (fun b4 => []) (fun b4 => [(b4, trace_seen.o t2)]) (fun b4 => ?_)
 refine WP.done (WP.seq (WP.seq (WP.region (WL.rn 2 [] [(13, slcV A01 a1.length), (14, .int .i64 a2)] ?_))))
 obtain ⟨⟨r5, r6⟩, h7, hM⟩ := bind_some hM
 dsimp only at hM
 refine WL.callX (F0 := [Row 14 (pl trace_seen.enc) noK A01 a1]) [] [] [false, false, false] (fun _ => _) [1] (by kernel_rfl) (trace_came_calls A01 a1 a2 _ h7) rfl rfl (by kernel_rfl) (by kernel_rfl) (fun _ => rfl) (fun A8 => ?_)
 refine WP.done (WP.block ?_)
 refine WP.rangeFunc (Hi := [(A8.1, .cells #[slcV A8.2.1 r5.length] 35 (0, 0)), (A8.2.2, .cells #[.int .i64 r6] 3 (0, 0))]) (Hr := [(b1, .cells #[slcV A00 a0.length] 22 (0, 0)), ((b1 + 1), .cells #[.bool false] 4 (0, 0)), (b4, trace_seen.o t2)]) (trace_came_1_calls k A8.1 A8.2.2 A8.2.1 r5 r6) _ _ r hM (by kernel_rfl) [0] (by kernel_rfl) rfl rfl (entersE Tryz.func72 rfl rfl) rfl (fun q => [(b1, .cells #[slcV A00 a0.length] 22 (0, 0)), ((b1 + 1), .cells #[.bool q] 4 (0, 0)), (b4, trace_seen.o t2)]) ?_ ?_ ?_
 ·
  intro l K1 K2 hbg x9 r hM w Z
  replace hM : trace_carried.b3 t2 k a0 x9 = some r := hM
  unfold trace_carried.b3 at hM
  refine WP.rh [3, 3, 3, 3, 3, 3, 3, 3, 3, 3, 3, 3, 3, 3] (fun b10 => [(8, .pointer (some ⟨b10, 0, none⟩))]) (fun b10 => []) (fun b10 => [(b10, trace_seen.o x9)]) (fun b10 => ?_)
  refine WP.begin hbg ?_
  refine WP.block (WP.seq (WP.region (WL.rn 8 [3, 2] [(24, .bool (x9.Event.Gate != t2.Event.Gate))] ?_)))
  refine WL.bo 24 (x9.Event.Gate != t2.Event.Gate) 8 [] [3, 2] (fun b' => [(32, .bool (b' || (x9.Event.Port != t2.Event.Port)))]) ?_
  refine WL.rn 1 [] [(33, .bool ((x9.Event.Gate != t2.Event.Gate) || (x9.Event.Port != t2.Event.Port)))] ?_
  refine WL.join (σ := Bool) 5 (fun st => trace_carried.k2 x9 t2 st = some r) (fun st => [(6, .pointer (some ⟨(b1 + 1), 0, none⟩)), (7, .pointer (some ⟨b4, 0, none⟩)), (8, .pointer (some ⟨b10, 0, none⟩)), (38, .bool st)]) (fun st => Sat w Z [(b1, .cells #[slcV A00 a0.length] 22 (0, 0)), ((b1 + 1), .cells #[.bool false] 4 (0, 0)), (b4, trace_seen.o t2), (b10, trace_seen.o x9)] [K2] ([Row 14 (pl trace_seen.enc) noK A8.2.1 r5, Row 21 api_Gate.encS api_Gate.inK A00 a0, Row 14 (pl trace_seen.enc) noK A01 a1] ++ Glob)) (fun st hM => ?_) (fun K2 => ?_)
  ·
   obtain ⟨x14, rfl⟩ : ∃ y, y = st := ⟨st, rfl⟩
   replace hM : trace_carried.k2 x9 t2 x14 = some r := hM
   unfold trace_carried.k2 at hM
   try dsimp only
   refine WL.rn 1 [] [(39, .bool x14)] ?_
   refine WL.join (σ := Bool) 6 (fun st => trace_carried.k1 st = some r) (fun st => [(6, .pointer (some ⟨(b1 + 1), 0, none⟩)), (45, .bool st)]) (fun st => Sat w Z [(b1, .cells #[slcV A00 a0.length] 22 (0, 0)), ((b1 + 1), .cells #[.bool false] 4 (0, 0)), (b4, trace_seen.o t2)] [K2] ([Row 14 (pl trace_seen.enc) noK A8.2.1 r5, Row 21 api_Gate.encS api_Gate.inK A00 a0, Row 14 (pl trace_seen.enc) noK A01 a1] ++ Glob)) (fun st hM => ?_) (fun K1 => ?_)
   ·
    obtain ⟨x16, rfl⟩ : ∃ y, y = st := ⟨st, rfl⟩
    replace hM : trace_carried.k1 x16 = some r := hM
    unfold trace_carried.k1 at hM
    try dsimp only
    refine WP.done ?_
    refine WP.cond x16 rfl rfl (fun c17 => ?_) (fun c17 => ?_)
    ·replace hM := cond_t hM c17
     refine WP.seq ?_
     refine WP.rh [1] (fun _ => []) (fun _ => [(1, 0, [.bool true])]) (fun _ => []) (fun _ => ?_)
     obtain rfl := Option.some.inj hM
     exact WP.roundRet (fun w' hw => ⟨_, rfl, (hw.pick [0, 1, 2] (by kernel_rfl)).lessF [0, 1, 2] (by kernel_rfl)⟩)
    ·replace hM := cond_f hM c17
     refine WP.skip (WP.leave ?_)
     obtain rfl := Option.some.inj hM
     exact WP.roundEnd (fun w' hw => ⟨rfl, (hw.pick [0, 1, 2] (by kernel_rfl)).lessF [0, 1, 2] (by kernel_rfl)⟩)
   ·
    refine WL.sp 39 x14 (fun c15 => ?_) (fun c15 => ?_)
    ·replace hM := cond_t hM c15
     refine WL.rn 4 [3, 3, 3, 3, 3, 3, 3, 3, 2, 2, 2, 2, 2, 2, 2, 2] [(41, api_Frame.v x9.f), (43, api_Frame.v t2.f)] ?_
     refine WL.val (fun _ => run_structEq (xs := #[.int .u64 x9.f.Dst, .int .u64 x9.f.Src, .bool x9.f.Tag.Has, .int .i64 x9.f.Tag.Pri, .bool x9.f.Tag.Dei, .int .i64 x9.f.Tag.Vid, .int .i64 x9.f.Type_, .string x9.f.Body]) (ys := #[.int .u64 t2.f.Dst, .int .u64 t2.f.Src, .bool t2.f.Tag.Has, .int .i64 t2.f.Tag.Pri, .bool t2.f.Tag.Dei, .int .i64 t2.f.Tag.Vid, .int .i64 t2.f.Type_, .string t2.f.Body]) (b := ((x9.f.Dst == t2.f.Dst) && ((x9.f.Src == t2.f.Src) && (((x9.f.Tag.Has == t2.f.Tag.Has) && ((x9.f.Tag.Pri == t2.f.Tag.Pri) && ((x9.f.Tag.Dei == t2.f.Tag.Dei) && ((x9.f.Tag.Vid == t2.f.Tag.Vid) && true)))) && ((x9.f.Type_ == t2.f.Type_) && ((x9.f.Body == t2.f.Body) && true)))))) (by kernel_rfl) (by kernel_rfl) (by kernel_rfl) (by kernel_rfl)) (by kernel_rfl) (by kernel_rfl) rfl ?_
     refine WL.rn 1 [] [(45, .bool ((x9.f.Dst == t2.f.Dst) && ((x9.f.Src == t2.f.Src) && (((x9.f.Tag.Has == t2.f.Tag.Has) && ((x9.f.Tag.Pri == t2.f.Tag.Pri) && ((x9.f.Tag.Dei == t2.f.Tag.Dei) && ((x9.f.Tag.Vid == t2.f.Tag.Vid) && true)))) && ((x9.f.Type_ == t2.f.Type_) && ((x9.f.Body == t2.f.Body) && true))))))] ?_
     exact WL.sub [6, 45] (by kernel_rfl) (WL.pick [0, 1, 2] (by kernel_rfl) (by kernel_rfl) (WL.pickG [0] [] 1 rfl (by decide) (by kernel_rfl) (WL.lessF [0, 1, 2] (by kernel_rfl) (K1 ((x9.f.Dst == t2.f.Dst) && ((x9.f.Src == t2.f.Src) && (((x9.f.Tag.Has == t2.f.Tag.Has) && ((x9.f.Tag.Pri == t2.f.Tag.Pri) && ((x9.f.Tag.Dei == t2.f.Tag.Dei) && ((x9.f.Tag.Vid == t2.f.Tag.Vid) && true)))) && ((x9.f.Type_ == t2.f.Type_) && ((x9.f.Body == t2.f.Body) && true))))) hM))))
    ·replace hM := cond_f hM c15
     refine WL.rn 6 [] [(45, .bool false)] ?_
     exact WL.sub [6, 45] (by kernel_rfl) (WL.pick [0, 1, 2] (by kernel_rfl) (by kernel_rfl) (WL.pickG [0] [] 1 rfl (by decide) (by kernel_rfl) (WL.lessF [0, 1, 2] (by kernel_rfl) (K1 false hM))))
  ·
   refine WL.sp 33 ((x9.Event.Gate != t2.Event.Gate) || (x9.Event.Port != t2.Event.Port)) (fun c11 => ?_) (fun c11 => ?_)
   ·replace hM := cond_t hM c11
    refine WL.rn 3 [0, 3, 3, 3, 3, 3, 3, 3, 3, 3, 3, 3, 3, 3, 3, 2, 2, 2, 2, 2, 2, 2, 2, 2, 2, 2, 2, 2, 2] [(34, slcV A00 a0.length), (35, trace_seen.v x9), (36, trace_seen.v t2)] ?_
    obtain ⟨r12, h13, hM⟩ := bind_some hM
    refine WL.callP [] [] (trace_same_calls k A00 a0 x9 t2 _ h13) (sub_pick [1] (by kernel_rfl)) (by kernel_rfl) (by kernel_rfl) rfl ?_
    refine WL.rn 1 [] [(38, .bool r12)] ?_
    exact WL.sub [6, 7, 8, 38] (by kernel_rfl) (WL.pick [0, 1, 2, 3] (by kernel_rfl) (by kernel_rfl) (WL.pickG [0] [] 1 rfl (by decide) (by kernel_rfl) (WL.lessF [0, 1, 2] (by kernel_rfl) (K2 r12 hM))))
   ·replace hM := cond_f hM c11
    refine WL.rn 5 [] [(38, .bool false)] ?_
    exact WL.sub [6, 7, 8, 38] (by kernel_rfl) (WL.pick [0, 1, 2, 3] (by kernel_rfl) (by kernel_rfl) (WL.pickG [0] [] 1 rfl (by decide) (by kernel_rfl) (WL.lessF [0, 1, 2] (by kernel_rfl) (K2 false hM))))
 ·
  intro hM D18
  refine WP.markBlock ?_
  refine WP.markCode ?_
  refine WP.seq (WP.rn [3] [] ?_)
  refine WP.kp [false, false, false, true, false, true] ?_
  obtain rfl := Option.some.inj hM
  exact WP.retM 1 [0] [(b1 + 1)] (.bool false) (by kernel_rfl) rfl (by kernel_rfl) (fun w' hw => ⟨rfl, (hw.pick [] rfl).lessF [1, 2] (by kernel_rfl)⟩)
 ·
  intro D19
  exact WP.retM 5 [3] [(b1 + 1)] (.bool r) (by kernel_rfl) rfl (by kernel_rfl) (fun w' hw => ⟨rfl, (hw.pick [] rfl).lessF [1, 2] (by kernel_rfl)⟩)
end Go.Proofs.YtbbekdmndifkpaaGreatDoor
