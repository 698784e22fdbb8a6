/- The walks of the functions that the laws reach: each shows that a call returns what its plain model says, wherever the model gives an answer. -/
import Derived.Test.YtbbekdmndifkpaaGreatDoorF1
import Derived.Test.YtbbekdmndifkpaaGreatDoorF2

namespace Go.Proofs.YtbbekdmndifkpaaGreatDoor
set_option maxRecDepth 100000
set_option linter.unusedVariables false
set_option linter.unusedSimpArgs false
open Go Eng
def api_PortCfg_1.f (a0 : (List api_PortCfg)) : Option (List api_PortCfg) := (roomL 40 a0.length).bind fun _ => some a0
theorem api_PortCfg_1_calls (A00 : SkL (SkL Unit)) (a0 : (List api_PortCfg)) (r : (List api_PortCfg)) (h : api_PortCfg_1.f a0 = some r) : DoesG Tryz.prog 86 #[slcV A00 a0.length] [] [] ([Row 3 api_PortCfg.encS api_PortCfg.inK A00 a0] ++ Glob) (fun x : SkL (SkL Unit) => slcV x r.length) (fun _ => []) (fun x => [OwnR 3 84 api_PortCfg.encS x r]) (fun x => [GIn api_PortCfg.inK x r] ++ ([Row 3 api_PortCfg.encS api_PortCfg.inK A00 a0] ++ Glob)) := by
 intro w Z hS
 refine calls_of (args := [slcV A00 a0.length]) (L := [(0, slcV A00 a0.length)]) (N := 8) (S := Sat w Z [] [] ([Row 3 api_PortCfg.encS api_PortCfg.inK A00 a0] ++ Glob)) Tryz.func86 rfl rfl (Nat.le_of_ble_eq_true rfl) rfl hS ?_
 have hM := h
 clear h hS
 unfold api_PortCfg_1.f at hM
 refine WP.fact (Row 3 api_PortCfg.encS api_PortCfg.inK A00 a0) (fact_at 0 rfl) (fun w hw => hw.nil) (fun hn => ?_)
 obtain ⟨a, c, s, z⟩ := A00
 cases a with
 | none =>
  obtain ⟨h1, h2⟩ := hn rfl
  dsimp only at h1 h2
  subst h1; subst h2
  cases z with
  | none =>
   obtain ⟨u0, hu0, hM⟩ := bind_some hM
   obtain rfl := Option.some.inj hM
   show WP _ _ _ _ _ [(0, .slice none 0 0)] (Sat _ _ _ _ ([Row 3 api_PortCfg.encS api_PortCfg.inK (⟨none, 0, s, none⟩ : SkL (SkL Unit)) ([] : List api_PortCfg)] ++ Glob))
   refine WP.seq (WP.rn [] [(2, .slice none 0 0)] ?_)
   refine WP.seq (WP.seq (WP.rn [] [(4, .bool true)] ?_))
   refine WP.yes rfl rfl (WP.seq (WP.rn [] [(2, .slice none 0 0)] ?_))
   refine WP.growNil 3 84 api_PortCfg.encS api_PortCfg.inK (fun _ => (SkL.nil (fun _ => ()))) ?_
   exact WP.ret [] [] (slcV (SkL.nil (fun _ => (SkL.nil (fun _ => ())))) ([] : List api_PortCfg).length) (by kernel_rfl) (fun w' hw => ⟨(SkL.nil (fun _ => (SkL.nil (fun _ => ())))), rfl, (hw.pick [] (by kernel_rfl)).less (sub_ret [0] [1] (by kernel_rfl) (by kernel_rfl))⟩)
  | some ad =>
   refine WP.seq (WP.rn [] [(2, .slice none 0 0)] ?_)
   refine WP.seq (WP.seq (WP.rn [] [(4, .bool false)] ?_))
   refine WP.no rfl rfl (WP.skip (WP.seq (WP.region ?_)))
   refine WL.rh 2 [] (fun b1 => [(5, .slice (some ⟨b1, 0, none⟩) 0 0), (6, slcV (⟨none, 0, s, some ad⟩ : SkL (SkL Unit)) ([] : List api_PortCfg).length)]) (fun b1 => []) (fun b1 => [(b1, .cells #[] 84 (0, 0))]) (fun b1 => ?_)
   refine WL.growLit (H' := []) (m := 3) (e := 84) (f := api_PortCfg.encS) api_PortCfg.inK 0 (b := b1) (cs := #[]) (skF [] (SkL.nil (fun _ => ()))) ([] : List api_PortCfg) (by kernel_rfl) (fun _ _ => rfl) (by kernel_rfl) (by decide) [] [] (by kernel_rfl) (fun w hψ => trivial) (by kernel_rfl) ?_
   obtain ⟨u3, h2, hM⟩ := bind_some hM
   refine WL.growApp (G' := []) (A := (SkL.at b1 0 (skF [] (SkL.nil (fun _ => ()))))) (B := (⟨none, 0, s, some ad⟩ : SkL (SkL Unit))) (xs := ([] : List api_PortCfg)) (ys := ([] : List api_PortCfg)) (m := 3) (by_ := 40) (e := 84) (z := .agg #[.bool false, .int .i64 0, .slice none 0 0]) (f := api_PortCfg.encS) (K := api_PortCfg.inK) (d := 7) 0 rfl rfl (by kernel_rfl) (by kernel_rfl) (by kernel_rfl) (by kernel_rfl) (by kernel_rfl) (fun _ _ => rfl) (fun _ _ => rfl) (by kernel_rfl) (by kernel_rfl) (by kernel_rfl) (by kernel_rfl) (by kernel_rfl) (fact_at 0 rfl) (fact_at 1 rfl) h2 (by kernel_rfl) (fun A4 => ?_)
   refine WL.less (Φ' := ([GIn api_PortCfg.inK A4 ([] : List api_PortCfg), GIn api_PortCfg.inK (SkL.at b1 0 (skF [] (SkL.nil (fun _ => ())))) ([] : List api_PortCfg), Row 3 api_PortCfg.encS api_PortCfg.inK (⟨none, 0, s, some ad⟩ : SkL (SkL Unit)) ([] : List api_PortCfg)] ++ Glob)) (fun _ h => h) ?_
   refine WL.rn 1 [] [(2, slcV A4 ([] : List api_PortCfg).length)] ?_
   refine WP.done ?_
   obtain rfl := Option.some.inj hM
   exact WP.ret [] [] (slcV A4 ([] : List api_PortCfg).length) (by kernel_rfl) (fun w' hw => ⟨A4, rfl, (hw.pick [] (by kernel_rfl)).less (sub_ret [0] [2] (by kernel_rfl) (by kernel_rfl))⟩)
 | some p =>
  obtain ⟨b, o⟩ := p
  refine WP.seq (WP.rn [] [(2, .slice none 0 0)] ?_)
  refine WP.seq (WP.seq (WP.rn [] [(4, .bool false)] ?_))
  refine WP.no rfl rfl (WP.skip (WP.seq (WP.region ?_)))
  refine WL.rh 2 [] (fun b1 => [(5, .slice (some ⟨b1, 0, none⟩) 0 0), (6, slcV (⟨some (b, o), c, s, z⟩ : SkL (SkL Unit)) a0.length)]) (fun b1 => []) (fun b1 => [(b1, .cells #[] 84 (0, 0))]) (fun b1 => ?_)
  refine WL.growLit (H' := []) (m := 3) (e := 84) (f := api_PortCfg.encS) api_PortCfg.inK 0 (b := b1) (cs := #[]) (skF [] (SkL.nil (fun _ => ()))) ([] : List api_PortCfg) (by kernel_rfl) (fun _ _ => rfl) (by kernel_rfl) (by decide) [] [] (by kernel_rfl) (fun w hψ => trivial) (by kernel_rfl) ?_
  obtain ⟨u3, h2, hM⟩ := bind_some hM
  refine WL.growApp (G' := []) (A := (SkL.at b1 0 (skF [] (SkL.nil (fun _ => ()))))) (B := (⟨some (b, o), c, s, z⟩ : SkL (SkL Unit))) (xs := ([] : List api_PortCfg)) (ys := a0) (m := 3) (by_ := 40) (e := 84) (z := .agg #[.bool false, .int .i64 0, .slice none 0 0]) (f := api_PortCfg.encS) (K := api_PortCfg.inK) (d := 7) 0 rfl rfl (by kernel_rfl) (by kernel_rfl) (by kernel_rfl) (by kernel_rfl) (by kernel_rfl) (fun _ _ => rfl) (fun _ _ => rfl) (by kernel_rfl) (by kernel_rfl) (by kernel_rfl) (by kernel_rfl) (by kernel_rfl) (fact_at 0 rfl) (fact_at 1 rfl) h2 (by kernel_rfl) (fun A4 => ?_)
  refine WL.less (Φ' := ([GIn api_PortCfg.inK A4 a0, GIn api_PortCfg.inK (SkL.at b1 0 (skF [] (SkL.nil (fun _ => ())))) ([] : List api_PortCfg), Row 3 api_PortCfg.encS api_PortCfg.inK (⟨some (b, o), c, s, z⟩ : SkL (SkL Unit)) a0] ++ Glob)) (fun _ h => h) ?_
  refine WL.rn 1 [] [(2, slcV A4 a0.length)] ?_
  refine WP.done ?_
  obtain rfl := Option.some.inj hM
  exact WP.ret [] [] (slcV A4 a0.length) (by kernel_rfl) (fun w' hw => ⟨A4, rfl, (hw.pick [] (by kernel_rfl)).less (sub_ret [0] [2] (by kernel_rfl) (by kernel_rfl))⟩)
def api_Route.f (a0 : (List api_Route)) : Option (List api_Route) := (roomL 24 a0.length).bind fun _ => some a0
theorem api_Route_calls (A00 : SkL Unit) (a0 : (List api_Route)) (r : (List api_Route)) (h : api_Route.f a0 = some r) : Does Tryz.prog 89 #[slcV A00 a0.length] [] ([Row 3 (pl api_Route.enc) noK A00 a0] ++ Glob) (fun x : SkL Unit => slcV x r.length) (fun _ => []) (fun _ => []) (fun x => [Row 3 (pl api_Route.enc) noK x r] ++ ([Row 3 (pl api_Route.enc) noK A00 a0] ++ Glob)) := by
 intro w Z hS
 refine calls_of (args := [slcV A00 a0.length]) (L := [(0, slcV A00 a0.length)]) (N := 8) (S := Sat w Z [] [] ([Row 3 (pl api_Route.enc) noK A00 a0] ++ Glob)) Tryz.func89 rfl rfl (Nat.le_of_ble_eq_true rfl) rfl hS ?_
 have hM := h
 clear h hS
 unfold api_Route.f at hM
 refine WP.fact (Row 3 (pl api_Route.enc) noK A00 a0) (fact_at 0 rfl) (fun w hw => hw.nil) (fun hn => ?_)
 obtain ⟨a, c, s, z⟩ := A00
 cases a with
 | none =>
  obtain ⟨h1, h2⟩ := hn rfl
  dsimp only at h1 h2
  subst h1; subst h2
  cases z with
  | none =>
   obtain ⟨u0, hu0, hM⟩ := bind_some hM
   obtain rfl := Option.some.inj hM
   show WP _ _ _ _ _ [(0, .slice none 0 0)] (Sat _ _ _ _ ([Row 3 (pl api_Route.enc) noK (⟨none, 0, s, none⟩ : SkL Unit) ([] : List api_Route)] ++ Glob))
   refine WP.seq (WP.rn [] [(2, .slice none 0 0)] ?_)
   refine WP.seq (WP.seq (WP.rn [] [(4, .bool true)] ?_))
   refine WP.yes rfl rfl (WP.seq (WP.rn [] [(2, .slice none 0 0)] ?_))
   refine WP.know (Row 3 (pl api_Route.enc) noK (SkL.nil (fun _ => ())) ([] : List api_Route)) [] [] (by kernel_rfl) (fun w _ => RowP.empty (fun _ => rfl)) ?_
   exact WP.ret [] [] (slcV (SkL.nil (fun _ => ())) ([] : List api_Route).length) (by kernel_rfl) (fun w' hw => ⟨(SkL.nil (fun _ => ())), rfl, (hw.pick [] (by kernel_rfl)).less (sub_ret [0] [1] (by kernel_rfl) (by kernel_rfl))⟩)
  | some ad =>
   refine WP.seq (WP.rn [] [(2, .slice none 0 0)] ?_)
   refine WP.seq (WP.seq (WP.rn [] [(4, .bool false)] ?_))
   refine WP.no rfl rfl (WP.skip (WP.seq (WP.region ?_)))
   refine WL.rh 2 [] (fun b1 => [(5, .slice (some ⟨b1, 0, none⟩) 0 0), (6, slcV (⟨none, 0, s, some ad⟩ : SkL Unit) ([] : List api_Route).length)]) (fun b1 => []) (fun b1 => [(b1, .cells #[] 162 (0, 0))]) (fun b1 => ?_)
   obtain ⟨u3, h2, hM⟩ := bind_some hM
   refine WL.appendCopy (A := (SkL.at b1 0 (fun _ => ()))) (B := (⟨none, 0, s, some ad⟩ : SkL Unit)) (ys := ([] : List api_Route)) (n := 0) (m := 3) (by_ := 24) (e := 162) (z := .agg #[.int .u32 0, .int .i64 0, .int .u32 0]) (f := (pl api_Route.enc)) (K := noK) (d := 7) rfl rfl (by kernel_rfl) (by kernel_rfl) (by kernel_rfl) (fun _ _ => rfl) (by kernel_rfl) (by kernel_rfl) rfl rfl (by kernel_rfl) (fact_at 0 rfl) h2 (by kernel_rfl) (fun A4 => ?_)
   refine WL.less (Φ' := ([Row 3 (pl api_Route.enc) noK A4 ([] : List api_Route), Row 3 (pl api_Route.enc) noK (⟨none, 0, s, some ad⟩ : SkL Unit) ([] : List api_Route)] ++ Glob)) (fun _ h => h) ?_
   refine WL.rn 1 [] [(2, slcV A4 ([] : List api_Route).length)] ?_
   refine WP.done (WP.kp [false] ?_)
   obtain rfl := Option.some.inj hM
   exact WP.ret [] [] (slcV A4 ([] : List api_Route).length) (by kernel_rfl) (fun w' hw => ⟨A4, rfl, (hw.pick [] (by kernel_rfl)).less (sub_ret [0] [1] (by kernel_rfl) (by kernel_rfl))⟩)
 | some p =>
  obtain ⟨b, o⟩ := p
  refine WP.seq (WP.rn [] [(2, .slice none 0 0)] ?_)
  refine WP.seq (WP.seq (WP.rn [] [(4, .bool false)] ?_))
  refine WP.no rfl rfl (WP.skip (WP.seq (WP.region ?_)))
  refine WL.rh 2 [] (fun b1 => [(5, .slice (some ⟨b1, 0, none⟩) 0 0), (6, slcV (⟨some (b, o), c, s, z⟩ : SkL Unit) a0.length)]) (fun b1 => []) (fun b1 => [(b1, .cells #[] 162 (0, 0))]) (fun b1 => ?_)
  obtain ⟨u3, h2, hM⟩ := bind_some hM
  refine WL.appendCopy (A := (SkL.at b1 0 (fun _ => ()))) (B := (⟨some (b, o), c, s, z⟩ : SkL Unit)) (ys := a0) (n := 0) (m := 3) (by_ := 24) (e := 162) (z := .agg #[.int .u32 0, .int .i64 0, .int .u32 0]) (f := (pl api_Route.enc)) (K := noK) (d := 7) rfl rfl (by kernel_rfl) (by kernel_rfl) (by kernel_rfl) (fun _ _ => rfl) (by kernel_rfl) (by kernel_rfl) rfl rfl (by kernel_rfl) (fact_at 0 rfl) h2 (by kernel_rfl) (fun A4 => ?_)
  refine WL.less (Φ' := ([Row 3 (pl api_Route.enc) noK A4 a0, Row 3 (pl api_Route.enc) noK (⟨some (b, o), c, s, z⟩ : SkL Unit) a0] ++ Glob)) (fun _ h => h) ?_
  refine WL.rn 1 [] [(2, slcV A4 a0.length)] ?_
  refine WP.done (WP.kp [false] ?_)
  obtain rfl := Option.some.inj hM
  exact WP.ret [] [] (slcV A4 a0.length) (by kernel_rfl) (fun w' hw => ⟨A4, rfl, (hw.pick [] (by kernel_rfl)).less (sub_ret [0] [1] (by kernel_rfl) (by kernel_rfl))⟩)
def api_Seg_1.f (a0 : (List api_Seg)) : Option (List api_Seg) := (roomL 40 a0.length).bind fun _ => some a0
theorem api_Seg_1_calls (A00 : SkL (SkL Unit)) (a0 : (List api_Seg)) (r : (List api_Seg)) (h : api_Seg_1.f a0 = some r) : DoesG Tryz.prog 90 #[slcV A00 a0.length] [] [] ([Row 3 api_Seg.encS api_Seg.inK A00 a0] ++ Glob) (fun x : SkL (SkL Unit) => slcV x r.length) (fun _ => []) (fun x => [OwnR 3 93 api_Seg.encS x r]) (fun x => [GIn api_Seg.inK x r] ++ ([Row 3 api_Seg.encS api_Seg.inK A00 a0] ++ Glob)) := by
 intro w Z hS
 refine calls_of (args := [slcV A00 a0.length]) (L := [(0, slcV A00 a0.length)]) (N := 8) (S := Sat w Z [] [] ([Row 3 api_Seg.encS api_Seg.inK A00 a0] ++ Glob)) Tryz.func90 rfl rfl (Nat.le_of_ble_eq_true rfl) rfl hS ?_
 have hM := h
 clear h hS
 unfold api_Seg_1.f at hM
 refine WP.fact (Row 3 api_Seg.encS api_Seg.inK A00 a0) (fact_at 0 rfl) (fun w hw => hw.nil) (fun hn => ?_)
 obtain ⟨a, c, s, z⟩ := A00
 cases a with
 | none =>
  obtain ⟨h1, h2⟩ := hn rfl
  dsimp only at h1 h2
  subst h1; subst h2
  cases z with
  | none =>
   obtain ⟨u0, hu0, hM⟩ := bind_some hM
   obtain rfl := Option.some.inj hM
   show WP _ _ _ _ _ [(0, .slice none 0 0)] (Sat _ _ _ _ ([Row 3 api_Seg.encS api_Seg.inK (⟨none, 0, s, none⟩ : SkL (SkL Unit)) ([] : List api_Seg)] ++ Glob))
   refine WP.seq (WP.rn [] [(2, .slice none 0 0)] ?_)
   refine WP.seq (WP.seq (WP.rn [] [(4, .bool true)] ?_))
   refine WP.yes rfl rfl (WP.seq (WP.rn [] [(2, .slice none 0 0)] ?_))
   refine WP.growNil 3 93 api_Seg.encS api_Seg.inK (fun _ => (SkL.nil (fun _ => ()))) ?_
   exact WP.ret [] [] (slcV (SkL.nil (fun _ => (SkL.nil (fun _ => ())))) ([] : List api_Seg).length) (by kernel_rfl) (fun w' hw => ⟨(SkL.nil (fun _ => (SkL.nil (fun _ => ())))), rfl, (hw.pick [] (by kernel_rfl)).less (sub_ret [0] [1] (by kernel_rfl) (by kernel_rfl))⟩)
  | some ad =>
   refine WP.seq (WP.rn [] [(2, .slice none 0 0)] ?_)
   refine WP.seq (WP.seq (WP.rn [] [(4, .bool false)] ?_))
   refine WP.no rfl rfl (WP.skip (WP.seq (WP.region ?_)))
   refine WL.rh 2 [] (fun b1 => [(5, .slice (some ⟨b1, 0, none⟩) 0 0), (6, slcV (⟨none, 0, s, some ad⟩ : SkL (SkL Unit)) ([] : List api_Seg).length)]) (fun b1 => []) (fun b1 => [(b1, .cells #[] 93 (0, 0))]) (fun b1 => ?_)
   refine WL.growLit (H' := []) (m := 3) (e := 93) (f := api_Seg.encS) api_Seg.inK 0 (b := b1) (cs := #[]) (skF [] (SkL.nil (fun _ => ()))) ([] : List api_Seg) (by kernel_rfl) (fun _ _ => rfl) (by kernel_rfl) (by decide) [] [] (by kernel_rfl) (fun w hψ => trivial) (by kernel_rfl) ?_
   obtain ⟨u3, h2, hM⟩ := bind_some hM
   refine WL.growApp (G' := []) (A := (SkL.at b1 0 (skF [] (SkL.nil (fun _ => ()))))) (B := (⟨none, 0, s, some ad⟩ : SkL (SkL Unit))) (xs := ([] : List api_Seg)) (ys := ([] : List api_Seg)) (m := 3) (by_ := 40) (e := 93) (z := .agg #[.int .i64 0, .int .i64 0, .slice none 0 0]) (f := api_Seg.encS) (K := api_Seg.inK) (d := 7) 0 rfl rfl (by kernel_rfl) (by kernel_rfl) (by kernel_rfl) (by kernel_rfl) (by kernel_rfl) (fun _ _ => rfl) (fun _ _ => rfl) (by kernel_rfl) (by kernel_rfl) (by kernel_rfl) (by kernel_rfl) (by kernel_rfl) (fact_at 0 rfl) (fact_at 1 rfl) h2 (by kernel_rfl) (fun A4 => ?_)
   refine WL.less (Φ' := ([GIn api_Seg.inK A4 ([] : List api_Seg), GIn api_Seg.inK (SkL.at b1 0 (skF [] (SkL.nil (fun _ => ())))) ([] : List api_Seg), Row 3 api_Seg.encS api_Seg.inK (⟨none, 0, s, some ad⟩ : SkL (SkL Unit)) ([] : List api_Seg)] ++ Glob)) (fun _ h => h) ?_
   refine WL.rn 1 [] [(2, slcV A4 ([] : List api_Seg).length)] ?_
   refine WP.done ?_
   obtain rfl := Option.some.inj hM
   exact WP.ret [] [] (slcV A4 ([] : List api_Seg).length) (by kernel_rfl) (fun w' hw => ⟨A4, rfl, (hw.pick [] (by kernel_rfl)).less (sub_ret [0] [2] (by kernel_rfl) (by kernel_rfl))⟩)
 | some p =>
  obtain ⟨b, o⟩ := p
  refine WP.seq (WP.rn [] [(2, .slice none 0 0)] ?_)
  refine WP.seq (WP.seq (WP.rn [] [(4, .bool false)] ?_))
  refine WP.no rfl rfl (WP.skip (WP.seq (WP.region ?_)))
  refine WL.rh 2 [] (fun b1 => [(5, .slice (some ⟨b1, 0, none⟩) 0 0), (6, slcV (⟨some (b, o), c, s, z⟩ : SkL (SkL Unit)) a0.length)]) (fun b1 => []) (fun b1 => [(b1, .cells #[] 93 (0, 0))]) (fun b1 => ?_)
  refine WL.growLit (H' := []) (m := 3) (e := 93) (f := api_Seg.encS) api_Seg.inK 0 (b := b1) (cs := #[]) (skF [] (SkL.nil (fun _ => ()))) ([] : List api_Seg) (by kernel_rfl) (fun _ _ => rfl) (by kernel_rfl) (by decide) [] [] (by kernel_rfl) (fun w hψ => trivial) (by kernel_rfl) ?_
  obtain ⟨u3, h2, hM⟩ := bind_some hM
  refine WL.growApp (G' := []) (A := (SkL.at b1 0 (skF [] (SkL.nil (fun _ => ()))))) (B := (⟨some (b, o), c, s, z⟩ : SkL (SkL Unit))) (xs := ([] : List api_Seg)) (ys := a0) (m := 3) (by_ := 40) (e := 93) (z := .agg #[.int .i64 0, .int .i64 0, .slice none 0 0]) (f := api_Seg.encS) (K := api_Seg.inK) (d := 7) 0 rfl rfl (by kernel_rfl) (by kernel_rfl) (by kernel_rfl) (by kernel_rfl) (by kernel_rfl) (fun _ _ => rfl) (fun _ _ => rfl) (by kernel_rfl) (by kernel_rfl) (by kernel_rfl) (by kernel_rfl) (by kernel_rfl) (fact_at 0 rfl) (fact_at 1 rfl) h2 (by kernel_rfl) (fun A4 => ?_)
  refine WL.less (Φ' := ([GIn api_Seg.inK A4 a0, GIn api_Seg.inK (SkL.at b1 0 (skF [] (SkL.nil (fun _ => ())))) ([] : List api_Seg), Row 3 api_Seg.encS api_Seg.inK (⟨some (b, o), c, s, z⟩ : SkL (SkL Unit)) a0] ++ Glob)) (fun _ h => h) ?_
  refine WL.rn 1 [] [(2, slcV A4 a0.length)] ?_
  refine WP.done ?_
  obtain rfl := Option.some.inj hM
  exact WP.ret [] [] (slcV A4 a0.length) (by kernel_rfl) (fun w' hw => ⟨A4, rfl, (hw.pick [] (by kernel_rfl)).less (sub_ret [0] [2] (by kernel_rfl) (by kernel_rfl))⟩)
def vtep_copied.l2 (r33 : (List api_Seg)) (a0 : Int) (a0_1 : Int) (a0_2 : Int) (x19 : (List api_PortCfg)) (r5 : (List Bool)) (a0_5 : api_Keep) (a0_6 : api_Near) (a0_7 : Int) (r30 : (List api_Route)) (a0_10 : Int) (a0_11 : Bool) : Nat → Int → (List api_Seg) → Option (api_Gate)
 | 0, _, _ => none
 | n + 1, x46, x47 =>
  bif decide (x46 < (r33.length : Int)) then
   (getL x47.length x47 x46).bind fun t50 =>
   (slices_Clone_uint32_uint32.f t50.Peers).bind fun r53 =>
   (getL x47.length x47 x46).bind fun t56 =>
   vtep_copied.l2 r33 a0 a0_1 a0_2 x19 r5 a0_5 a0_6 a0_7 r30 a0_10 a0_11 n (i64 (x46 + 1)) (List.set x47 (Int.toNat x46) (api_Seg.mk t56.Vid t56.Vni r53))
  else
   some (api_Gate.mk a0 a0_1 a0_2 x19 r5 a0_5 a0_6 a0_7 x47 r30 a0_10 a0_11)
def vtep_copied.l1 (r2 : (List api_PortCfg)) (a0_9 : (List api_Route)) (a0_8 : (List api_Seg)) (k : Nat) (a0 : Int) (a0_1 : Int) (a0_2 : Int) (r5 : (List Bool)) (a0_5 : api_Keep) (a0_6 : api_Near) (a0_7 : Int) (a0_10 : Int) (a0_11 : Bool) : Nat → Int → (List api_PortCfg) → Option (api_Gate)
 | 0, _, _ => none
 | n + 1, x18, x19 =>
  bif decide (x18 < (r2.length : Int)) then
   (getL x19.length x19 x18).bind fun t22 =>
   (slices_Clone_int_int.f t22.Vids).bind fun r25 =>
   (getL x19.length x19 x18).bind fun t28 =>
   vtep_copied.l1 r2 a0_9 a0_8 k a0 a0_1 a0_2 r5 a0_5 a0_6 a0_7 a0_10 a0_11 n (i64 (x18 + 1)) (List.set x19 (Int.toNat x18) (api_PortCfg.mk t28.Trunk t28.Pvid r25))
  else
   (api_Route.f a0_9).bind fun r30 =>
   (api_Seg_1.f a0_8).bind fun r33 =>
   vtep_copied.l2 r33 a0 a0_1 a0_2 x19 r5 a0_5 a0_6 a0_7 r30 a0_10 a0_11 k 0 r33
def vtep_copied.f (k : Nat) (a0 : Int) (a0_1 : Int) (a0_2 : Int) (a0_3 : (List api_PortCfg)) (a0_4 : (List Bool)) (a0_5 : api_Keep) (a0_6 : api_Near) (a0_7 : Int) (a0_8 : (List api_Seg)) (a0_9 : (List api_Route)) (a0_10 : Int) (a0_11 : Bool) : Option (api_Gate) :=
 (api_PortCfg_1.f a0_3).bind fun r2 =>
 (slices_Clone_bool_bool.f a0_4).bind fun r5 =>
 vtep_copied.l1 r2 a0_9 a0_8 k a0 a0_1 a0_2 r5 a0_5 a0_6 a0_7 a0_10 a0_11 k 0 r2
theorem vtep_copied_calls (k : Nat) (A00 : SkL (SkL Unit)) (A01 : SkL Unit) (A02 : SkL (SkL Unit)) (A03 : SkL Unit) (a0 : Int) (a0_1 : Int) (a0_2 : Int) (a0_3 : (List api_PortCfg)) (a0_4 : (List Bool)) (a0_5 : api_Keep) (a0_6 : api_Near) (a0_7 : Int) (a0_8 : (List api_Seg)) (a0_9 : (List api_Route)) (a0_10 : Int) (a0_11 : Bool) (r : api_Gate) (h : vtep_copied.f k a0 a0_1 a0_2 a0_3 a0_4 a0_5 a0_6 a0_7 a0_8 a0_9 a0_10 a0_11 = some r) : Does Tryz.prog 51 #[.agg #[.int .u64 a0, .int .u64 a0_1, .int .u32 a0_2, slcV A00 a0_3.length, slcV A01 a0_4.length, .int .i64 a0_5.Room, .int .i64 a0_5.Life, .int .i64 a0_5.Moves, .int .i64 a0_5.Window, .int .u64 a0_6.Mac, .int .u32 a0_6.Ip, .int .i64 a0_6.Room, .int .i64 a0_6.Life, .int .i64 a0_6.Pend, .int .i64 a0_6.Tries, .int .i64 a0_6.Apart, .int .i64 a0_7, slcV A02 a0_8.length, slcV A03 a0_9.length, .int .i64 a0_10, .bool a0_11]] [] ([Row 3 api_PortCfg.encS api_PortCfg.inK A00 a0_3, Row 1 (pl encB) noK A01 a0_4, Row 3 api_Seg.encS api_Seg.inK A02 a0_8, Row 3 (pl api_Route.enc) noK A03 a0_9] ++ Glob) (fun x : ((SkL (SkL Unit)) × (SkL Unit) × (SkL (SkL Unit)) × (SkL Unit)) => .agg #[.int .u64 r.Bridge, .int .u64 r.Mac, .int .u32 r.Ip, slcV x.1 r.Ports.length, slcV x.2.1 r.Edges.length, .int .i64 r.Keep.Room, .int .i64 r.Keep.Life, .int .i64 r.Keep.Moves, .int .i64 r.Keep.Window, .int .u64 r.Near.Mac, .int .u32 r.Near.Ip, .int .i64 r.Near.Room, .int .i64 r.Near.Life, .int .i64 r.Near.Pend, .int .i64 r.Near.Tries, .int .i64 r.Near.Apart, .int .i64 r.Heard, slcV x.2.2.1 r.Segs.length, slcV x.2.2.2 r.Routes.length, .int .i64 r.Most, .bool r.Answers]) (fun x => []) (fun _ => []) (fun x => [Row 3 api_PortCfg.encS api_PortCfg.inK x.1 r.Ports, Row 1 (pl encB) noK x.2.1 r.Edges, Row 3 api_Seg.encS api_Seg.inK x.2.2.1 r.Segs, Row 3 (pl api_Route.enc) noK x.2.2.2 r.Routes] ++ ([Row 3 api_PortCfg.encS api_PortCfg.inK A00 a0_3, Row 1 (pl encB) noK A01 a0_4, Row 3 api_Seg.encS api_Seg.inK A02 a0_8, Row 3 (pl api_Route.enc) noK A03 a0_9] ++ Glob)) := by
 intro w Z hS
 refine callsS (args := [.agg #[.int .u64 a0, .int .u64 a0_1, .int .u32 a0_2, slcV A00 a0_3.length, slcV A01 a0_4.length, .int .i64 a0_5.Room, .int .i64 a0_5.Life, .int .i64 a0_5.Moves, .int .i64 a0_5.Window, .int .u64 a0_6.Mac, .int .u32 a0_6.Ip, .int .i64 a0_6.Room, .int .i64 a0_6.Life, .int .i64 a0_6.Pend, .int .i64 a0_6.Tries, .int .i64 a0_6.Apart, .int .i64 a0_7, slcV A02 a0_8.length, slcV A03 a0_9.length, .int .i64 a0_10, .bool a0_11]]) (L := [(0, .agg #[.int .u64 a0, .int .u64 a0_1, .int .u32 a0_2, slcV A00 a0_3.length, slcV A01 a0_4.length, .int .i64 a0_5.Room, .int .i64 a0_5.Life, .int .i64 a0_5.Moves, .int .i64 a0_5.Window, .int .u64 a0_6.Mac, .int .u32 a0_6.Ip, .int .i64 a0_6.Room, .int .i64 a0_6.Life, .int .i64 a0_6.Pend, .int .i64 a0_6.Tries, .int .i64 a0_6.Apart, .int .i64 a0_7, slcV A02 a0_8.length, slcV A03 a0_9.length, .int .i64 a0_10, .bool a0_11])]) (N := 58) Tryz.func51 hS ?_
 have hM := h
 clear h hS
 unfold vtep_copied.f at hM
 refine WP.seq ?_
 refine WP.rh [] (fun b1 => [(1, .pointer (some ⟨b1, 0, none⟩)), (2, .pointer (some ⟨(b1 + 1), 0, none⟩))]) (fun b1 => []) (fun b1 => [(b1, .cells #[.int .u64 a0, .int .u64 a0_1, .int .u32 a0_2, slcV A00 a0_3.length, slcV A01 a0_4.length, .int .i64 a0_5.Room, .int .i64 a0_5.Life, .int .i64 a0_5.Moves, .int .i64 a0_5.Window, .int .u64 a0_6.Mac, .int .u32 a0_6.Ip, .int .i64 a0_6.Room, .int .i64 a0_6.Life, .int .i64 a0_6.Pend, .int .i64 a0_6.Tries, .int .i64 a0_6.Apart, .int .i64 a0_7, slcV A02 a0_8.length, slcV A03 a0_9.length, .int .i64 a0_10, .bool a0_11] 73 (0, 0)), ((b1 + 1), .cells #[.int .u64 0, .int .u64 0, .int .u32 0, .slice none 0 0, .slice none 0 0, .int .i64 0, .int .i64 0, .int .i64 0, .int .i64 0, .int .u64 0, .int .u32 0, .int .i64 0, .int .i64 0, .int .i64 0, .int .i64 0, .int .i64 0, .int .i64 0, .slice none 0 0, .slice none 0 0, .int .i64 0, .bool false] 73 (0, 0))]) (fun b1 => ?_)
 refine WP.seq ?_
 obtain ⟨r2, h3, hM⟩ := bind_some hM
 obtain ⟨r5, h6, hM⟩ := bind_some hM
 refine WP.rs [1, 2] ?_
 refine WP.graphF (X := ((SkL (SkL Unit)) × (SkL Unit))) 10 5 [⟨0, 7, fun _ => [(b1, .cells #[.int .u64 a0, .int .u64 a0_1, .int .u32 a0_2, slcV A00 a0_3.length, slcV A01 a0_4.length, .int .i64 a0_5.Room, .int .i64 a0_5.Life, .int .i64 a0_5.Moves, .int .i64 a0_5.Window, .int .u64 a0_6.Mac, .int .u32 a0_6.Ip, .int .i64 a0_6.Room, .int .i64 a0_6.Life, .int .i64 a0_6.Pend, .int .i64 a0_6.Tries, .int .i64 a0_6.Apart, .int .i64 a0_7, slcV A02 a0_8.length, slcV A03 a0_9.length, .int .i64 a0_10, .bool a0_11] 73 (0, 0))], fun _ => []⟩, ⟨0, 10, fun _ => [((b1 + 1), .cells #[.int .u64 0, .int .u64 0, .int .u32 0, .slice none 0 0, .slice none 0 0, .int .i64 0, .int .i64 0, .int .i64 0, .int .i64 0, .int .u64 0, .int .u32 0, .int .i64 0, .int .i64 0, .int .i64 0, .int .i64 0, .int .i64 0, .int .i64 0, .slice none 0 0, .slice none 0 0, .int .i64 0, .bool false] 73 (0, 0))], fun _ => []⟩, ⟨3, 10, fun ξ => [], fun ξ => [OwnR 3 84 api_PortCfg.encS (ξ 2).1 r2]⟩, ⟨8, 9, fun ξ => [(b1, .cells #[.int .u64 a0, .int .u64 a0_1, .int .u32 a0_2, slcV (ξ 2).1 r2.length, slcV A01 a0_4.length, .int .i64 a0_5.Room, .int .i64 a0_5.Life, .int .i64 a0_5.Moves, .int .i64 a0_5.Window, .int .u64 a0_6.Mac, .int .u32 a0_6.Ip, .int .i64 a0_6.Room, .int .i64 a0_6.Life, .int .i64 a0_6.Pend, .int .i64 a0_6.Tries, .int .i64 a0_6.Apart, .int .i64 a0_7, slcV A02 a0_8.length, slcV A03 a0_9.length, .int .i64 a0_10, .bool a0_11] 73 (0, 0))], fun ξ => []⟩, ⟨10, 10, fun ξ => [(b1, .cells #[.int .u64 a0, .int .u64 a0_1, .int .u32 a0_2, slcV (ξ 2).1 r2.length, slcV (ξ 5).2 r5.length, .int .i64 a0_5.Room, .int .i64 a0_5.Life, .int .i64 a0_5.Moves, .int .i64 a0_5.Window, .int .u64 a0_6.Mac, .int .u32 a0_6.Ip, .int .i64 a0_6.Room, .int .i64 a0_6.Life, .int .i64 a0_6.Pend, .int .i64 a0_6.Tries, .int .i64 a0_6.Apart, .int .i64 a0_7, slcV A02 a0_8.length, slcV A03 a0_9.length, .int .i64 a0_10, .bool a0_11] 73 (0, 0))], fun ξ => []⟩] [⟨[], [], [], [], [], fun _ => .pointer (some ⟨b1, 3, none⟩), fun _ => []⟩, ⟨[0], [0], [0], [], [], fun _ => slcV A00 a0_3.length, fun _ => []⟩, ⟨[0, 1], [], [2], [], [], fun ξ => slcV (ξ 2).1 r2.length, fun ξ => [GIn api_PortCfg.inK (ξ 2).1 r2]⟩, ⟨[], [], [], [], [], fun _ => .pointer (some ⟨b1, 4, none⟩), fun _ => []⟩, ⟨[3], [0], [0], [], [], fun _ => slcV A01 a0_4.length, fun _ => []⟩, ⟨[0, 1, 2, 3, 4], [], [], [], [], fun ξ => slcV (ξ 5).2 r5.length, fun ξ => [Row 1 (pl encB) noK (ξ 5).2 r5]⟩, ⟨[0, 1, 2, 3, 4], [], [], [], [], fun _ => .pointer (some ⟨b1, 3, none⟩), fun _ => []⟩, ⟨[0, 1, 2, 3, 4, 5, 6], [0], [3], [2], [], fun _ => .tuple #[], fun _ => []⟩, ⟨[0, 1, 2, 3, 4, 5, 6, 7], [], [], [], [], fun _ => .pointer (some ⟨b1, 4, none⟩), fun _ => []⟩, ⟨[0, 1, 2, 3, 4, 5, 6, 7, 8], [3], [4], [2, 5], [], fun _ => .tuple #[], fun _ => []⟩] (fun ξ => []) (fun ξ => [((b1 + 1), .cells #[.int .u64 0, .int .u64 0, .int .u32 0, .slice none 0 0, .slice none 0 0, .int .i64 0, .int .i64 0, .int .i64 0, .int .i64 0, .int .u64 0, .int .u32 0, .int .i64 0, .int .i64 0, .int .i64 0, .int .i64 0, .int .i64 0, .int .i64 0, .slice none 0 0, .slice none 0 0, .int .i64 0, .bool false] 73 (0, 0)), (b1, .cells #[.int .u64 a0, .int .u64 a0_1, .int .u32 a0_2, slcV (ξ 2).1 r2.length, slcV (ξ 5).2 r5.length, .int .i64 a0_5.Room, .int .i64 a0_5.Life, .int .i64 a0_5.Moves, .int .i64 a0_5.Window, .int .u64 a0_6.Mac, .int .u32 a0_6.Ip, .int .i64 a0_6.Room, .int .i64 a0_6.Life, .int .i64 a0_6.Pend, .int .i64 a0_6.Tries, .int .i64 a0_6.Apart, .int .i64 a0_7, slcV A02 a0_8.length, slcV A03 a0_9.length, .int .i64 a0_10, .bool a0_11] 73 (0, 0))]) (fun ξ => [OwnR 3 84 api_PortCfg.encS (ξ 2).1 r2]) (fun ξ => [GIn api_PortCfg.inK (ξ 2).1 r2, Row 1 (pl encB) noK (ξ 5).2 r5]) (AllN.cons ?_ (AllN.cons ?_ (AllN.cons ?_ (AllN.cons ?_ (AllN.cons ?_ (AllN.cons ?_ (AllN.cons ?_ (AllN.cons ?_ (AllN.cons ?_ (AllN.cons ?_ AllN.nil)))))))))) (AllN.cons (VAgr.c rfl) (AllN.cons (VAgr.c rfl) (AllN.cons (fun t ht ξ ξ' h => by cases ht; have e2 : ξ 2 = ξ' 2 := h 2 (memN_iff.1 rfl); exact ⟨by first | rfl | simp only [e2], by first | rfl | simp only [e2]⟩) (AllN.cons (VAgr.c rfl) (AllN.cons (VAgr.c rfl) (AllN.cons (fun t ht ξ ξ' h => by cases ht; have e5 : ξ 5 = ξ' 5 := h 5 (memN_iff.1 rfl); exact ⟨by first | rfl | simp only [e5], by first | rfl | simp only [e5]⟩) (AllN.cons (VAgr.c rfl) (AllN.cons (VAgr.c rfl) (AllN.cons (VAgr.c rfl) (AllN.cons (VAgr.c rfl) AllN.nil)))))))))) (AllN.cons (RAgr.c rfl) (AllN.cons (RAgr.c rfl) (AllN.cons (fun r hr ξ ξ' h => by cases hr; have e2 : ξ 2 = ξ' 2 := h 2 (memN_iff.1 rfl); exact ⟨by first | rfl | simp only [e2], by first | rfl | simp only [e2]⟩) (AllN.cons (fun r hr ξ ξ' h => by cases hr; have e2 : ξ 2 = ξ' 2 := h 2 (memN_iff.1 rfl); exact ⟨by first | rfl | simp only [e2], by first | rfl | simp only [e2]⟩) (AllN.cons (fun r hr ξ ξ' h => by cases hr; have e2 : ξ 2 = ξ' 2 := h 2 (memN_iff.1 rfl); have e5 : ξ 5 = ξ' 5 := h 5 (memN_iff.1 rfl); exact ⟨by first | rfl | simp only [e2, e5], by first | rfl | simp only [e2, e5]⟩) AllN.nil))))) (fun ξ => ?_)
 ·
  intro o t ho ht ξ Gr Γr Lr Q hk
  cases ho; cases ht
  refine WL.rn 1 [] [(7, .pointer (some ⟨b1, 3, none⟩))] ?_
  exact WL.fin (hk default)
 ·
  intro o t ho ht ξ Gr Γr Lr Q hk
  cases ho; cases ht
  refine WL.rn 1 [0] [(8, slcV A00 a0_3.length)] ?_
  exact WL.fin (hk default)
 ·
  intro o t ho ht ξ Gr Γr Lr Q hk
  cases ho; cases ht
  refine WL.callG (Gr := Gr) (F0 := [Row 3 api_PortCfg.encS api_PortCfg.inK A00 a0_3]) [] [] [] (fun _ => _) [0] (by kernel_rfl) (api_PortCfg_1_calls A00 a0_3 _ h3) rfl rfl (by kernel_rfl) (by kernel_rfl) (by kernel_rfl) (fun _ => rfl) (fun A4 => ?_)
  exact WL.fin (hk (A4, default))
 ·
  intro o t ho ht ξ Gr Γr Lr Q hk
  cases ho; cases ht
  refine WL.rn 1 [] [(10, .pointer (some ⟨b1, 4, none⟩))] ?_
  exact WL.fin (hk default)
 ·
  intro o t ho ht ξ Gr Γr Lr Q hk
  cases ho; cases ht
  refine WL.rn 1 [0] [(11, slcV A01 a0_4.length)] ?_
  exact WL.fin (hk default)
 ·
  intro o t ho ht ξ Gr Γr Lr Q hk
  cases ho; cases ht
  refine WL.callX (F0 := [Row 1 (pl encB) noK A01 a0_4]) [] [] [] (fun _ => _) [2] (by kernel_rfl) (slices_Clone_bool_bool_calls A01 a0_4 _ h6) rfl rfl (by kernel_rfl) (by kernel_rfl) (fun _ => rfl) (fun A7 => ?_)
  exact WL.fin (hk (default, A7))
 ·
  intro o t ho ht ξ Gr Γr Lr Q hk
  cases ho; cases ht
  refine WL.rn 1 [] [(13, .pointer (some ⟨b1, 3, none⟩))] ?_
  exact WL.fin (hk default)
 ·
  intro o t ho ht ξ Gr Γr Lr Q hk
  cases ho; cases ht
  refine WL.rh 1 [0] (fun _ => []) (fun _ => [(0, 3, [slcV (ξ 2).1 r2.length])]) (fun _ => []) (fun _ => ?_)
  exact WL.fin (hk default)
 ·
  intro o t ho ht ξ Gr Γr Lr Q hk
  cases ho; cases ht
  refine WL.rn 1 [] [(14, .pointer (some ⟨b1, 4, none⟩))] ?_
  exact WL.fin (hk default)
 ·
  intro o t ho ht ξ Gr Γr Lr Q hk
  cases ho; cases ht
  refine WL.rh 1 [0] (fun _ => []) (fun _ => [(0, 4, [slcV (ξ 5).2 r5.length])]) (fun _ => []) (fun _ => ?_)
  exact WL.fin (hk default)
 generalize (ξ 2).1 = A4
 generalize (ξ 5).2 = A7
 refine WP.less (Φ' := ([GIn api_PortCfg.inK A4 r2, Row 1 (pl encB) noK A7 r5, Row 3 api_PortCfg.encS api_PortCfg.inK A00 a0_3, Row 1 (pl encB) noK A01 a0_4, Row 3 api_Seg.encS api_Seg.inK A02 a0_8, Row 3 (pl api_Route.enc) noK A03 a0_9] ++ Glob)) (fun _ h => h) ?_
 refine WP.seq (WP.seq (WP.rn [1] [(16, slcV A4 r2.length), (17, .int .i64 (r2.length : Int)), (18, .int .i64 0)] ?_))
 refine WP.block ?_
 refine WP.sub [1, 2, 16, 17, 18] (L' := [(1, .pointer (some ⟨b1, 0, none⟩)), (2, .pointer (some ⟨(b1 + 1), 0, none⟩)), (16, slcV A4 r2.length), (17, .int .i64 (r2.length : Int)), (18, .int .i64 0)]) (by kernel_rfl) ?_
 refine WP.lessF [0, 0, 1, 2, 3, 4, 5] (F' := [GIn api_PortCfg.inK A4 r2, GIn api_PortCfg.inK A4 r2, Row 1 (pl encB) noK A7 r5, Row 3 api_PortCfg.encS api_PortCfg.inK A00 a0_3, Row 1 (pl encB) noK A01 a0_4, Row 3 api_Seg.encS api_Seg.inK A02 a0_8, Row 3 (pl api_Route.enc) noK A03 a0_9]) (by kernel_rfl) ?_
 refine WP.loop (σ := Int × (List api_PortCfg) × SkL (SkL Unit)) (fun n st => vtep_copied.l1 r2 a0_9 a0_8 k a0 a0_1 a0_2 r5 a0_5 a0_6 a0_7 a0_10 a0_11 n st.1 st.2.1) r (fun st => [(1, .pointer (some ⟨b1, 0, none⟩)), (2, .pointer (some ⟨(b1 + 1), 0, none⟩)), (16, slcV st.2.2 st.2.1.length), (17, .int .i64 (r2.length : Int)), (18, .int .i64 st.1)]) (fun st => Sat w Z [((b1 + 1), .cells #[.int .u64 0, .int .u64 0, .int .u32 0, .slice none 0 0, .slice none 0 0, .int .i64 0, .int .i64 0, .int .i64 0, .int .i64 0, .int .u64 0, .int .u32 0, .int .i64 0, .int .i64 0, .int .i64 0, .int .i64 0, .int .i64 0, .int .i64 0, .slice none 0 0, .slice none 0 0, .int .i64 0, .bool false] 73 (0, 0)), (b1, .cells #[.int .u64 a0, .int .u64 a0_1, .int .u32 a0_2, slcV st.2.2 st.2.1.length, slcV A7 r5.length, .int .i64 a0_5.Room, .int .i64 a0_5.Life, .int .i64 a0_5.Moves, .int .i64 a0_5.Window, .int .u64 a0_6.Mac, .int .u32 a0_6.Ip, .int .i64 a0_6.Room, .int .i64 a0_6.Life, .int .i64 a0_6.Pend, .int .i64 a0_6.Tries, .int .i64 a0_6.Apart, .int .i64 a0_7, slcV A02 a0_8.length, slcV A03 a0_9.length, .int .i64 a0_10, .bool a0_11] 73 (0, 0))] [OwnR 3 84 api_PortCfg.encS st.2.2 st.2.1] ([GIn api_PortCfg.inK st.2.2 st.2.1, GIn api_PortCfg.inK A4 r2, Row 1 (pl encB) noK A7 r5, Row 3 api_PortCfg.encS api_PortCfg.inK A00 a0_3, Row 1 (pl encB) noK A01 a0_4, Row 3 api_Seg.encS api_Seg.inK A02 a0_8, Row 3 (pl api_Route.enc) noK A03 a0_9] ++ Glob)) (st := (0, r2, A4)) (fun n st hM => ?_) hM
 rcases n with _ | n
 ·exact nomatch (show (none : Option _) = some r from hM)
 obtain ⟨x18, x19, A20⟩ := st
 replace hM : vtep_copied.l1 r2 a0_9 a0_8 k a0 a0_1 a0_2 r5 a0_5 a0_6 a0_7 a0_10 a0_11 (n + 1) x18 x19 = some r := hM
 rw [vtep_copied.l1] at hM
 try dsimp only
 refine WP.seq (WP.rn [] [(19, .bool (decide (x18 < (r2.length : Int))))] ?_)
 refine WP.seq ?_
 refine WP.cond (decide (x18 < (r2.length : Int))) rfl rfl (fun c21 => ?_) (fun c21 => ?_)
 ·replace hM := cond_t hM c21
  refine WP.skip (WP.seq (WP.block (WP.seq (WP.region (WL.rn 1 [] [(20, .int .i64 x18)] ?_)))))
  obtain ⟨t22, h23, hM⟩ := bind_some hM
  refine WL.valG (m := 3) (e := 84) (f := api_PortCfg.encS) (K := api_PortCfg.inK) (A := A20) (xs := x19) 0 (by kernel_rfl) (fun _ _ => rfl) (fact_at 0 rfl) (fun w hR => run_indexRowF (A := A20) (xs := x19) (i := x18) (k := .i64) (e := 84) (m := 3) (by kernel_rfl) (by kernel_rfl) h23 (by kernel_rfl) (by kernel_rfl) hR) (by kernel_rfl) (by kernel_rfl) rfl ?_
  refine WL.valG (m := 3) (e := 84) (f := api_PortCfg.encS) (K := api_PortCfg.inK) (A := A20) (xs := x19) 0 (by kernel_rfl) (fun _ _ => rfl) (fact_at 0 rfl) (fun w hR => run_loadRowFA (A := A20) (xs := x19) (i := x18) (j := 0) (n := 3) (vs := [.bool t22.Trunk, .int .i64 t22.Pvid, slcV (A20.s (Int.toNat x18)) t22.Vids.length]) h23 (fun _ => by kernel_rfl) (by kernel_rfl) (by kernel_rfl) (by kernel_rfl) rfl hR) (by kernel_rfl) (by kernel_rfl) rfl ?_
  refine WL.know (Row 1 (pl (encI .i64)) noK (A20.s (Int.toNat x18)) t22.Vids) [0] [GIn api_PortCfg.inK A20 x19] (by kernel_rfl) (fun w hψ => (by have h_ := (hψ _ (List.mem_singleton.2 rfl)).get (getL_parts h23).2; rw [Nat.zero_add] at h_; exact h_)) ?_
  refine WL.rh 3 [2, 2, 2] (fun b24 => [(3, .int .i64 x18), (4, .pointer (some ⟨b24, 0, none⟩))]) (fun b24 => []) (fun b24 => [(b24, .cells #[.bool t22.Trunk, .int .i64 t22.Pvid, slcV (A20.s (Int.toNat x18)) t22.Vids.length] 84 (0, 0))]) (fun b24 => ?_)
  refine WP.done ?_
  obtain ⟨r25, h26, hM⟩ := bind_some hM
  obtain ⟨t28, h29, hM⟩ := bind_some hM
  refine WP.rs [1, 2, 3, 4, 16, 17, 18, 19, 20, 21, 22] ?_
  refine WP.graphF (X := (SkL Unit)) 9 5 [⟨0, 9, fun _ => [((b1 + 1), .cells #[.int .u64 0, .int .u64 0, .int .u32 0, .slice none 0 0, .slice none 0 0, .int .i64 0, .int .i64 0, .int .i64 0, .int .i64 0, .int .u64 0, .int .u32 0, .int .i64 0, .int .i64 0, .int .i64 0, .int .i64 0, .int .i64 0, .int .i64 0, .slice none 0 0, .slice none 0 0, .int .i64 0, .bool false] 73 (0, 0))], fun _ => []⟩, ⟨0, 9, fun _ => [(b1, .cells #[.int .u64 a0, .int .u64 a0_1, .int .u32 a0_2, slcV A20 x19.length, slcV A7 r5.length, .int .i64 a0_5.Room, .int .i64 a0_5.Life, .int .i64 a0_5.Moves, .int .i64 a0_5.Window, .int .u64 a0_6.Mac, .int .u32 a0_6.Ip, .int .i64 a0_6.Room, .int .i64 a0_6.Life, .int .i64 a0_6.Pend, .int .i64 a0_6.Tries, .int .i64 a0_6.Apart, .int .i64 a0_7, slcV A02 a0_8.length, slcV A03 a0_9.length, .int .i64 a0_10, .bool a0_11] 73 (0, 0))], fun _ => []⟩, ⟨0, 9, fun _ => [(b24, .cells #[.bool t22.Trunk, .int .i64 t22.Pvid, slcV (A20.s (Int.toNat x18)) t22.Vids.length] 84 (0, 0))], fun _ => []⟩, ⟨0, 8, fun _ => [], fun _ => [OwnR 3 84 api_PortCfg.encS A20 x19]⟩, ⟨9, 9, fun ξ => [], fun ξ => [OwnR 3 84 api_PortCfg.encS (SkL.upd A20 (Int.toNat x18) (ξ 5)) (List.set x19 (Int.toNat x18) (api_PortCfg.mk t28.Trunk t28.Pvid r25))]⟩] [⟨[], [], [], [], [], fun _ => .pointer (some ⟨b1, 3, none⟩), fun _ => []⟩, ⟨[0], [1], [1], [], [], fun _ => slcV A20 x19.length, fun _ => []⟩, ⟨[], [], [], [], [], fun _ => .int .i64 x18, fun _ => []⟩, ⟨[], [], [], [], [], fun _ => .pointer (some ⟨b24, 2, none⟩), fun _ => []⟩, ⟨[3], [2], [2], [], [], fun _ => slcV (A20.s (Int.toNat x18)) t22.Vids.length, fun _ => []⟩, ⟨[3, 4], [], [], [], [], fun ξ => slcV (ξ 5) r25.length, fun ξ => [Row 1 (pl (encI .i64)) noK (ξ 5) r25]⟩, ⟨[0, 1, 2, 3, 4, 5], [3], [3], [], [], fun _ => ptrV A20 (Int.toNat x18 * 3), fun _ => []⟩, ⟨[0, 1, 2, 3, 4, 5, 6], [3], [3], [], [], fun _ => ptrV A20 (Int.toNat x18 * 3 + 2), fun _ => []⟩, ⟨[0, 1, 2, 3, 4, 5, 6, 7], [3], [4], [5], [], fun ξ => .tuple #[], fun ξ => [GIn api_PortCfg.inK (SkL.upd A20 (Int.toNat x18) (ξ 5)) (List.set x19 (Int.toNat x18) (api_PortCfg.mk t28.Trunk t28.Pvid r25))]⟩] (fun ξ => [(23, .pointer (some ⟨b1, 3, none⟩)), (24, slcV A20 x19.length), (25, .int .i64 x18), (26, .pointer (some ⟨b24, 2, none⟩)), (27, slcV (A20.s (Int.toNat x18)) t22.Vids.length), (28, slcV (ξ 5) r25.length)]) (fun ξ => [((b1 + 1), .cells #[.int .u64 0, .int .u64 0, .int .u32 0, .slice none 0 0, .slice none 0 0, .int .i64 0, .int .i64 0, .int .i64 0, .int .i64 0, .int .u64 0, .int .u32 0, .int .i64 0, .int .i64 0, .int .i64 0, .int .i64 0, .int .i64 0, .int .i64 0, .slice none 0 0, .slice none 0 0, .int .i64 0, .bool false] 73 (0, 0)), (b1, .cells #[.int .u64 a0, .int .u64 a0_1, .int .u32 a0_2, slcV A20 x19.length, slcV A7 r5.length, .int .i64 a0_5.Room, .int .i64 a0_5.Life, .int .i64 a0_5.Moves, .int .i64 a0_5.Window, .int .u64 a0_6.Mac, .int .u32 a0_6.Ip, .int .i64 a0_6.Room, .int .i64 a0_6.Life, .int .i64 a0_6.Pend, .int .i64 a0_6.Tries, .int .i64 a0_6.Apart, .int .i64 a0_7, slcV A02 a0_8.length, slcV A03 a0_9.length, .int .i64 a0_10, .bool a0_11] 73 (0, 0)), (b24, .cells #[.bool t22.Trunk, .int .i64 t22.Pvid, slcV (A20.s (Int.toNat x18)) t22.Vids.length] 84 (0, 0))]) (fun ξ => [OwnR 3 84 api_PortCfg.encS (SkL.upd A20 (Int.toNat x18) (ξ 5)) (List.set x19 (Int.toNat x18) (api_PortCfg.mk t28.Trunk t28.Pvid r25))]) (fun ξ => [Row 1 (pl (encI .i64)) noK (ξ 5) r25, GIn api_PortCfg.inK (SkL.upd A20 (Int.toNat x18) (ξ 5)) (List.set x19 (Int.toNat x18) (api_PortCfg.mk t28.Trunk t28.Pvid r25))]) (AllN.cons ?_ (AllN.cons ?_ (AllN.cons ?_ (AllN.cons ?_ (AllN.cons ?_ (AllN.cons ?_ (AllN.cons ?_ (AllN.cons ?_ (AllN.cons ?_ AllN.nil))))))))) (AllN.cons (VAgr.c rfl) (AllN.cons (VAgr.c rfl) (AllN.cons (VAgr.c rfl) (AllN.cons (VAgr.c rfl) (AllN.cons (VAgr.c rfl) (AllN.cons (fun t ht ξ ξ' h => by cases ht; have e5 : ξ 5 = ξ' 5 := h 5 (memN_iff.1 rfl); exact ⟨by first | rfl | simp only [e5], by first | rfl | simp only [e5]⟩) (AllN.cons (VAgr.c rfl) (AllN.cons (VAgr.c rfl) (AllN.cons (fun t ht ξ ξ' h => by cases ht; have e5 : ξ 5 = ξ' 5 := h 5 (memN_iff.1 rfl); exact ⟨by first | rfl | simp only [e5], by first | rfl | simp only [e5]⟩) AllN.nil))))))))) (AllN.cons (RAgr.c rfl) (AllN.cons (RAgr.c rfl) (AllN.cons (RAgr.c rfl) (AllN.cons (RAgr.c rfl) (AllN.cons (fun r hr ξ ξ' h => by cases hr; have e5 : ξ 5 = ξ' 5 := h 5 (memN_iff.1 rfl); exact ⟨by first | rfl | simp only [e5], by first | rfl | simp only [e5]⟩) AllN.nil))))) (fun ξ => ?_)
  ·
   intro o t ho ht ξ Gr Γr Lr Q hk
   cases ho; cases ht
   refine WL.rn 1 [] [(23, .pointer (some ⟨b1, 3, none⟩))] ?_
   exact WL.fin (hk default)
  ·
   intro o t ho ht ξ Gr Γr Lr Q hk
   cases ho; cases ht
   refine WL.rn 1 [0] [(24, slcV A20 x19.length)] ?_
   exact WL.fin (hk default)
  ·
   intro o t ho ht ξ Gr Γr Lr Q hk
   cases ho; cases ht
   refine WL.rn 1 [] [(25, .int .i64 x18)] ?_
   exact WL.fin (hk default)
  ·
   intro o t ho ht ξ Gr Γr Lr Q hk
   cases ho; cases ht
   refine WL.rn 1 [] [(26, .pointer (some ⟨b24, 2, none⟩))] ?_
   exact WL.fin (hk default)
  ·
   intro o t ho ht ξ Gr Γr Lr Q hk
   cases ho; cases ht
   refine WL.rn 1 [0] [(27, slcV (A20.s (Int.toNat x18)) t22.Vids.length)] ?_
   exact WL.fin (hk default)
  ·
   intro o t ho ht ξ Gr Γr Lr Q hk
   cases ho; cases ht
   refine WL.callX (F0 := [Row 1 (pl (encI .i64)) noK (A20.s (Int.toNat x18)) t22.Vids]) [] [] [] (fun _ => _) [0] (by kernel_rfl) (slices_Clone_int_int_calls (A20.s (Int.toNat x18)) t22.Vids _ h26) rfl rfl (by kernel_rfl) (by kernel_rfl) (fun _ => rfl) (fun A27 => ?_)
   exact WL.fin (hk A27)
  ·
   intro o t ho ht ξ Gr Γr Lr Q hk
   cases ho; cases ht
   refine WL.valG (m := 3) (e := 84) (f := api_PortCfg.encS) (K := api_PortCfg.inK) (A := A20) (xs := x19) 0 (by kernel_rfl) (fun _ _ => rfl) (fact_at 2 rfl) (fun w hR => run_indexRowF (A := A20) (xs := x19) (i := x18) (k := .i64) (e := 84) (m := 3) (by kernel_rfl) (by kernel_rfl) h29 (by kernel_rfl) (by kernel_rfl) hR) (by kernel_rfl) (by kernel_rfl) rfl ?_
   exact WL.fin (hk default)
  ·
   intro o t ho ht ξ Gr Γr Lr Q hk
   cases ho; cases ht
   refine WL.valG (m := 3) (e := 84) (f := api_PortCfg.encS) (K := api_PortCfg.inK) (A := A20) (xs := x19) 0 (by kernel_rfl) (fun _ _ => rfl) (fact_at 2 rfl) (fun w hR => run_fieldRowF (A := A20) (xs := x19) (i := x18) (n := Int.toNat x18 * 3 + 0) (n' := Int.toNat x18 * 3 + 2) h29 (by kernel_rfl) (fun _ _ => by kernel_rfl) hR) (by kernel_rfl) (by kernel_rfl) rfl ?_
   exact WL.fin (hk default)
  ·
   intro o t ho ht ξ Gr Γr Lr Q hk
   cases ho; cases ht
   refine WL.setS (G' := Gr) (m := 3) (e := 84) (n := 1) (off := 2) (f := api_PortCfg.encS) (K := api_PortCfg.inK) (A := A20) (xs := x19) (i := x18) (u := t28) (r := (api_PortCfg.mk t28.Trunk t28.Pvid r25)) (s' := (ξ 5)) (v := slcV (ξ 5) r25.length) (Ψ := [Row 1 (pl (encI .i64)) noK (ξ 5) r25]) 0 [0] (fun _ => by kernel_rfl) (by kernel_rfl) (by kernel_rfl) (by kernel_rfl) (by kernel_rfl) (by kernel_rfl) (by kernel_rfl) (by kernel_rfl) (by kernel_rfl) h29 (by kernel_rfl) (by kernel_rfl) (fun _ _ => rfl) (fact_at 2 rfl) (by kernel_rfl) (fun w hK hψ => hψ _ (List.mem_of_getElem? (i := 0) rfl)) (by kernel_rfl) ?_
   refine WL.less (Φ' := (([GIn api_PortCfg.inK (SkL.upd A20 (Int.toNat x18) (ξ 5)) (List.set x19 (Int.toNat x18) (api_PortCfg.mk t28.Trunk t28.Pvid r25)), Row 1 (pl (encI .i64)) noK (ξ 5) r25, Row 1 (pl (encI .i64)) noK (A20.s (Int.toNat x18)) t22.Vids, GIn api_PortCfg.inK A20 x19, GIn api_PortCfg.inK A4 r2, Row 1 (pl encB) noK A7 r5, Row 3 api_PortCfg.encS api_PortCfg.inK A00 a0_3, Row 1 (pl encB) noK A01 a0_4, Row 3 api_Seg.encS api_Seg.inK A02 a0_8, Row 3 (pl api_Route.enc) noK A03 a0_9] ++ Γr) ++ Glob)) (fun _ h => h) ?_
   exact WL.fin (hk default)
  generalize (ξ 5) = A27
  refine WP.less (Φ' := ([Row 1 (pl (encI .i64)) noK A27 r25, GIn api_PortCfg.inK (SkL.upd A20 (Int.toNat x18) A27) (List.set x19 (Int.toNat x18) (api_PortCfg.mk t28.Trunk t28.Pvid r25)), Row 1 (pl (encI .i64)) noK (A20.s (Int.toNat x18)) t22.Vids, GIn api_PortCfg.inK A20 x19, GIn api_PortCfg.inK A4 r2, Row 1 (pl encB) noK A7 r5, Row 3 api_PortCfg.encS api_PortCfg.inK A00 a0_3, Row 1 (pl encB) noK A01 a0_4, Row 3 api_Seg.encS api_Seg.inK A02 a0_8, Row 3 (pl api_Route.enc) noK A03 a0_9] ++ Glob)) (fun _ h => h) ?_
  refine WP.retell (L1 := [(1, .pointer (some ⟨b1, 0, none⟩)), (2, .pointer (some ⟨(b1 + 1), 0, none⟩)), (3, .int .i64 x18), (4, .pointer (some ⟨b24, 0, none⟩)), (16, slcV A20 x19.length), (17, .int .i64 (r2.length : Int)), (18, .int .i64 x18), (19, .bool (decide (x18 < (r2.length : Int)))), (20, .int .i64 x18), (22, .agg #[.bool t22.Trunk, .int .i64 t22.Pvid, slcV (A20.s (Int.toNat x18)) t22.Vids.length]), (23, .pointer (some ⟨b1, 3, none⟩)), (24, slcV A20 x19.length), (25, .int .i64 x18), (26, .pointer (some ⟨b24, 2, none⟩)), (27, slcV (A20.s (Int.toNat x18)) t22.Vids.length), (28, slcV A27 r25.length)]) (L' := [(1, .pointer (some ⟨b1, 0, none⟩)), (2, .pointer (some ⟨(b1 + 1), 0, none⟩)), (3, .int .i64 x18), (4, .pointer (some ⟨b24, 0, none⟩)), (16, slcV (SkL.upd A20 (Int.toNat x18) A27) (List.set x19 (Int.toNat x18) (api_PortCfg.mk t28.Trunk t28.Pvid r25)).length), (17, .int .i64 (r2.length : Int)), (18, .int .i64 x18), (19, .bool (decide (x18 < (r2.length : Int)))), (20, .int .i64 x18), (22, .agg #[.bool t22.Trunk, .int .i64 t22.Pvid, slcV (A20.s (Int.toNat x18)) t22.Vids.length]), (23, .pointer (some ⟨b1, 3, none⟩)), (24, slcV (SkL.upd A20 (Int.toNat x18) A27) (List.set x19 (Int.toNat x18) (api_PortCfg.mk t28.Trunk t28.Pvid r25)).length), (25, .int .i64 x18), (26, .pointer (some ⟨b24, 2, none⟩)), (27, slcV (A20.s (Int.toNat x18)) t22.Vids.length), (28, slcV A27 r25.length)]) (H' := [((b1 + 1), .cells #[.int .u64 0, .int .u64 0, .int .u32 0, .slice none 0 0, .slice none 0 0, .int .i64 0, .int .i64 0, .int .i64 0, .int .i64 0, .int .u64 0, .int .u32 0, .int .i64 0, .int .i64 0, .int .i64 0, .int .i64 0, .int .i64 0, .int .i64 0, .slice none 0 0, .slice none 0 0, .int .i64 0, .bool false] 73 (0, 0)), (b1, .cells #[.int .u64 a0, .int .u64 a0_1, .int .u32 a0_2, slcV (SkL.upd A20 (Int.toNat x18) A27) (List.set x19 (Int.toNat x18) (api_PortCfg.mk t28.Trunk t28.Pvid r25)).length, slcV A7 r5.length, .int .i64 a0_5.Room, .int .i64 a0_5.Life, .int .i64 a0_5.Moves, .int .i64 a0_5.Window, .int .u64 a0_6.Mac, .int .u32 a0_6.Ip, .int .i64 a0_6.Room, .int .i64 a0_6.Life, .int .i64 a0_6.Pend, .int .i64 a0_6.Tries, .int .i64 a0_6.Apart, .int .i64 a0_7, slcV A02 a0_8.length, slcV A03 a0_9.length, .int .i64 a0_10, .bool a0_11] 73 (0, 0)), (b24, .cells #[.bool t22.Trunk, .int .i64 t22.Pvid, slcV (A20.s (Int.toNat x18)) t22.Vids.length] 84 (0, 0))]) [1, 2, 3, 4, 16, 17, 18, 19, 20, 22, 23, 24, 25, 26, 27, 28] (by kernel_rfl) (by first | rfl | simp only [List.length_set, slcV_upd]) (by first | rfl | simp only [List.length_set, slcV_upd]) ?_
  refine WP.leave (WP.rn [] [(18, .int .i64 (i64 (x18 + 1))), (31, .int .i64 (i64 (x18 + 1)))] ?_)
  exact WP.again' [1, 2, 16, 17, 18] (i64 (x18 + 1), (List.set x19 (Int.toNat x18) (api_PortCfg.mk t28.Trunk t28.Pvid r25)), (SkL.upd A20 (Int.toNat x18) A27)) hM (by kernel_rfl) (fun _ h => ((h.pick [0, 1] (by kernel_rfl)).lessF [1, 4, 5, 6, 7, 8, 9] (by kernel_rfl)).pickG [0] [] 1 rfl (by decide) (by kernel_rfl))
 ·replace hM := cond_f hM c21
  refine WP.exit rfl (WP.seq ?_)
  obtain ⟨r30, h31, hM⟩ := bind_some hM
  obtain ⟨r33, h34, hM⟩ := bind_some hM
  refine WP.rs [1, 2] ?_
  refine WP.graphF (X := ((SkL Unit) × (SkL (SkL Unit)))) 10 6 [⟨0, 10, fun _ => [((b1 + 1), .cells #[.int .u64 0, .int .u64 0, .int .u32 0, .slice none 0 0, .slice none 0 0, .int .i64 0, .int .i64 0, .int .i64 0, .int .i64 0, .int .u64 0, .int .u32 0, .int .i64 0, .int .i64 0, .int .i64 0, .int .i64 0, .int .i64 0, .int .i64 0, .slice none 0 0, .slice none 0 0, .int .i64 0, .bool false] 73 (0, 0))], fun _ => []⟩, ⟨0, 7, fun _ => [(b1, .cells #[.int .u64 a0, .int .u64 a0_1, .int .u32 a0_2, slcV A20 x19.length, slcV A7 r5.length, .int .i64 a0_5.Room, .int .i64 a0_5.Life, .int .i64 a0_5.Moves, .int .i64 a0_5.Window, .int .u64 a0_6.Mac, .int .u32 a0_6.Ip, .int .i64 a0_6.Room, .int .i64 a0_6.Life, .int .i64 a0_6.Pend, .int .i64 a0_6.Tries, .int .i64 a0_6.Apart, .int .i64 a0_7, slcV A02 a0_8.length, slcV A03 a0_9.length, .int .i64 a0_10, .bool a0_11] 73 (0, 0))], fun _ => []⟩, ⟨0, 10, fun _ => [], fun _ => [OwnR 3 84 api_PortCfg.encS A20 x19]⟩, ⟨6, 10, fun ξ => [], fun ξ => [OwnR 3 93 api_Seg.encS (ξ 5).2 r33]⟩, ⟨8, 9, fun ξ => [(b1, .cells #[.int .u64 a0, .int .u64 a0_1, .int .u32 a0_2, slcV A20 x19.length, slcV A7 r5.length, .int .i64 a0_5.Room, .int .i64 a0_5.Life, .int .i64 a0_5.Moves, .int .i64 a0_5.Window, .int .u64 a0_6.Mac, .int .u32 a0_6.Ip, .int .i64 a0_6.Room, .int .i64 a0_6.Life, .int .i64 a0_6.Pend, .int .i64 a0_6.Tries, .int .i64 a0_6.Apart, .int .i64 a0_7, slcV A02 a0_8.length, slcV (ξ 2).1 r30.length, .int .i64 a0_10, .bool a0_11] 73 (0, 0))], fun ξ => []⟩, ⟨10, 10, fun ξ => [(b1, .cells #[.int .u64 a0, .int .u64 a0_1, .int .u32 a0_2, slcV A20 x19.length, slcV A7 r5.length, .int .i64 a0_5.Room, .int .i64 a0_5.Life, .int .i64 a0_5.Moves, .int .i64 a0_5.Window, .int .u64 a0_6.Mac, .int .u32 a0_6.Ip, .int .i64 a0_6.Room, .int .i64 a0_6.Life, .int .i64 a0_6.Pend, .int .i64 a0_6.Tries, .int .i64 a0_6.Apart, .int .i64 a0_7, slcV (ξ 5).2 r33.length, slcV (ξ 2).1 r30.length, .int .i64 a0_10, .bool a0_11] 73 (0, 0))], fun ξ => []⟩] [⟨[], [], [], [], [], fun _ => .pointer (some ⟨b1, 18, none⟩), fun _ => []⟩, ⟨[0], [1], [1], [], [], fun _ => slcV A03 a0_9.length, fun _ => []⟩, ⟨[0, 1], [], [], [], [], fun ξ => slcV (ξ 2).1 r30.length, fun ξ => [Row 3 (pl api_Route.enc) noK (ξ 2).1 r30]⟩, ⟨[], [], [], [], [], fun _ => .pointer (some ⟨b1, 17, none⟩), fun _ => []⟩, ⟨[3], [1], [1], [], [], fun _ => slcV A02 a0_8.length, fun _ => []⟩, ⟨[0, 1, 2, 3, 4], [], [3], [], [], fun ξ => slcV (ξ 5).2 r33.length, fun ξ => [GIn api_Seg.inK (ξ 5).2 r33]⟩, ⟨[0, 1, 2, 3, 4], [], [], [], [], fun _ => .pointer (some ⟨b1, 18, none⟩), fun _ => []⟩, ⟨[0, 1, 2, 3, 4, 5, 6], [1], [4], [2], [], fun _ => .tuple #[], fun _ => []⟩, ⟨[0, 1, 2, 3, 4, 5, 6, 7], [], [], [], [], fun _ => .pointer (some ⟨b1, 17, none⟩), fun _ => []⟩, ⟨[0, 1, 2, 3, 4, 5, 6, 7, 8], [4], [5], [2, 5], [], fun _ => .tuple #[], fun _ => []⟩] (fun ξ => []) (fun ξ => [((b1 + 1), .cells #[.int .u64 0, .int .u64 0, .int .u32 0, .slice none 0 0, .slice none 0 0, .int .i64 0, .int .i64 0, .int .i64 0, .int .i64 0, .int .u64 0, .int .u32 0, .int .i64 0, .int .i64 0, .int .i64 0, .int .i64 0, .int .i64 0, .int .i64 0, .slice none 0 0, .slice none 0 0, .int .i64 0, .bool false] 73 (0, 0)), (b1, .cells #[.int .u64 a0, .int .u64 a0_1, .int .u32 a0_2, slcV A20 x19.length, slcV A7 r5.length, .int .i64 a0_5.Room, .int .i64 a0_5.Life, .int .i64 a0_5.Moves, .int .i64 a0_5.Window, .int .u64 a0_6.Mac, .int .u32 a0_6.Ip, .int .i64 a0_6.Room, .int .i64 a0_6.Life, .int .i64 a0_6.Pend, .int .i64 a0_6.Tries, .int .i64 a0_6.Apart, .int .i64 a0_7, slcV (ξ 5).2 r33.length, slcV (ξ 2).1 r30.length, .int .i64 a0_10, .bool a0_11] 73 (0, 0))]) (fun ξ => [OwnR 3 84 api_PortCfg.encS A20 x19, OwnR 3 93 api_Seg.encS (ξ 5).2 r33]) (fun ξ => [Row 3 (pl api_Route.enc) noK (ξ 2).1 r30, GIn api_Seg.inK (ξ 5).2 r33]) (AllN.cons ?_ (AllN.cons ?_ (AllN.cons ?_ (AllN.cons ?_ (AllN.cons ?_ (AllN.cons ?_ (AllN.cons ?_ (AllN.cons ?_ (AllN.cons ?_ (AllN.cons ?_ AllN.nil)))))))))) (AllN.cons (VAgr.c rfl) (AllN.cons (VAgr.c rfl) (AllN.cons (fun t ht ξ ξ' h => by cases ht; have e2 : ξ 2 = ξ' 2 := h 2 (memN_iff.1 rfl); exact ⟨by first | rfl | simp only [e2], by first | rfl | simp only [e2]⟩) (AllN.cons (VAgr.c rfl) (AllN.cons (VAgr.c rfl) (AllN.cons (fun t ht ξ ξ' h => by cases ht; have e5 : ξ 5 = ξ' 5 := h 5 (memN_iff.1 rfl); exact ⟨by first | rfl | simp only [e5], by first | rfl | simp only [e5]⟩) (AllN.cons (VAgr.c rfl) (AllN.cons (VAgr.c rfl) (AllN.cons (VAgr.c rfl) (AllN.cons (VAgr.c rfl) AllN.nil)))))))))) (AllN.cons (RAgr.c rfl) (AllN.cons (RAgr.c rfl) (AllN.cons (RAgr.c rfl) (AllN.cons (fun r hr ξ ξ' h => by cases hr; have e5 : ξ 5 = ξ' 5 := h 5 (memN_iff.1 rfl); exact ⟨by first | rfl | simp only [e5], by first | rfl | simp only [e5]⟩) (AllN.cons (fun r hr ξ ξ' h => by cases hr; have e2 : ξ 2 = ξ' 2 := h 2 (memN_iff.1 rfl); exact ⟨by first | rfl | simp only [e2], by first | rfl | simp only [e2]⟩) (AllN.cons (fun r hr ξ ξ' h => by cases hr; have e2 : ξ 2 = ξ' 2 := h 2 (memN_iff.1 rfl); have e5 : ξ 5 = ξ' 5 := h 5 (memN_iff.1 rfl); exact ⟨by first | rfl | simp only [e2, e5], by first | rfl | simp only [e2, e5]⟩) AllN.nil)))))) (fun ξ => ?_)
  ·
   intro o t ho ht ξ Gr Γr Lr Q hk
   cases ho; cases ht
   refine WL.rn 1 [] [(32, .pointer (some ⟨b1, 18, none⟩))] ?_
   exact WL.fin (hk default)
  ·
   intro o t ho ht ξ Gr Γr Lr Q hk
   cases ho; cases ht
   refine WL.rn 1 [0] [(33, slcV A03 a0_9.length)] ?_
   exact WL.fin (hk default)
  ·
   intro o t ho ht ξ Gr Γr Lr Q hk
   cases ho; cases ht
   refine WL.callX (F0 := [Row 3 (pl api_Route.enc) noK A03 a0_9]) [] [] [] (fun _ => _) [6] (by kernel_rfl) (api_Route_calls A03 a0_9 _ h31) rfl rfl (by kernel_rfl) (by kernel_rfl) (fun _ => rfl) (fun A32 => ?_)
   exact WL.fin (hk (A32, default))
  ·
   intro o t ho ht ξ Gr Γr Lr Q hk
   cases ho; cases ht
   refine WL.rn 1 [] [(35, .pointer (some ⟨b1, 17, none⟩))] ?_
   exact WL.fin (hk default)
  ·
   intro o t ho ht ξ Gr Γr Lr Q hk
   cases ho; cases ht
   refine WL.rn 1 [0] [(36, slcV A02 a0_8.length)] ?_
   exact WL.fin (hk default)
  ·
   intro o t ho ht ξ Gr Γr Lr Q hk
   cases ho; cases ht
   refine WL.callG (Gr := Gr) (F0 := [Row 3 api_Seg.encS api_Seg.inK A02 a0_8]) [] [] [] (fun _ => _) [6] (by kernel_rfl) (api_Seg_1_calls A02 a0_8 _ h34) rfl rfl (by kernel_rfl) (by kernel_rfl) (by kernel_rfl) (fun _ => rfl) (fun A35 => ?_)
   exact WL.fin (hk (default, A35))
  ·
   intro o t ho ht ξ Gr Γr Lr Q hk
   cases ho; cases ht
   refine WL.rn 1 [] [(38, .pointer (some ⟨b1, 18, none⟩))] ?_
   exact WL.fin (hk default)
  ·
   intro o t ho ht ξ Gr Γr Lr Q hk
   cases ho; cases ht
   refine WL.rh 1 [0] (fun _ => []) (fun _ => [(0, 18, [slcV (ξ 2).1 r30.length])]) (fun _ => []) (fun _ => ?_)
   exact WL.fin (hk default)
  ·
   intro o t ho ht ξ Gr Γr Lr Q hk
   cases ho; cases ht
   refine WL.rn 1 [] [(39, .pointer (some ⟨b1, 17, none⟩))] ?_
   exact WL.fin (hk default)
  ·
   intro o t ho ht ξ Gr Γr Lr Q hk
   cases ho; cases ht
   refine WL.rh 1 [0] (fun _ => []) (fun _ => [(0, 17, [slcV (ξ 5).2 r33.length])]) (fun _ => []) (fun _ => ?_)
   exact WL.fin (hk default)
  generalize (ξ 2).1 = A32
  generalize (ξ 5).2 = A35
  refine WP.less (Φ' := ([Row 3 (pl api_Route.enc) noK A32 r30, GIn api_Seg.inK A35 r33, GIn api_PortCfg.inK A20 x19, GIn api_PortCfg.inK A4 r2, Row 1 (pl encB) noK A7 r5, Row 3 api_PortCfg.encS api_PortCfg.inK A00 a0_3, Row 1 (pl encB) noK A01 a0_4, Row 3 api_Seg.encS api_Seg.inK A02 a0_8, Row 3 (pl api_Route.enc) noK A03 a0_9] ++ Glob)) (fun _ h => h) ?_
  refine WP.seq (WP.seq (WP.rn [1] [(41, slcV A35 r33.length), (42, .int .i64 (r33.length : Int)), (43, .int .i64 0)] ?_))
  refine WP.block ?_
  refine WP.sub [1, 2, 41, 42, 43] (L' := [(1, .pointer (some ⟨b1, 0, none⟩)), (2, .pointer (some ⟨(b1 + 1), 0, none⟩)), (41, slcV A35 r33.length), (42, .int .i64 (r33.length : Int)), (43, .int .i64 0)]) (by kernel_rfl) ?_
  refine WP.lessF [1, 0, 1, 2, 3, 4, 5, 6, 7, 8] (F' := [GIn api_Seg.inK A35 r33, Row 3 (pl api_Route.enc) noK A32 r30, GIn api_Seg.inK A35 r33, GIn api_PortCfg.inK A20 x19, GIn api_PortCfg.inK A4 r2, Row 1 (pl encB) noK A7 r5, Row 3 api_PortCfg.encS api_PortCfg.inK A00 a0_3, Row 1 (pl encB) noK A01 a0_4, Row 3 api_Seg.encS api_Seg.inK A02 a0_8, Row 3 (pl api_Route.enc) noK A03 a0_9]) (by kernel_rfl) ?_
  refine WP.pickG (G' := [OwnR 3 93 api_Seg.encS A35 r33, OwnR 3 84 api_PortCfg.encS A20 x19]) [1, 0] [] 2 rfl (by decide) (by kernel_rfl) ?_
  refine WP.loop (σ := Int × (List api_Seg) × SkL (SkL Unit)) (fun n st => vtep_copied.l2 r33 a0 a0_1 a0_2 x19 r5 a0_5 a0_6 a0_7 r30 a0_10 a0_11 n st.1 st.2.1) r (fun st => [(1, .pointer (some ⟨b1, 0, none⟩)), (2, .pointer (some ⟨(b1 + 1), 0, none⟩)), (41, slcV st.2.2 st.2.1.length), (42, .int .i64 (r33.length : Int)), (43, .int .i64 st.1)]) (fun st => Sat w Z [((b1 + 1), .cells #[.int .u64 0, .int .u64 0, .int .u32 0, .slice none 0 0, .slice none 0 0, .int .i64 0, .int .i64 0, .int .i64 0, .int .i64 0, .int .u64 0, .int .u32 0, .int .i64 0, .int .i64 0, .int .i64 0, .int .i64 0, .int .i64 0, .int .i64 0, .slice none 0 0, .slice none 0 0, .int .i64 0, .bool false] 73 (0, 0)), (b1, .cells #[.int .u64 a0, .int .u64 a0_1, .int .u32 a0_2, slcV A20 x19.length, slcV A7 r5.length, .int .i64 a0_5.Room, .int .i64 a0_5.Life, .int .i64 a0_5.Moves, .int .i64 a0_5.Window, .int .u64 a0_6.Mac, .int .u32 a0_6.Ip, .int .i64 a0_6.Room, .int .i64 a0_6.Life, .int .i64 a0_6.Pend, .int .i64 a0_6.Tries, .int .i64 a0_6.Apart, .int .i64 a0_7, slcV st.2.2 st.2.1.length, slcV A32 r30.length, .int .i64 a0_10, .bool a0_11] 73 (0, 0))] [OwnR 3 93 api_Seg.encS st.2.2 st.2.1, OwnR 3 84 api_PortCfg.encS A20 x19] ([GIn api_Seg.inK st.2.2 st.2.1, Row 3 (pl api_Route.enc) noK A32 r30, GIn api_Seg.inK A35 r33, GIn api_PortCfg.inK A20 x19, GIn api_PortCfg.inK A4 r2, Row 1 (pl encB) noK A7 r5, Row 3 api_PortCfg.encS api_PortCfg.inK A00 a0_3, Row 1 (pl encB) noK A01 a0_4, Row 3 api_Seg.encS api_Seg.inK A02 a0_8, Row 3 (pl api_Route.enc) noK A03 a0_9] ++ Glob)) (st := (0, r33, A35)) (fun n st hM => ?_) hM
  rcases n with _ | n
  ·exact nomatch (show (none : Option _) = some r from hM)
  obtain ⟨x46, x47, A48⟩ := st
  replace hM : vtep_copied.l2 r33 a0 a0_1 a0_2 x19 r5 a0_5 a0_6 a0_7 r30 a0_10 a0_11 (n + 1) x46 x47 = some r := hM
  rw [vtep_copied.l2] at hM
  try dsimp only
  refine WP.seq (WP.rn [] [(44, .bool (decide (x46 < (r33.length : Int))))] ?_)
  refine WP.seq ?_
  refine WP.cond (decide (x46 < (r33.length : Int))) rfl rfl (fun c49 => ?_) (fun c49 => ?_)
  ·replace hM := cond_t hM c49
   refine WP.skip (WP.seq (WP.block (WP.seq (WP.region (WL.rn 1 [] [(45, .int .i64 x46)] ?_)))))
   obtain ⟨t50, h51, hM⟩ := bind_some hM
   refine WL.valG (m := 3) (e := 93) (f := api_Seg.encS) (K := api_Seg.inK) (A := A48) (xs := x47) 0 (by kernel_rfl) (fun _ _ => rfl) (fact_at 0 rfl) (fun w hR => run_indexRowF (A := A48) (xs := x47) (i := x46) (k := .i64) (e := 93) (m := 3) (by kernel_rfl) (by kernel_rfl) h51 (by kernel_rfl) (by kernel_rfl) hR) (by kernel_rfl) (by kernel_rfl) rfl ?_
   refine WL.valG (m := 3) (e := 93) (f := api_Seg.encS) (K := api_Seg.inK) (A := A48) (xs := x47) 0 (by kernel_rfl) (fun _ _ => rfl) (fact_at 0 rfl) (fun w hR => run_loadRowFA (A := A48) (xs := x47) (i := x46) (j := 0) (n := 3) (vs := [.int .i64 t50.Vid, .int .i64 t50.Vni, slcV (A48.s (Int.toNat x46)) t50.Peers.length]) h51 (fun _ => by kernel_rfl) (by kernel_rfl) (by kernel_rfl) (by kernel_rfl) rfl hR) (by kernel_rfl) (by kernel_rfl) rfl ?_
   refine WL.know (Row 1 (pl (encI .u32)) noK (A48.s (Int.toNat x46)) t50.Peers) [0] [GIn api_Seg.inK A48 x47] (by kernel_rfl) (fun w hψ => (by have h_ := (hψ _ (List.mem_singleton.2 rfl)).get (getL_parts h51).2; rw [Nat.zero_add] at h_; exact h_)) ?_
   refine WL.rh 3 [2, 2, 2] (fun b52 => [(5, .int .i64 x46), (6, .pointer (some ⟨b52, 0, none⟩))]) (fun b52 => []) (fun b52 => [(b52, .cells #[.int .i64 t50.Vid, .int .i64 t50.Vni, slcV (A48.s (Int.toNat x46)) t50.Peers.length] 93 (0, 0))]) (fun b52 => ?_)
   refine WP.done ?_
   obtain ⟨r53, h54, hM⟩ := bind_some hM
   obtain ⟨t56, h57, hM⟩ := bind_some hM
   refine WP.rs [1, 2, 5, 6, 41, 42, 43, 44, 45, 46, 47] ?_
   refine WP.graphF (X := (SkL Unit)) 9 6 [⟨0, 9, fun _ => [((b1 + 1), .cells #[.int .u64 0, .int .u64 0, .int .u32 0, .slice none 0 0, .slice none 0 0, .int .i64 0, .int .i64 0, .int .i64 0, .int .i64 0, .int .u64 0, .int .u32 0, .int .i64 0, .int .i64 0, .int .i64 0, .int .i64 0, .int .i64 0, .int .i64 0, .slice none 0 0, .slice none 0 0, .int .i64 0, .bool false] 73 (0, 0))], fun _ => []⟩, ⟨0, 9, fun _ => [(b1, .cells #[.int .u64 a0, .int .u64 a0_1, .int .u32 a0_2, slcV A20 x19.length, slcV A7 r5.length, .int .i64 a0_5.Room, .int .i64 a0_5.Life, .int .i64 a0_5.Moves, .int .i64 a0_5.Window, .int .u64 a0_6.Mac, .int .u32 a0_6.Ip, .int .i64 a0_6.Room, .int .i64 a0_6.Life, .int .i64 a0_6.Pend, .int .i64 a0_6.Tries, .int .i64 a0_6.Apart, .int .i64 a0_7, slcV A48 x47.length, slcV A32 r30.length, .int .i64 a0_10, .bool a0_11] 73 (0, 0))], fun _ => []⟩, ⟨0, 9, fun _ => [(b52, .cells #[.int .i64 t50.Vid, .int .i64 t50.Vni, slcV (A48.s (Int.toNat x46)) t50.Peers.length] 93 (0, 0))], fun _ => []⟩, ⟨0, 8, fun _ => [], fun _ => [OwnR 3 93 api_Seg.encS A48 x47]⟩, ⟨0, 9, fun _ => [], fun _ => [OwnR 3 84 api_PortCfg.encS A20 x19]⟩, ⟨9, 9, fun ξ => [], fun ξ => [OwnR 3 93 api_Seg.encS (SkL.upd A48 (Int.toNat x46) (ξ 5)) (List.set x47 (Int.toNat x46) (api_Seg.mk t56.Vid t56.Vni r53))]⟩] [⟨[], [], [], [], [], fun _ => .pointer (some ⟨b1, 17, none⟩), fun _ => []⟩, ⟨[0], [1], [1], [], [], fun _ => slcV A48 x47.length, fun _ => []⟩, ⟨[], [], [], [], [], fun _ => .int .i64 x46, fun _ => []⟩, ⟨[], [], [], [], [], fun _ => .pointer (some ⟨b52, 2, none⟩), fun _ => []⟩, ⟨[3], [2], [2], [], [], fun _ => slcV (A48.s (Int.toNat x46)) t50.Peers.length, fun _ => []⟩, ⟨[3, 4], [], [], [], [], fun ξ => slcV (ξ 5) r53.length, fun ξ => [Row 1 (pl (encI .u32)) noK (ξ 5) r53]⟩, ⟨[0, 1, 2, 3, 4, 5], [3], [3], [], [], fun _ => ptrV A48 (Int.toNat x46 * 3), fun _ => []⟩, ⟨[0, 1, 2, 3, 4, 5, 6], [3], [3], [], [], fun _ => ptrV A48 (Int.toNat x46 * 3 + 2), fun _ => []⟩, ⟨[0, 1, 2, 3, 4, 5, 6, 7], [3], [5], [5], [], fun ξ => .tuple #[], fun ξ => [GIn api_Seg.inK (SkL.upd A48 (Int.toNat x46) (ξ 5)) (List.set x47 (Int.toNat x46) (api_Seg.mk t56.Vid t56.Vni r53))]⟩] (fun ξ => [(48, .pointer (some ⟨b1, 17, none⟩)), (49, slcV A48 x47.length), (50, .int .i64 x46), (51, .pointer (some ⟨b52, 2, none⟩)), (52, slcV (A48.s (Int.toNat x46)) t50.Peers.length), (53, slcV (ξ 5) r53.length)]) (fun ξ => [((b1 + 1), .cells #[.int .u64 0, .int .u64 0, .int .u32 0, .slice none 0 0, .slice none 0 0, .int .i64 0, .int .i64 0, .int .i64 0, .int .i64 0, .int .u64 0, .int .u32 0, .int .i64 0, .int .i64 0, .int .i64 0, .int .i64 0, .int .i64 0, .int .i64 0, .slice none 0 0, .slice none 0 0, .int .i64 0, .bool false] 73 (0, 0)), (b1, .cells #[.int .u64 a0, .int .u64 a0_1, .int .u32 a0_2, slcV A20 x19.length, slcV A7 r5.length, .int .i64 a0_5.Room, .int .i64 a0_5.Life, .int .i64 a0_5.Moves, .int .i64 a0_5.Window, .int .u64 a0_6.Mac, .int .u32 a0_6.Ip, .int .i64 a0_6.Room, .int .i64 a0_6.Life, .int .i64 a0_6.Pend, .int .i64 a0_6.Tries, .int .i64 a0_6.Apart, .int .i64 a0_7, slcV A48 x47.length, slcV A32 r30.length, .int .i64 a0_10, .bool a0_11] 73 (0, 0)), (b52, .cells #[.int .i64 t50.Vid, .int .i64 t50.Vni, slcV (A48.s (Int.toNat x46)) t50.Peers.length] 93 (0, 0))]) (fun ξ => [OwnR 3 84 api_PortCfg.encS A20 x19, OwnR 3 93 api_Seg.encS (SkL.upd A48 (Int.toNat x46) (ξ 5)) (List.set x47 (Int.toNat x46) (api_Seg.mk t56.Vid t56.Vni r53))]) (fun ξ => [Row 1 (pl (encI .u32)) noK (ξ 5) r53, GIn api_Seg.inK (SkL.upd A48 (Int.toNat x46) (ξ 5)) (List.set x47 (Int.toNat x46) (api_Seg.mk t56.Vid t56.Vni r53))]) (AllN.cons ?_ (AllN.cons ?_ (AllN.cons ?_ (AllN.cons ?_ (AllN.cons ?_ (AllN.cons ?_ (AllN.cons ?_ (AllN.cons ?_ (AllN.cons ?_ AllN.nil))))))))) (AllN.cons (VAgr.c rfl) (AllN.cons (VAgr.c rfl) (AllN.cons (VAgr.c rfl) (AllN.cons (VAgr.c rfl) (AllN.cons (VAgr.c rfl) (AllN.cons (fun t ht ξ ξ' h => by cases ht; have e5 : ξ 5 = ξ' 5 := h 5 (memN_iff.1 rfl); exact ⟨by first | rfl | simp only [e5], by first | rfl | simp only [e5]⟩) (AllN.cons (VAgr.c rfl) (AllN.cons (VAgr.c rfl) (AllN.cons (fun t ht ξ ξ' h => by cases ht; have e5 : ξ 5 = ξ' 5 := h 5 (memN_iff.1 rfl); exact ⟨by first | rfl | simp only [e5], by first | rfl | simp only [e5]⟩) AllN.nil))))))))) (AllN.cons (RAgr.c rfl) (AllN.cons (RAgr.c rfl) (AllN.cons (RAgr.c rfl) (AllN.cons (RAgr.c rfl) (AllN.cons (RAgr.c rfl) (AllN.cons (fun r hr ξ ξ' h => by cases hr; have e5 : ξ 5 = ξ' 5 := h 5 (memN_iff.1 rfl); exact ⟨by first | rfl | simp only [e5], by first | rfl | simp only [e5]⟩) AllN.nil)))))) (fun ξ => ?_)
   ·
    intro o t ho ht ξ Gr Γr Lr Q hk
    cases ho; cases ht
    refine WL.rn 1 [] [(48, .pointer (some ⟨b1, 17, none⟩))] ?_
    exact WL.fin (hk default)
   ·
    intro o t ho ht ξ Gr Γr Lr Q hk
    cases ho; cases ht
    refine WL.rn 1 [0] [(49, slcV A48 x47.length)] ?_
    exact WL.fin (hk default)
   ·
    intro o t ho ht ξ Gr Γr Lr Q hk
    cases ho; cases ht
    refine WL.rn 1 [] [(50, .int .i64 x46)] ?_
    exact WL.fin (hk default)
   ·
    intro o t ho ht ξ Gr Γr Lr Q hk
    cases ho; cases ht
    refine WL.rn 1 [] [(51, .pointer (some ⟨b52, 2, none⟩))] ?_
    exact WL.fin (hk default)
   ·
    intro o t ho ht ξ Gr Γr Lr Q hk
    cases ho; cases ht
    refine WL.rn 1 [0] [(52, slcV (A48.s (Int.toNat x46)) t50.Peers.length)] ?_
    exact WL.fin (hk default)
   ·
    intro o t ho ht ξ Gr Γr Lr Q hk
    cases ho; cases ht
    refine WL.callX (F0 := [Row 1 (pl (encI .u32)) noK (A48.s (Int.toNat x46)) t50.Peers]) [] [] [] (fun _ => _) [0] (by kernel_rfl) (slices_Clone_uint32_uint32_calls (A48.s (Int.toNat x46)) t50.Peers _ h54) rfl rfl (by kernel_rfl) (by kernel_rfl) (fun _ => rfl) (fun A55 => ?_)
    exact WL.fin (hk A55)
   ·
    intro o t ho ht ξ Gr Γr Lr Q hk
    cases ho; cases ht
    refine WL.valG (m := 3) (e := 93) (f := api_Seg.encS) (K := api_Seg.inK) (A := A48) (xs := x47) 0 (by kernel_rfl) (fun _ _ => rfl) (fact_at 2 rfl) (fun w hR => run_indexRowF (A := A48) (xs := x47) (i := x46) (k := .i64) (e := 93) (m := 3) (by kernel_rfl) (by kernel_rfl) h57 (by kernel_rfl) (by kernel_rfl) hR) (by kernel_rfl) (by kernel_rfl) rfl ?_
    exact WL.fin (hk default)
   ·
    intro o t ho ht ξ Gr Γr Lr Q hk
    cases ho; cases ht
    refine WL.valG (m := 3) (e := 93) (f := api_Seg.encS) (K := api_Seg.inK) (A := A48) (xs := x47) 0 (by kernel_rfl) (fun _ _ => rfl) (fact_at 2 rfl) (fun w hR => run_fieldRowF (A := A48) (xs := x47) (i := x46) (n := Int.toNat x46 * 3 + 0) (n' := Int.toNat x46 * 3 + 2) h57 (by kernel_rfl) (fun _ _ => by kernel_rfl) hR) (by kernel_rfl) (by kernel_rfl) rfl ?_
    exact WL.fin (hk default)
   ·
    intro o t ho ht ξ Gr Γr Lr Q hk
    cases ho; cases ht
    refine WL.setS (G' := Gr) (m := 3) (e := 93) (n := 1) (off := 2) (f := api_Seg.encS) (K := api_Seg.inK) (A := A48) (xs := x47) (i := x46) (u := t56) (r := (api_Seg.mk t56.Vid t56.Vni r53)) (s' := (ξ 5)) (v := slcV (ξ 5) r53.length) (Ψ := [Row 1 (pl (encI .u32)) noK (ξ 5) r53]) 0 [0] (fun _ => by kernel_rfl) (by kernel_rfl) (by kernel_rfl) (by kernel_rfl) (by kernel_rfl) (by kernel_rfl) (by kernel_rfl) (by kernel_rfl) (by kernel_rfl) h57 (by kernel_rfl) (by kernel_rfl) (fun _ _ => rfl) (fact_at 2 rfl) (by kernel_rfl) (fun w hK hψ => hψ _ (List.mem_of_getElem? (i := 0) rfl)) (by kernel_rfl) ?_
    refine WL.less (Φ' := (([GIn api_Seg.inK (SkL.upd A48 (Int.toNat x46) (ξ 5)) (List.set x47 (Int.toNat x46) (api_Seg.mk t56.Vid t56.Vni r53)), Row 1 (pl (encI .u32)) noK (ξ 5) r53, Row 1 (pl (encI .u32)) noK (A48.s (Int.toNat x46)) t50.Peers, GIn api_Seg.inK A48 x47, Row 3 (pl api_Route.enc) noK A32 r30, GIn api_Seg.inK A35 r33, GIn api_PortCfg.inK A20 x19, GIn api_PortCfg.inK A4 r2, Row 1 (pl encB) noK A7 r5, Row 3 api_PortCfg.encS api_PortCfg.inK A00 a0_3, Row 1 (pl encB) noK A01 a0_4, Row 3 api_Seg.encS api_Seg.inK A02 a0_8, Row 3 (pl api_Route.enc) noK A03 a0_9] ++ Γr) ++ Glob)) (fun _ h => h) ?_
    exact WL.fin (hk default)
   generalize (ξ 5) = A55
   refine WP.less (Φ' := ([Row 1 (pl (encI .u32)) noK A55 r53, GIn api_Seg.inK (SkL.upd A48 (Int.toNat x46) A55) (List.set x47 (Int.toNat x46) (api_Seg.mk t56.Vid t56.Vni r53)), Row 1 (pl (encI .u32)) noK (A48.s (Int.toNat x46)) t50.Peers, GIn api_Seg.inK A48 x47, Row 3 (pl api_Route.enc) noK A32 r30, GIn api_Seg.inK A35 r33, GIn api_PortCfg.inK A20 x19, GIn api_PortCfg.inK A4 r2, Row 1 (pl encB) noK A7 r5, Row 3 api_PortCfg.encS api_PortCfg.inK A00 a0_3, Row 1 (pl encB) noK A01 a0_4, Row 3 api_Seg.encS api_Seg.inK A02 a0_8, Row 3 (pl api_Route.enc) noK A03 a0_9] ++ Glob)) (fun _ h => h) ?_
   refine WP.retell (L1 := [(1, .pointer (some ⟨b1, 0, none⟩)), (2, .pointer (some ⟨(b1 + 1), 0, none⟩)), (5, .int .i64 x46), (6, .pointer (some ⟨b52, 0, none⟩)), (41, slcV A48 x47.length), (42, .int .i64 (r33.length : Int)), (43, .int .i64 x46), (44, .bool (decide (x46 < (r33.length : Int)))), (45, .int .i64 x46), (47, .agg #[.int .i64 t50.Vid, .int .i64 t50.Vni, slcV (A48.s (Int.toNat x46)) t50.Peers.length]), (48, .pointer (some ⟨b1, 17, none⟩)), (49, slcV A48 x47.length), (50, .int .i64 x46), (51, .pointer (some ⟨b52, 2, none⟩)), (52, slcV (A48.s (Int.toNat x46)) t50.Peers.length), (53, slcV A55 r53.length)]) (L' := [(1, .pointer (some ⟨b1, 0, none⟩)), (2, .pointer (some ⟨(b1 + 1), 0, none⟩)), (5, .int .i64 x46), (6, .pointer (some ⟨b52, 0, none⟩)), (41, slcV (SkL.upd A48 (Int.toNat x46) A55) (List.set x47 (Int.toNat x46) (api_Seg.mk t56.Vid t56.Vni r53)).length), (42, .int .i64 (r33.length : Int)), (43, .int .i64 x46), (44, .bool (decide (x46 < (r33.length : Int)))), (45, .int .i64 x46), (47, .agg #[.int .i64 t50.Vid, .int .i64 t50.Vni, slcV (A48.s (Int.toNat x46)) t50.Peers.length]), (48, .pointer (some ⟨b1, 17, none⟩)), (49, slcV (SkL.upd A48 (Int.toNat x46) A55) (List.set x47 (Int.toNat x46) (api_Seg.mk t56.Vid t56.Vni r53)).length), (50, .int .i64 x46), (51, .pointer (some ⟨b52, 2, none⟩)), (52, slcV (A48.s (Int.toNat x46)) t50.Peers.length), (53, slcV A55 r53.length)]) (H' := [((b1 + 1), .cells #[.int .u64 0, .int .u64 0, .int .u32 0, .slice none 0 0, .slice none 0 0, .int .i64 0, .int .i64 0, .int .i64 0, .int .i64 0, .int .u64 0, .int .u32 0, .int .i64 0, .int .i64 0, .int .i64 0, .int .i64 0, .int .i64 0, .int .i64 0, .slice none 0 0, .slice none 0 0, .int .i64 0, .bool false] 73 (0, 0)), (b1, .cells #[.int .u64 a0, .int .u64 a0_1, .int .u32 a0_2, slcV A20 x19.length, slcV A7 r5.length, .int .i64 a0_5.Room, .int .i64 a0_5.Life, .int .i64 a0_5.Moves, .int .i64 a0_5.Window, .int .u64 a0_6.Mac, .int .u32 a0_6.Ip, .int .i64 a0_6.Room, .int .i64 a0_6.Life, .int .i64 a0_6.Pend, .int .i64 a0_6.Tries, .int .i64 a0_6.Apart, .int .i64 a0_7, slcV (SkL.upd A48 (Int.toNat x46) A55) (List.set x47 (Int.toNat x46) (api_Seg.mk t56.Vid t56.Vni r53)).length, slcV A32 r30.length, .int .i64 a0_10, .bool a0_11] 73 (0, 0)), (b52, .cells #[.int .i64 t50.Vid, .int .i64 t50.Vni, slcV (A48.s (Int.toNat x46)) t50.Peers.length] 93 (0, 0))]) [1, 2, 5, 6, 41, 42, 43, 44, 45, 47, 48, 49, 50, 51, 52, 53] (by kernel_rfl) (by first | rfl | simp only [List.length_set, slcV_upd]) (by first | rfl | simp only [List.length_set, slcV_upd]) ?_
   refine WP.leave (WP.rn [] [(43, .int .i64 (i64 (x46 + 1))), (56, .int .i64 (i64 (x46 + 1)))] ?_)
   exact WP.again' [1, 2, 41, 42, 43] (i64 (x46 + 1), (List.set x47 (Int.toNat x46) (api_Seg.mk t56.Vid t56.Vni r53)), (SkL.upd A48 (Int.toNat x46) A55)) hM (by kernel_rfl) (fun _ h => ((h.pick [0, 1] (by kernel_rfl)).lessF [1, 4, 5, 6, 7, 8, 9, 10, 11, 12] (by kernel_rfl)).pickG [1, 0] [] 2 rfl (by decide) (by kernel_rfl))
  ·replace hM := cond_f hM c49
   refine WP.exit rfl (WP.seq ?_)
   refine WP.rh [1, 1, 1, 1, 1, 1, 1, 1, 1, 1, 1, 1, 1, 1, 1, 1, 1, 1, 1, 1, 1, 0, 0, 0, 0, 0, 0, 0, 0, 0, 0, 0, 0, 0, 0, 0, 0, 0, 0, 0, 0, 0] (fun _ => []) (fun _ => [(0, 0, [.int .u64 a0, .int .u64 a0_1, .int .u32 a0_2, slcV A20 x19.length, slcV A7 r5.length, .int .i64 a0_5.Room, .int .i64 a0_5.Life, .int .i64 a0_5.Moves, .int .i64 a0_5.Window, .int .u64 a0_6.Mac, .int .u32 a0_6.Ip, .int .i64 a0_6.Room, .int .i64 a0_6.Life, .int .i64 a0_6.Pend, .int .i64 a0_6.Tries, .int .i64 a0_6.Apart, .int .i64 a0_7, slcV A48 x47.length, slcV A32 r30.length, .int .i64 a0_10, .bool a0_11])]) (fun _ => []) (fun _ => ?_)
   refine WP.kp [true, false] ?_
   refine WP.growIce (G' := [OwnR 3 93 api_Seg.encS A48 x47]) (m := 3) (e := 84) (f := api_PortCfg.encS) (K := api_PortCfg.inK) (A := A20) (xs := x19) 1 3 (by kernel_rfl) (by kernel_rfl) (fun _ _ => rfl) (by kernel_rfl) ?_
   refine WP.growIce (G' := []) (m := 3) (e := 93) (f := api_Seg.encS) (K := api_Seg.inK) (A := A48) (xs := x47) 0 1 (by kernel_rfl) (by kernel_rfl) (fun _ _ => rfl) (by kernel_rfl) ?_
   obtain rfl := Option.some.inj hM
   exact WP.ret [0, 0, 0, 0, 0, 0, 0, 0, 0, 0, 0, 0, 0, 0, 0, 0, 0, 0, 0, 0, 0] [(b1 + 1), (b1 + 1), (b1 + 1), (b1 + 1), (b1 + 1), (b1 + 1), (b1 + 1), (b1 + 1), (b1 + 1), (b1 + 1), (b1 + 1), (b1 + 1), (b1 + 1), (b1 + 1), (b1 + 1), (b1 + 1), (b1 + 1), (b1 + 1), (b1 + 1), (b1 + 1), (b1 + 1)] (.agg #[.int .u64 a0, .int .u64 a0_1, .int .u32 a0_2, slcV A20 x19.length, slcV A7 r5.length, .int .i64 a0_5.Room, .int .i64 a0_5.Life, .int .i64 a0_5.Moves, .int .i64 a0_5.Window, .int .u64 a0_6.Mac, .int .u32 a0_6.Ip, .int .i64 a0_6.Room, .int .i64 a0_6.Life, .int .i64 a0_6.Pend, .int .i64 a0_6.Tries, .int .i64 a0_6.Apart, .int .i64 a0_7, slcV A48 x47.length, slcV A32 r30.length, .int .i64 a0_10, .bool a0_11]) (by kernel_rfl) (fun w' hw => ⟨(A20, A7, A48, A32), rfl, (hw.pick [] (by kernel_rfl)).less (sub_ret [1, 7, 0, 3] [8, 9, 10, 11] (by kernel_rfl) (by kernel_rfl))⟩)
def bits_Mul64.f (a0 : Int) (a1 : Int) : Option (Int × Int) :=
 some (u64 ((u64 ((u64 ((Int.fdiv a0 4294967296) * (Int.fdiv a1 4294967296))) + (Int.fdiv (u64 ((u64 ((Int.fdiv a0 4294967296) * (bAnd .u64 a1 4294967295))) + (Int.fdiv (u64 ((bAnd .u64 a0 4294967295) * (bAnd .u64 a1 4294967295))) 4294967296))) 4294967296))) + (Int.fdiv (u64 ((bAnd .u64 (u64 ((u64 ((Int.fdiv a0 4294967296) * (bAnd .u64 a1 4294967295))) + (Int.fdiv (u64 ((bAnd .u64 a0 4294967295) * (bAnd .u64 a1 4294967295))) 4294967296))) 4294967295) + (u64 ((bAnd .u64 a0 4294967295) * (Int.fdiv a1 4294967296))))) 4294967296)), u64 (a0 * a1))
theorem bits_Mul64_calls (a0 : Int) (a1 : Int) (r : Int × Int) (h : bits_Mul64.f a0 a1 = some r) : Pure Tryz.prog Glob 132 #[.int .u64 a0, .int .u64 a1] (.tuple #[.int .u64 r.1, .int .u64 r.2]) := by
 intro w Z hS
 refine callsS (args := [.int .u64 a0, .int .u64 a1]) (L := [(0, .int .u64 a0), (1, .int .u64 a1)]) (N := 51) Tryz.func132 hS ?_
 have hM := h
 clear h hS
 unfold bits_Mul64.f at hM
 refine WP.seq (WP.rn [] [(4, .int .u64 0), (5, .int .u64 0)] ?_)
 refine WP.seq (WP.rn [] [(6, .int .u64 (bAnd .u64 a0 4294967295))] ?_)
 refine WP.seq (WP.rn [] [(7, .int .u64 (Int.fdiv a0 4294967296))] ?_)
 refine WP.seq (WP.rn [] [(8, .int .u64 (bAnd .u64 a1 4294967295))] ?_)
 refine WP.seq (WP.rn [] [(9, .int .u64 (Int.fdiv a1 4294967296))] ?_)
 refine WP.seq (WP.rn [] [(10, .int .u64 (u64 ((bAnd .u64 a0 4294967295) * (bAnd .u64 a1 4294967295))))] ?_)
 refine WP.seq (WP.rn [] [(11, .int .u64 (u64 ((u64 ((Int.fdiv a0 4294967296) * (bAnd .u64 a1 4294967295))) + (Int.fdiv (u64 ((bAnd .u64 a0 4294967295) * (bAnd .u64 a1 4294967295))) 4294967296))))] ?_)
 refine WP.seq (WP.rn [] [(12, .int .u64 (bAnd .u64 (u64 ((u64 ((Int.fdiv a0 4294967296) * (bAnd .u64 a1 4294967295))) + (Int.fdiv (u64 ((bAnd .u64 a0 4294967295) * (bAnd .u64 a1 4294967295))) 4294967296))) 4294967295))] ?_)
 refine WP.seq (WP.rn [] [(13, .int .u64 (Int.fdiv (u64 ((u64 ((Int.fdiv a0 4294967296) * (bAnd .u64 a1 4294967295))) + (Int.fdiv (u64 ((bAnd .u64 a0 4294967295) * (bAnd .u64 a1 4294967295))) 4294967296))) 4294967296))] ?_)
 refine WP.seq (WP.rn [] [(12, .int .u64 (u64 ((bAnd .u64 (u64 ((u64 ((Int.fdiv a0 4294967296) * (bAnd .u64 a1 4294967295))) + (Int.fdiv (u64 ((bAnd .u64 a0 4294967295) * (bAnd .u64 a1 4294967295))) 4294967296))) 4294967295) + (u64 ((bAnd .u64 a0 4294967295) * (Int.fdiv a1 4294967296))))))] ?_)
 refine WP.seq (WP.rn [] [(4, .int .u64 (u64 ((u64 ((u64 ((Int.fdiv a0 4294967296) * (Int.fdiv a1 4294967296))) + (Int.fdiv (u64 ((u64 ((Int.fdiv a0 4294967296) * (bAnd .u64 a1 4294967295))) + (Int.fdiv (u64 ((bAnd .u64 a0 4294967295) * (bAnd .u64 a1 4294967295))) 4294967296))) 4294967296))) + (Int.fdiv (u64 ((bAnd .u64 (u64 ((u64 ((Int.fdiv a0 4294967296) * (bAnd .u64 a1 4294967295))) + (Int.fdiv (u64 ((bAnd .u64 a0 4294967295) * (bAnd .u64 a1 4294967295))) 4294967296))) 4294967295) + (u64 ((bAnd .u64 a0 4294967295) * (Int.fdiv a1 4294967296))))) 4294967296))))] ?_)
 refine WP.seq (WP.rn [] [(5, .int .u64 (u64 (a0 * a1)))] ?_)
 obtain rfl := Option.some.inj hM
 exact WP.retQ [] []
def bits_Mul.f (a0 : Int) (a1 : Int) : Option (Int × Int) :=
 (bits_Mul64.f a0 a1).bind fun (r1, r2) =>
 some (r1, r2)
theorem bits_Mul_calls (a0 : Int) (a1 : Int) (r : Int × Int) (h : bits_Mul.f a0 a1 = some r) : Pure Tryz.prog Glob 92 #[.int .u64 a0, .int .u64 a1] (.tuple #[.int .u64 r.1, .int .u64 r.2]) := by
 intro w Z hS
 refine callsS (args := [.int .u64 a0, .int .u64 a1]) (L := [(0, .int .u64 a0), (1, .int .u64 a1)]) (N := 30) Tryz.func92 hS ?_
 have hM := h
 clear h hS
 unfold bits_Mul.f at hM
 refine WP.seq (WP.rn [] [(4, .int .u64 0), (5, .int .u64 0)] ?_)
 refine WP.seq (WP.no rfl rfl (WP.skip (WP.seq (WP.region (WL.rn 2 [] [(23, .int .u64 a0), (24, .int .u64 a1)] ?_)))))
 obtain ⟨⟨r1, r2⟩, h3, hM⟩ := bind_some hM
 dsimp only at hM
 refine WL.callP [] [] (bits_Mul64_calls a0 a1 _ h3) (fun _ h => h) (by kernel_rfl) (by kernel_rfl) rfl ?_
 refine WL.rn 5 [] [(8, .int .u64 r1), (9, .int .u64 r2)] ?_
 refine WP.done (WP.seq (WP.rn [] [(4, .int .u64 r1), (5, .int .u64 r2)] ?_))
 obtain rfl := Option.some.inj hM
 exact WP.retQ [] []
def slices_Repeat_int_int.l1 (t6 : Nat) : Nat → Int → (List Int) → Option ((List Int))
 | 0, _, _ => none
 | n + 1, x19, x20 =>
  bif decide (x19 < (t6 : Int)) then
   (cutLo t6 t6 x19).bind fun t22 =>
   (cutHi t6 x19).bind fun t24 =>
   (copyB x20 (0 + Int.toNat x19 * 1) t22 (0) t24).bind fun t26 =>
   slices_Repeat_int_int.l1 t6 n (i64 (x19 + (min (t24 : Int) (t22 : Int)))) t26
  else
   (lenIs x20 t6 t6).bind fun u29 =>
   some x20
def slices_Repeat_int_int.f (k : Nat) (a0 : (List Int)) (a1 : Int) : Option ((List Int)) :=
 bif decide (a1 < 0) then
  none
 else
  (bits_Mul.f (u64 (a0.length : Int)) (u64 a1)).bind fun (r2, r3) =>
  bif ((decide (r2 > 0)) || (decide (r3 > 9223372036854775807))) then
   none
  else
   (mkLen 8 (i64 r3)).bind fun t6 =>
   (copyF (List.replicate t6 0) (0) t6 a0).bind fun t9 =>
   slices_Repeat_int_int.l1 t6 k (min (a0.length : Int) (t6 : Int)) t9
theorem slices_Repeat_int_int_calls (k : Nat) (A00 : SkL Unit) (a0 : (List Int)) (a1 : Int) (r : (List Int)) (h : slices_Repeat_int_int.f k a0 a1 = some r) : Does Tryz.prog 52 #[slcV A00 a0.length, .int .i64 a1] [] ([Row 1 (pl (encI .i64)) noK A00 a0] ++ Glob) (fun x : (SkL Unit) => slcV x r.length) (fun x => []) (fun _ => []) (fun x => [Row 1 (pl (encI .i64)) noK x r] ++ ([Row 1 (pl (encI .i64)) noK A00 a0] ++ Glob)) := by
 intro w Z hS
 refine callsS (args := [slcV A00 a0.length, .int .i64 a1]) (L := [(0, slcV A00 a0.length), (1, .int .i64 a1)]) (N := 48) Tryz.func52 hS ?_
 have hM := h
 clear h hS
 unfold slices_Repeat_int_int.f at hM
 refine WP.seq (WP.rn [] [(4, .slice none 0 0)] ?_)
 refine WP.seq (WP.seq (WP.rn [] [(10, .bool (decide (a1 < 0)))] ?_))
 refine WP.cond (decide (a1 < 0)) rfl rfl (fun c1 => ?_) (fun c1 => ?_)
 ·replace hM := cond_t hM c1
  refine WP.region ?_
  refine WL.rn 1 [] [(11, .iface 9 (.string (⟨#[99, 97, 110, 110, 111, 116, 32, 98, 101, 32, 110, 101, 103, 97, 116, 105, 118, 101]⟩ : ByteArray)))] ?_
  exact absurd hM (by simp)
 ·replace hM := cond_f hM c1
  refine WP.skip (WP.seq (WP.region (WL.rn 5 [] [(15, .int .u64 (u64 (a0.length : Int))), (17, .int .u64 (u64 a1))] ?_)))
  obtain ⟨⟨r2, r3⟩, h4, hM⟩ := bind_some hM
  dsimp only at hM
  refine WL.callP [] [] (bits_Mul_calls (u64 (a0.length : Int)) (u64 a1) _ h4) (fun _ h => List.mem_append_right _ h) (by kernel_rfl) (by kernel_rfl) rfl ?_
  refine WL.rn 5 [] [(5, .int .u64 r2), (6, .int .u64 r3)] ?_
  refine WP.done (WP.seq (WP.seq (WP.region (WL.rn 3 [] [(23, .bool (decide (r2 > 0)))] ?_))))
  refine WL.bo 23 (decide (r2 > 0)) 3 [] [] (fun b' => [(26, .bool (b' || (decide (r3 > 9223372036854775807))))]) ?_
  refine WP.done ?_
  refine WP.cond ((decide (r2 > 0)) || (decide (r3 > 9223372036854775807))) rfl rfl (fun c5 => ?_) (fun c5 => ?_)
  ·replace hM := cond_t hM c5
   refine WP.region ?_
   refine WL.rn 1 [] [(27, .iface 9 (.string (⟨#[116, 104, 101, 32, 114, 101, 115, 117, 108, 116, 32, 111, 102, 32, 40, 108, 101, 110, 40, 120, 41, 32, 42, 32, 99, 111, 117, 110, 116, 41, 32, 111, 118, 101, 114, 102, 108, 111, 119, 115]⟩ : ByteArray)))] ?_
   exact absurd hM (by simp)
  ·replace hM := cond_f hM c5
   refine WP.skip (WP.seq (WP.region (WL.rn 2 [] [(29, .int .i64 (i64 r3))] ?_)))
   obtain ⟨t6, h7, hM⟩ := bind_some hM
   refine WL.makeSlice (f := (encI .i64)) (z := 0) (zv := .int .i64 0) (i := i64 r3) (k := .i64) (e := 3) (by kernel_rfl) (by kernel_rfl) rfl Nat.zero_lt_one (fun _ => rfl) (by kernel_rfl) (by kernel_rfl) h7 (by kernel_rfl) rfl (fun b8 => ?_)
   refine WL.rn 1 [] [(7, .slice (some ⟨b8, 0, none⟩) t6 t6)] ?_
   refine WP.done (WP.seq (WP.region ?_))
   refine WL.rn 2 [] [(31, .slice (some ⟨b8, 0, none⟩) t6 t6), (32, slcV A00 a0.length)] ?_
   obtain ⟨t9, h10, hM⟩ := bind_some hM
   refine WL.copyF (b := b8) (off := 0) (n := t6) (c := t6) (e := 3) (d := 33) (ys := (List.replicate t6 0)) (zs := t9) (f := (encI .i64)) (K := noK) (A := A00) (xs := a0) 0 rfl rfl (by kernel_rfl) (by kernel_rfl) (by kernel_rfl) (fun _ => rfl) (fun _ => rfl) (by kernel_rfl) (by kernel_rfl) (by kernel_rfl) (by kernel_rfl) (fact_at 0 rfl) h10 (by kernel_rfl) ?_
   refine WL.rn 1 [] [(8, .int .i64 (min (a0.length : Int) (t6 : Int)))] ?_
   refine WP.done (WP.seq (WP.block ?_))
   refine WP.sub [4, 7, 8] (L' := [(4, .slice none 0 0), (7, .slice (some ⟨b8, 0, none⟩) t6 t6), (8, .int .i64 (min (a0.length : Int) (t6 : Int)))]) (by kernel_rfl) ?_
   refine WP.lessF [0] (F' := [Row 1 (pl (encI .i64)) noK A00 a0]) (by kernel_rfl) ?_
   refine WP.loop (σ := Int × (List Int)) (fun n st => slices_Repeat_int_int.l1 t6 n st.1 st.2) r (fun st => [(4, .slice none 0 0), (7, .slice (some ⟨b8, 0, none⟩) t6 t6), (8, .int .i64 st.1)]) (fun st => Sat w Z [(b8, .cells (rowF (encI .i64) st.2) 3 (0, 0))] [] ([Row 1 (pl (encI .i64)) noK A00 a0] ++ Glob)) (st := ((min (a0.length : Int) (t6 : Int)), t9)) (fun n st hM => ?_) hM
   rcases n with _ | n
   ·exact nomatch (show (none : Option _) = some r from hM)
   obtain ⟨x19, x20⟩ := st
   replace hM : slices_Repeat_int_int.l1 t6 (n + 1) x19 x20 = some r := hM
   rw [slices_Repeat_int_int.l1] at hM
   try dsimp only
   refine WP.seq (WP.seq ?_)
   refine WP.rn [] [(34, .int .i64 x19), (35, .slice (some ⟨b8, 0, none⟩) t6 t6), (36, .int .i64 (t6 : Int)), (37, .bool (decide (x19 < (t6 : Int))))] ?_
   refine WP.cond (decide (x19 < (t6 : Int))) rfl rfl (fun c21 => ?_) (fun c21 => ?_)
   ·replace hM := cond_t hM c21
    refine WP.skip (WP.block ?_)
    obtain ⟨t22, h23, hM⟩ := bind_some hM
    obtain ⟨t24, h25, hM⟩ := bind_some hM
    obtain ⟨t26, h27, hM⟩ := bind_some hM
    refine WP.rs [4, 7, 8, 34, 35, 36, 37] ?_
    refine WP.graphF (X := Unit) 10 2 [⟨0, 7, fun _ => [(b8, .cells (rowF (encI .i64) x20) 3 (0, 0))], fun _ => []⟩, ⟨8, 10, fun _ => [(b8, .cells (rowF (encI .i64) t26) 3 (0, 0))], fun _ => []⟩] [⟨[], [], [], [], [], fun _ => .int .i64 x19, fun _ => []⟩, ⟨[], [], [], [], [], fun _ => .slice (some ⟨b8, 0, none⟩) t6 t6, fun _ => []⟩, ⟨[], [], [], [], [], fun _ => .int .i64 x19, fun _ => []⟩, ⟨[1, 2], [0], [0], [], [], fun _ => .slice (some ⟨b8, 0 + Int.toNat x19 * 1, none⟩) t22 (t6 - Int.toNat x19), fun _ => []⟩, ⟨[], [], [], [], [], fun _ => .slice (some ⟨b8, 0, none⟩) t6 t6, fun _ => []⟩, ⟨[], [], [], [], [], fun _ => .int .i64 x19, fun _ => []⟩, ⟨[4, 5], [0], [0], [], [], fun _ => .slice (some ⟨b8, 0, none⟩) t24 t6, fun _ => []⟩, ⟨[1, 2, 3, 4, 5, 6], [0], [1], [], [], fun _ => .int .i64 (min (t24 : Int) (t22 : Int)), fun _ => []⟩, ⟨[0, 1, 2, 3, 4, 5, 6, 7], [], [], [], [], fun _ => .int .i64 (i64 (x19 + (min (t24 : Int) (t22 : Int)))), fun _ => []⟩, ⟨[0, 1, 2, 3, 4, 5, 6, 7, 8], [], [], [], [], fun _ => .int .i64 (i64 (x19 + (min (t24 : Int) (t22 : Int)))), fun _ => []⟩] (fun ξ => [(8, .int .i64 (i64 (x19 + (min (t24 : Int) (t22 : Int))))), (38, .int .i64 x19), (39, .slice (some ⟨b8, 0, none⟩) t6 t6), (40, .int .i64 x19), (41, .slice (some ⟨b8, 0 + Int.toNat x19 * 1, none⟩) t22 (t6 - Int.toNat x19)), (42, .slice (some ⟨b8, 0, none⟩) t6 t6), (43, .int .i64 x19), (44, .slice (some ⟨b8, 0, none⟩) t24 t6), (45, .int .i64 (min (t24 : Int) (t22 : Int))), (46, .int .i64 (i64 (x19 + (min (t24 : Int) (t22 : Int)))))]) (fun ξ => [(b8, .cells (rowF (encI .i64) t26) 3 (0, 0))]) (fun ξ => []) (fun ξ => []) (AllN.cons ?_ (AllN.cons ?_ (AllN.cons ?_ (AllN.cons ?_ (AllN.cons ?_ (AllN.cons ?_ (AllN.cons ?_ (AllN.cons ?_ (AllN.cons ?_ (AllN.cons ?_ AllN.nil)))))))))) (AllN.cons (VAgr.c rfl) (AllN.cons (VAgr.c rfl) (AllN.cons (VAgr.c rfl) (AllN.cons (VAgr.c rfl) (AllN.cons (VAgr.c rfl) (AllN.cons (VAgr.c rfl) (AllN.cons (VAgr.c rfl) (AllN.cons (VAgr.c rfl) (AllN.cons (VAgr.c rfl) (AllN.cons (VAgr.c rfl) AllN.nil)))))))))) (AllN.cons (RAgr.c rfl) (AllN.cons (RAgr.c rfl) AllN.nil)) (fun ξ => ?_)
    ·
     intro o t ho ht ξ Gr Γr Lr Q hk
     cases ho; cases ht
     refine WL.rn 1 [] [(38, .int .i64 x19)] ?_
     exact WL.fin (hk default)
    ·
     intro o t ho ht ξ Gr Γr Lr Q hk
     cases ho; cases ht
     refine WL.rn 1 [] [(39, .slice (some ⟨b8, 0, none⟩) t6 t6)] ?_
     exact WL.fin (hk default)
    ·
     intro o t ho ht ξ Gr Γr Lr Q hk
     cases ho; cases ht
     refine WL.rn 1 [] [(40, .int .i64 x19)] ?_
     exact WL.fin (hk default)
    ·
     intro o t ho ht ξ Gr Γr Lr Q hk
     cases ho; cases ht
     refine WL.val (v := .slice (some ⟨b8, 0 + Int.toNat x19 * 1, none⟩) t22 (t6 - Int.toNat x19)) (fun _ => run_cutLo (b := b8) (o := 0) (n := t6) (c := t6) (k := .i64) (l := x19) (e := 3) (m := 1) (by kernel_rfl) (by kernel_rfl) h23 (by kernel_rfl) (by kernel_rfl)) (by kernel_rfl) (by kernel_rfl) rfl ?_
     exact WL.fin (hk default)
    ·
     intro o t ho ht ξ Gr Γr Lr Q hk
     cases ho; cases ht
     refine WL.rn 1 [] [(42, .slice (some ⟨b8, 0, none⟩) t6 t6)] ?_
     exact WL.fin (hk default)
    ·
     intro o t ho ht ξ Gr Γr Lr Q hk
     cases ho; cases ht
     refine WL.rn 1 [] [(43, .int .i64 x19)] ?_
     exact WL.fin (hk default)
    ·
     intro o t ho ht ξ Gr Γr Lr Q hk
     cases ho; cases ht
     refine WL.val (v := .slice (some ⟨b8, 0, none⟩) t24 t6) (fun _ => run_cutHi (b := b8) (o := 0) (n := t6) (c := t6) (k := .i64) (h := x19) (e := 3) (m := 1) (by kernel_rfl) (by kernel_rfl) h25 (by kernel_rfl) (by kernel_rfl)) (by kernel_rfl) (by kernel_rfl) rfl ?_
     exact WL.fin (hk default)
    ·
     intro o t ho ht ξ Gr Γr Lr Q hk
     cases ho; cases ht
     refine WL.copyB (b := b8) (off := 0 + Int.toNat x19 * 1) (n := t22) (c := (t6 - Int.toNat x19)) (e := 3) (d := 45) (ys := x20) (zs := t26) (f := (encI .i64)) (so := 0) (sn := t24) (sc := t6) 0 rfl rfl (by kernel_rfl) (by kernel_rfl) (by kernel_rfl) (fun _ => rfl) (fun _ => rfl) (by kernel_rfl) (by kernel_rfl) (by kernel_rfl) (by kernel_rfl) h27 (by kernel_rfl) ?_
     exact WL.fin (hk default)
    ·
     intro o t ho ht ξ Gr Γr Lr Q hk
     cases ho; cases ht
     refine WL.rn 1 [] [(46, .int .i64 (i64 (x19 + (min (t24 : Int) (t22 : Int)))))] ?_
     exact WL.fin (hk default)
    ·
     intro o t ho ht ξ Gr Γr Lr Q hk
     cases ho; cases ht
     refine WL.rn 1 [] [(8, .int .i64 (i64 (x19 + (min (t24 : Int) (t22 : Int)))))] ?_
     exact WL.fin (hk default)
    refine WP.less (Φ' := ([Row 1 (pl (encI .i64)) noK A00 a0] ++ Glob)) (fun _ h => h) ?_
    refine WP.leave ?_
    exact WP.again' [4, 7, 8] (i64 (x19 + (min (t24 : Int) (t22 : Int))), t26) hM (by kernel_rfl) (fun _ h => (h.pick [0] (by kernel_rfl)).lessF [0] (by kernel_rfl))
   ·replace hM := cond_f hM c21
    refine WP.exit rfl (WP.seq ?_)
    refine WP.rn [] [(4, .slice (some ⟨b8, 0, none⟩) t6 t6)] ?_
    obtain ⟨u29, h28, hM⟩ := bind_some hM
    refine WP.iceRow (b := b8) (n := t6) (c := t6) (e := 3) (m := 1) (f := (encI .i64)) (xs := x20) (L1 := [(4, .slice (some ⟨b8, 0, none⟩) t6 t6)]) (L' := [(4, slcV (SkL.at b8 t6 (fun _ => ())) x20.length)]) (H' := []) 0 [4] h28 (by kernel_rfl) (fun _ => rfl) (by kernel_rfl) (by kernel_rfl) (fun e => by simp only [e]) ?_
    refine WP.less (Φ' := ([Row 1 (pl (encI .i64)) noK (SkL.at b8 t6 (fun _ => ())) x20, Row 1 (pl (encI .i64)) noK A00 a0] ++ Glob)) (fun _ h => h) ?_
    obtain rfl := Option.some.inj hM
    exact WP.ret [] [] (slcV (SkL.at b8 t6 (fun _ => ())) x20.length) (by kernel_rfl) (fun w' hw => ⟨(SkL.at b8 t6 (fun _ => ())), rfl, (hw.pick [] (by kernel_rfl)).less (sub_ret [0] [1] (by kernel_rfl) (by kernel_rfl))⟩)
def vlan_vlan.f (a0 : Int) : Option (Bool) :=
 some ((decide (a0 ≥ 1)) && (decide (a0 ≤ 4094)))
theorem vlan_vlan_calls (a0 : Int) (r : Bool) (h : vlan_vlan.f a0 = some r) : Pure Tryz.prog Glob 134 #[.int .i64 a0] (.bool r) := by
 intro w Z hS
 refine callsS (args := [.int .i64 a0]) (L := [(0, .int .i64 a0)]) (N := 9) Tryz.func134 hS ?_
 have hM := h
 clear h hS
 unfold vlan_vlan.f at hM
 refine WP.seq (WP.rn [] [(2, .bool false)] ?_)
 refine WP.seq (WP.region (WL.rn 3 [] [(5, .bool (decide (a0 ≥ 1)))] ?_))
 refine WL.bo 5 (decide (a0 ≥ 1)) 3 [] [] (fun b' => [(8, .bool (b' && (decide (a0 ≤ 4094))))]) ?_
 refine WL.rn 1 [] [(2, .bool ((decide (a0 ≥ 1)) && (decide (a0 ≤ 4094))))] ?_
 refine WP.done ?_
 obtain rfl := Option.some.inj hM
 exact WP.retQ [] []
def vlan_Right.k2 (x5 : Bool) (x6 : Int) (rec_l3 : Bool → Int → Option (Bool)) (x18 : Bool) (x19 : Bool) : Option (Bool) :=
 bif x19 then
  some false
 else
  rec_l3 x5 (i64 (x6 + 1))
def vlan_Right.k1 (x5 : Bool) (x6 : Int) (rec_l3 : Bool → Int → Option (Bool)) (x16 : Bool) (x17 : Bool) : Option (Bool) :=
 vlan_Right.k2 x5 x6 rec_l3 false x17
def vlan_Right.k4 (x24 : Bool) : Option (Bool) :=
 some x24
def vlan_Right.l3 (a0_2 : (List Int)) (a0_1 : Int) (k : Nat) : Nat → Bool → Int → Option (Bool)
 | 0, _, _ => none
 | n + 1, x5, x6 =>
  bif decide (x6 < (a0_2.length : Int)) then
   (getL a0_2.length a0_2 x6).bind fun t8 =>
   (vlan_vlan.f t8).bind fun r10 =>
   bif !r10 then
    vlan_Right.k2 x5 x6 (vlan_Right.l3 a0_2 a0_1 k n) true true
   else
    bif decide (x6 > 0) then
     (getL a0_2.length a0_2 (i64 (x6 - 1))).bind fun t14 =>
     vlan_Right.k1 x5 x6 (vlan_Right.l3 a0_2 a0_1 k n) true (decide (t8 ≤ t14))
    else
     vlan_Right.k1 x5 x6 (vlan_Right.l3 a0_2 a0_1 k n) false false
  else
   bif (a0_1 == 0) then
    vlan_Right.k4 true
   else
    (slices_Contains_int_int.f k a0_2 a0_1).bind fun r22 =>
    vlan_Right.k4 r22
def vlan_Right.f (k : Nat) (a0 : Bool) (a0_1 : Int) (a0_2 : (List Int)) : Option (Bool) :=
 bif !a0 then
  (vlan_vlan.f a0_1).bind fun r3 =>
  some (r3 && ((a0_2.length : Int) == 0))
 else
  vlan_Right.l3 a0_2 a0_1 k k false 0
theorem vlan_Right_calls (k : Nat) (A00 : SkL Unit) (a0 : Bool) (a0_1 : Int) (a0_2 : (List Int)) (r : Bool) (h : vlan_Right.f k a0 a0_1 a0_2 = some r) : Pure Tryz.prog ([Row 1 (pl (encI .i64)) noK A00 a0_2] ++ Glob) 95 #[.agg #[.bool a0, .int .i64 a0_1, slcV A00 a0_2.length]] (.bool r) := by
 intro w Z hS
 refine callsS (args := [.agg #[.bool a0, .int .i64 a0_1, slcV A00 a0_2.length]]) (L := [(0, .agg #[.bool a0, .int .i64 a0_1, slcV A00 a0_2.length])]) (N := 53) Tryz.func95 hS ?_
 have hM := h
 clear h hS
 unfold vlan_Right.f at hM
 refine WP.seq ?_
 refine WP.rh [] (fun b1 => [(1, .pointer (some ⟨b1, 0, none⟩)), (2, .bool false)]) (fun b1 => []) (fun b1 => [(b1, .cells #[.bool a0, .int .i64 a0_1, slcV A00 a0_2.length] 84 (0, 0))]) (fun b1 => ?_)
 refine WP.seq (WP.seq (WP.rn [0] [(7, .bool (!a0))] ?_))
 refine WP.cond (!a0) rfl rfl (fun c2 => ?_) (fun c2 => ?_)
 ·replace hM := cond_t hM c2
  refine WP.seq (WP.region (WL.rn 2 [0] [(9, .int .i64 a0_1)] ?_))
  obtain ⟨r3, h4, hM⟩ := bind_some hM
  refine WL.callP [] [] (vlan_vlan_calls a0_1 _ h4) (fun _ h => List.mem_append_right _ h) (by kernel_rfl) (by kernel_rfl) rfl ?_
  refine WL.rn 1 [] [(11, .bool r3)] ?_
  refine WL.bo 11 r3 5 [0] [] (fun b' => [(16, .bool (b' && ((a0_2.length : Int) == 0)))]) ?_
  refine WL.rn 1 [] [(2, .bool (r3 && ((a0_2.length : Int) == 0)))] ?_
  refine WP.done ?_
  obtain rfl := Option.some.inj hM
  exact WP.retF [] [] [0]
 ·replace hM := cond_f hM c2
  refine WP.skip (WP.seq (WP.seq (WP.rn [0] [(18, slcV A00 a0_2.length), (19, .int .i64 (a0_2.length : Int)), (20, .int .i64 0)] ?_)))
  refine WP.block ?_
  refine WP.sub [1, 2, 18, 19, 20] (L' := [(1, .pointer (some ⟨b1, 0, none⟩)), (2, .bool false), (18, slcV A00 a0_2.length), (19, .int .i64 (a0_2.length : Int)), (20, .int .i64 0)]) (by kernel_rfl) ?_
  refine WP.lessF [0] (F' := [Row 1 (pl (encI .i64)) noK A00 a0_2]) (by kernel_rfl) ?_
  refine WP.loop (σ := Bool × Int) (fun n st => vlan_Right.l3 a0_2 a0_1 k n st.1 st.2) r (fun st => [(1, .pointer (some ⟨b1, 0, none⟩)), (2, .bool st.1), (18, slcV A00 a0_2.length), (19, .int .i64 (a0_2.length : Int)), (20, .int .i64 st.2)]) (fun st => Sat w Z [(b1, .cells #[.bool a0, .int .i64 a0_1, slcV A00 a0_2.length] 84 (0, 0))] [] ([Row 1 (pl (encI .i64)) noK A00 a0_2] ++ Glob)) (st := (false, 0)) (fun n st hM => ?_) hM
  rcases n with _ | n
  ·exact nomatch (show (none : Option _) = some r from hM)
  obtain ⟨x5, x6⟩ := st
  replace hM : vlan_Right.l3 a0_2 a0_1 k (n + 1) x5 x6 = some r := hM
  rw [vlan_Right.l3] at hM
  try dsimp only
  refine WP.seq (WP.rn [] [(21, .bool (decide (x6 < (a0_2.length : Int))))] ?_)
  refine WP.seq ?_
  refine WP.cond (decide (x6 < (a0_2.length : Int))) rfl rfl (fun c7 => ?_) (fun c7 => ?_)
  ·replace hM := cond_t hM c7
   refine WP.skip (WP.seq (WP.block (WP.seq (WP.region (WL.rn 1 [] [(22, .int .i64 x6)] ?_)))))
   obtain ⟨t8, h9, hM⟩ := bind_some hM
   refine WL.valF (φ := Row 1 (pl (encI .i64)) noK A00 a0_2) (fact_at 0 rfl) (fun w hR => run_indexRowF (A := A00) (xs := a0_2) (i := x6) (k := .i64) (e := 3) (m := 1) (by kernel_rfl) (by kernel_rfl) h9 (by kernel_rfl) (by kernel_rfl) hR) (by kernel_rfl) (by kernel_rfl) rfl ?_
   refine WL.valF (φ := Row 1 (pl (encI .i64)) noK A00 a0_2) (fact_at 0 rfl) (fun w hR => run_loadRowF (A := A00) (xs := a0_2) (i := x6) (j := 0) (v := .int .i64 t8) h9 (fun _ => by kernel_rfl) (by kernel_rfl) (by kernel_rfl) hR) (by kernel_rfl) (by kernel_rfl) rfl ?_
   refine WL.rn 2 [] [(3, .int .i64 x6), (4, .int .i64 t8)] ?_
   refine WP.done (WP.seq (WP.region (WL.rn 1 [] [(25, .int .i64 t8)] ?_)))
   obtain ⟨r10, h11, hM⟩ := bind_some hM
   refine WL.callP [] [] (vlan_vlan_calls t8 _ h11) (fun _ h => List.mem_append_right _ h) (by kernel_rfl) (by kernel_rfl) rfl ?_
   refine WL.rn 2 [] [(27, .bool (!r10)), (28, .bool (!r10))] ?_
   refine WL.join (σ := Bool × Bool) 13 (fun st => vlan_Right.k2 x5 x6 (vlan_Right.l3 a0_2 a0_1 k n) st.1 st.2 = some r) (fun st => [(1, .pointer (some ⟨b1, 0, none⟩)), (2, .bool x5), (3, .int .i64 x6), (4, .int .i64 t8), (18, slcV A00 a0_2.length), (19, .int .i64 (a0_2.length : Int)), (20, .int .i64 x6), (21, .bool (decide (x6 < (a0_2.length : Int)))), (22, .int .i64 x6), (23, ptrV A00 (Int.toNat x6 * 1)), (24, .int .i64 t8), (25, .int .i64 t8), (26, .bool r10), (27, .bool (!r10)), (28, .bool st.1), (41, .bool st.2)]) (fun st => Sat w Z [(b1, .cells #[.bool a0, .int .i64 a0_1, slcV A00 a0_2.length] 84 (0, 0))] [] ([Row 1 (pl (encI .i64)) noK A00 a0_2] ++ Glob)) (fun st hM => ?_) (fun K2 => ?_)
   ·
    obtain ⟨x18, x19⟩ := st
    replace hM : vlan_Right.k2 x5 x6 (vlan_Right.l3 a0_2 a0_1 k n) x18 x19 = some r := hM
    unfold vlan_Right.k2 at hM
    try dsimp only
    refine WP.done ?_
    refine WP.cond x19 rfl rfl (fun c20 => ?_) (fun c20 => ?_)
    ·replace hM := cond_t hM c20
     refine WP.seq (WP.rn [] [(2, .bool false)] ?_)
     obtain rfl := Option.some.inj hM
     exact WP.retF [] [] [0]
    ·replace hM := cond_f hM c20
     refine WP.skip (WP.leave (WP.rn [] [(20, .int .i64 (i64 (x6 + 1))), (42, .int .i64 (i64 (x6 + 1)))] ?_))
     exact WP.again' [1, 2, 18, 19, 20] (x5, i64 (x6 + 1)) hM (by kernel_rfl) (fun _ h => (h.pick [0] (by kernel_rfl)).lessF [0] (by kernel_rfl))
   ·
    refine WL.sp 28 (!r10) (fun c12 => ?_) (fun c12 => ?_)
    ·replace hM := cond_t hM c12
     refine WL.rn 13 [] [(29, .tuple #[]), (30, .tuple #[]), (31, .tuple #[]), (32, .tuple #[]), (33, .tuple #[]), (34, .tuple #[]), (35, .tuple #[]), (36, .tuple #[]), (37, .tuple #[]), (38, .tuple #[]), (39, .tuple #[]), (40, .tuple #[]), (41, .bool true)] ?_
     exact WL.sub [1, 2, 3, 4, 18, 19, 20, 21, 22, 23, 24, 25, 26, 27, 28, 41] (by kernel_rfl) (WL.pick [0] (by kernel_rfl) (by kernel_rfl) (WL.lessF [0] (by kernel_rfl) (K2 (true, true) hM)))
    ·replace hM := cond_f hM c12
     refine WL.rn 3 [] [(29, .int .i64 x6), (30, .bool (decide (x6 > 0))), (31, .bool (decide (x6 > 0)))] ?_
     refine WL.join (σ := Bool × Bool) 9 (fun st => vlan_Right.k1 x5 x6 (vlan_Right.l3 a0_2 a0_1 k n) st.1 st.2 = some r) (fun st => [(1, .pointer (some ⟨b1, 0, none⟩)), (2, .bool x5), (3, .int .i64 x6), (4, .int .i64 t8), (18, slcV A00 a0_2.length), (19, .int .i64 (a0_2.length : Int)), (20, .int .i64 x6), (21, .bool (decide (x6 < (a0_2.length : Int)))), (22, .int .i64 x6), (23, ptrV A00 (Int.toNat x6 * 1)), (24, .int .i64 t8), (25, .int .i64 t8), (26, .bool r10), (27, .bool (!r10)), (28, .bool false), (29, .int .i64 x6), (30, .bool (decide (x6 > 0))), (31, .bool st.1), (40, .bool st.2)]) (fun st => Sat w Z [(b1, .cells #[.bool a0, .int .i64 a0_1, slcV A00 a0_2.length] 84 (0, 0))] [] ([Row 1 (pl (encI .i64)) noK A00 a0_2] ++ Glob)) (fun st hM => ?_) (fun K1 => ?_)
     ·
      obtain ⟨x16, x17⟩ := st
      replace hM : vlan_Right.k1 x5 x6 (vlan_Right.l3 a0_2 a0_1 k n) x16 x17 = some r := hM
      unfold vlan_Right.k1 at hM
      try dsimp only
      refine WL.rn 1 [] [(41, .bool x17)] ?_
      exact WL.sub [1, 2, 3, 4, 18, 19, 20, 21, 22, 23, 24, 25, 26, 27, 28, 41] (by kernel_rfl) (WL.pick [0] (by kernel_rfl) (by kernel_rfl) (WL.lessF [0] (by kernel_rfl) (K2 (false, x17) hM)))
     ·
      refine WL.sp 31 (decide (x6 > 0)) (fun c13 => ?_) (fun c13 => ?_)
      ·replace hM := cond_t hM c13
       refine WL.rn 5 [0] [(32, .int .i64 t8), (33, .pointer (some ⟨b1, 2, none⟩)), (34, slcV A00 a0_2.length), (35, .int .i64 x6), (36, .int .i64 (i64 (x6 - 1)))] ?_
       obtain ⟨t14, h15, hM⟩ := bind_some hM
       refine WL.valF (φ := Row 1 (pl (encI .i64)) noK A00 a0_2) (fact_at 0 rfl) (fun w hR => run_indexRowF (A := A00) (xs := a0_2) (i := i64 (x6 - 1)) (k := .i64) (e := 3) (m := 1) (by kernel_rfl) (by kernel_rfl) h15 (by kernel_rfl) (by kernel_rfl) hR) (by kernel_rfl) (by kernel_rfl) rfl ?_
       refine WL.valF (φ := Row 1 (pl (encI .i64)) noK A00 a0_2) (fact_at 0 rfl) (fun w hR => run_loadRowF (A := A00) (xs := a0_2) (i := i64 (x6 - 1)) (j := 0) (v := .int .i64 t14) h15 (fun _ => by kernel_rfl) (by kernel_rfl) (by kernel_rfl) hR) (by kernel_rfl) (by kernel_rfl) rfl ?_
       refine WL.rn 2 [] [(39, .bool (decide (t8 ≤ t14))), (40, .bool (decide (t8 ≤ t14)))] ?_
       exact WL.sub [1, 2, 3, 4, 18, 19, 20, 21, 22, 23, 24, 25, 26, 27, 28, 29, 30, 31, 40] (by kernel_rfl) (WL.pick [0] (by kernel_rfl) (by kernel_rfl) (WL.lessF [0] (by kernel_rfl) (K1 (true, decide (t8 ≤ t14)) hM)))
      ·replace hM := cond_f hM c13
       refine WL.rn 9 [] [(32, .tuple #[]), (33, .tuple #[]), (34, .tuple #[]), (35, .tuple #[]), (36, .tuple #[]), (37, .tuple #[]), (38, .tuple #[]), (39, .tuple #[]), (40, .bool false)] ?_
       exact WL.sub [1, 2, 3, 4, 18, 19, 20, 21, 22, 23, 24, 25, 26, 27, 28, 29, 30, 31, 40] (by kernel_rfl) (WL.pick [0] (by kernel_rfl) (by kernel_rfl) (WL.lessF [0] (by kernel_rfl) (K1 (false, false) hM)))
  ·replace hM := cond_f hM c7
   refine WP.exit rfl (WP.seq (WP.region (WL.rn 4 [0] [(46, .bool (a0_1 == 0))] ?_)))
   refine WL.join (σ := Bool) 6 (fun st => vlan_Right.k4 st = some r) (fun st => [(2, .bool x5), (52, .bool st)]) (fun st => Sat w Z [] [] ([Row 1 (pl (encI .i64)) noK A00 a0_2] ++ Glob)) (fun st hM => ?_) (fun K4 => ?_)
   ·
    obtain ⟨x24, rfl⟩ : ∃ y, y = st := ⟨st, rfl⟩
    replace hM : vlan_Right.k4 x24 = some r := hM
    unfold vlan_Right.k4 at hM
    try dsimp only
    refine WL.rn 1 [] [(2, .bool x24)] ?_
    refine WP.done ?_
    obtain rfl := Option.some.inj hM
    exact WP.retF [] [] [0]
   ·
    refine WL.sp 46 (a0_1 == 0) (fun c21 => ?_) (fun c21 => ?_)
    ·replace hM := cond_t hM c21
     refine WL.rn 6 [] [(52, .bool true)] ?_
     exact WL.sub [2, 52] (by kernel_rfl) (WL.pick [] (by kernel_rfl) (by kernel_rfl) (WL.lessF [0] (by kernel_rfl) (K4 true hM)))
    ·replace hM := cond_f hM c21
     refine WL.rn 4 [0, 0] [(48, slcV A00 a0_2.length), (50, .int .i64 a0_1)] ?_
     obtain ⟨r22, h23, hM⟩ := bind_some hM
     refine WL.callP [] [] (slices_Contains_int_int_calls k A00 a0_2 a0_1 _ h23) (sub_pick [0] (by kernel_rfl)) (by kernel_rfl) (by kernel_rfl) rfl ?_
     refine WL.rn 1 [] [(52, .bool r22)] ?_
     exact WL.sub [2, 52] (by kernel_rfl) (WL.pick [] (by kernel_rfl) (by kernel_rfl) (WL.lessF [0] (by kernel_rfl) (K4 r22 hM)))
def bridge_New_1.f (k : Nat) (a0 : Bool) (a0_1 : Int) (a0_2 : (List Int)) : Option (Bool) :=
 (vlan_Right.f k a0 a0_1 a0_2).bind fun r2 =>
 some (!r2)
theorem bridge_New_1_calls (k : Nat) (A00 : SkL Unit) (a0 : Bool) (a0_1 : Int) (a0_2 : (List Int)) (r : Bool) (h : bridge_New_1.f k a0 a0_1 a0_2 = some r) : Pure Tryz.prog ([Row 1 (pl (encI .i64)) noK A00 a0_2] ++ Glob) 94 #[.agg #[.bool a0, .int .i64 a0_1, slcV A00 a0_2.length]] (.bool r) := by
 intro w Z hS
 refine callsS (args := [.agg #[.bool a0, .int .i64 a0_1, slcV A00 a0_2.length]]) (L := [(0, .agg #[.bool a0, .int .i64 a0_1, slcV A00 a0_2.length])]) (N := 6) Tryz.func94 hS ?_
 have hM := h
 clear h hS
 unfold bridge_New_1.f at hM
 refine WP.seq ?_
 refine WP.rh [] (fun b1 => [(1, .pointer (some ⟨b1, 0, none⟩)), (2, .bool false)]) (fun b1 => []) (fun b1 => [(b1, .cells #[.bool a0, .int .i64 a0_1, slcV A00 a0_2.length] 84 (0, 0))]) (fun b1 => ?_)
 refine WP.seq (WP.region (WL.rn 1 [0, 0, 0] [(3, .agg #[.bool a0, .int .i64 a0_1, slcV A00 a0_2.length])] ?_))
 obtain ⟨r2, h3, hM⟩ := bind_some hM
 refine WL.callP [] [] (vlan_Right_calls k A00 a0 a0_1 a0_2 _ h3) (sub_pick [0] (by kernel_rfl)) (by kernel_rfl) (by kernel_rfl) rfl ?_
 refine WL.rn 2 [] [(2, .bool (!r2))] ?_
 refine WP.done (WP.kp [false] ?_)
 obtain rfl := Option.some.inj hM
 exact WP.retF [] [] [0]
def api_PortCfg_3.l1 (a0 : (List api_PortCfg)) (k : Nat) : Nat → Int → Int → Option (Int)
 | 0, _, _ => none
 | n + 1, x1, x2 =>
  bif decide (x2 < (a0.length : Int)) then
   (getL a0.length a0 x2).bind fun t4 =>
   (bridge_New_1.f k t4.Trunk t4.Pvid t4.Vids).bind fun r6 =>
   bif r6 then
    some x2
   else
    api_PortCfg_3.l1 a0 k n x1 (i64 (x2 + 1))
  else
   some (-1)
def api_PortCfg_3.f (k : Nat) (a0 : (List api_PortCfg)) : Option (Int) :=
 api_PortCfg_3.l1 a0 k k 0 0
theorem api_PortCfg_3_calls (k : Nat) (A00 : SkL (SkL Unit)) (a0 : (List api_PortCfg)) (r : Int) (h : api_PortCfg_3.f k a0 = some r) : Pure Tryz.prog ([Row 3 api_PortCfg.encS api_PortCfg.inK A00 a0] ++ Glob) 133 #[slcV A00 a0.length, .func (.func 94) #[] #[]] (.int .i64 r) := by
 intro w Z hS
 refine callsS (args := [slcV A00 a0.length, .func (.func 94) #[] #[]]) (L := [(0, slcV A00 a0.length), (1, .func (.func 94) #[] #[])]) (N := 19) Tryz.func133 hS ?_
 have hM := h
 clear h hS
 unfold api_PortCfg_3.f at hM
 refine WP.seq (WP.rn [] [(4, .int .i64 0)] ?_)
 refine WP.seq (WP.seq (WP.rn [] [(7, .int .i64 (a0.length : Int)), (8, .int .i64 0)] ?_))
 refine WP.block ?_
 refine WP.sub [0, 1, 4, 7, 8] (L' := [(0, slcV A00 a0.length), (1, .func (.func 94) #[] #[]), (4, .int .i64 0), (7, .int .i64 (a0.length : Int)), (8, .int .i64 0)]) (by kernel_rfl) ?_
 refine WP.lessF [0] (F' := [Row 3 api_PortCfg.encS api_PortCfg.inK A00 a0]) (by kernel_rfl) ?_
 refine WP.loop (σ := Int × Int) (fun n st => api_PortCfg_3.l1 a0 k n st.1 st.2) r (fun st => [(0, slcV A00 a0.length), (1, .func (.func 94) #[] #[]), (4, .int .i64 st.1), (7, .int .i64 (a0.length : Int)), (8, .int .i64 st.2)]) (fun st => Sat w Z [] [] ([Row 3 api_PortCfg.encS api_PortCfg.inK A00 a0] ++ Glob)) (st := (0, 0)) (fun n st hM => ?_) hM
 rcases n with _ | n
 ·exact nomatch (show (none : Option _) = some r from hM)
 obtain ⟨x1, x2⟩ := st
 replace hM : api_PortCfg_3.l1 a0 k (n + 1) x1 x2 = some r := hM
 rw [api_PortCfg_3.l1] at hM
 try dsimp only
 refine WP.seq (WP.rn [] [(9, .bool (decide (x2 < (a0.length : Int))))] ?_)
 refine WP.seq ?_
 refine WP.cond (decide (x2 < (a0.length : Int))) rfl rfl (fun c3 => ?_) (fun c3 => ?_)
 ·replace hM := cond_t hM c3
  refine WP.skip (WP.seq (WP.block (WP.seq (WP.rn [] [(5, .int .i64 x2), (10, .int .i64 x2)] ?_))))
  refine WP.seq (WP.region ?_)
  refine WL.rn 3 [] [(11, .func (.func 94) #[] #[]), (12, slcV A00 a0.length), (13, .int .i64 x2)] ?_
  obtain ⟨t4, h5, hM⟩ := bind_some hM
  refine WL.valF (φ := Row 3 api_PortCfg.encS api_PortCfg.inK A00 a0) (fact_at 0 rfl) (fun w hR => run_indexRowF (A := A00) (xs := a0) (i := x2) (k := .i64) (e := 84) (m := 3) (by kernel_rfl) (by kernel_rfl) h5 (by kernel_rfl) (by kernel_rfl) hR) (by kernel_rfl) (by kernel_rfl) rfl ?_
  refine WL.valF (φ := Row 3 api_PortCfg.encS api_PortCfg.inK A00 a0) (fact_at 0 rfl) (fun w hR => run_loadRowFA (A := A00) (xs := a0) (i := x2) (j := 0) (n := 3) (vs := [.bool t4.Trunk, .int .i64 t4.Pvid, slcV (A00.s (Int.toNat x2)) t4.Vids.length]) h5 (fun _ => by kernel_rfl) (by kernel_rfl) (by kernel_rfl) (by kernel_rfl) rfl hR) (by kernel_rfl) (by kernel_rfl) rfl ?_
  refine WL.know (Row 1 (pl (encI .i64)) noK (A00.s (Int.toNat x2)) t4.Vids) [0] [Row 3 api_PortCfg.encS api_PortCfg.inK A00 a0] (by kernel_rfl) (fun w hψ => ((hψ _ (List.mem_singleton.2 rfl)).inner _ _ (getL_parts h5).2)) ?_
  obtain ⟨r6, h7, hM⟩ := bind_some hM
  refine WL.callP [] [] (bridge_New_1_calls k (A00.s (Int.toNat x2)) t4.Trunk t4.Pvid t4.Vids _ h7) (sub_pick [0] (by kernel_rfl)) (by kernel_rfl) (by kernel_rfl) rfl ?_
  refine WP.done ?_
  refine WP.cond r6 rfl rfl (fun c8 => ?_) (fun c8 => ?_)
  ·replace hM := cond_t hM c8
   refine WP.seq (WP.rn [] [(4, .int .i64 x2), (17, .int .i64 x2)] ?_)
   obtain rfl := Option.some.inj hM
   exact WP.retF [] [] [1]
  ·replace hM := cond_f hM c8
   refine WP.skip (WP.leave (WP.rn [] [(8, .int .i64 (i64 (x2 + 1))), (18, .int .i64 (i64 (x2 + 1)))] ?_))
   exact WP.again' [0, 1, 4, 7, 8] (x1, i64 (x2 + 1)) hM (by kernel_rfl) (fun _ h => (h.pick [] (by kernel_rfl)).lessF [1] (by kernel_rfl))
 ·replace hM := cond_f hM c3
  refine WP.exit rfl (WP.seq (WP.rn [] [(4, .int .i64 (-1))] ?_))
  obtain rfl := Option.some.inj hM
  exact WP.retF [] [] [0]
def api_PortCfg_2.f (k : Nat) (a0 : (List api_PortCfg)) : Option (Bool) :=
 (api_PortCfg_3.f k a0).bind fun r1 =>
 some (decide (r1 ≥ 0))
theorem api_PortCfg_2_calls (k : Nat) (A00 : SkL (SkL Unit)) (a0 : (List api_PortCfg)) (r : Bool) (h : api_PortCfg_2.f k a0 = some r) : Pure Tryz.prog ([Row 3 api_PortCfg.encS api_PortCfg.inK A00 a0] ++ Glob) 93 #[slcV A00 a0.length, .func (.func 94) #[] #[]] (.bool r) := by
 intro w Z hS
 refine callsS (args := [slcV A00 a0.length, .func (.func 94) #[] #[]]) (L := [(0, slcV A00 a0.length), (1, .func (.func 94) #[] #[])]) (N := 9) Tryz.func93 hS ?_
 have hM := h
 clear h hS
 unfold api_PortCfg_2.f at hM
 refine WP.seq (WP.rn [] [(4, .bool false)] ?_)
 refine WP.seq (WP.region ?_)
 refine WL.rn 2 [] [(5, slcV A00 a0.length), (6, .func (.func 94) #[] #[])] ?_
 obtain ⟨r1, h2, hM⟩ := bind_some hM
 refine WL.callP [] [] (api_PortCfg_3_calls k A00 a0 _ h2) (sub_pick [0] (by kernel_rfl)) (by kernel_rfl) (by kernel_rfl) rfl ?_
 refine WL.rn 2 [] [(4, .bool (decide (r1 ≥ 0)))] ?_
 refine WP.done ?_
 obtain rfl := Option.some.inj hM
 exact WP.retF [] [] [0]
def ages_New.f (a0 : Int) (a1 : Int) : Option (Int) :=
 bif ((((decide (a0 < 1)) || (decide (a0 > 4096))) || (decide (a1 < 1))) || (decide (a1 > 1099511627776))) then
  some 1
 else
  some 0
theorem ages_New_calls (a0 : Int) (a1 : Int) (r : Int) (h : ages_New.f a0 a1 = some r) : Does Tryz.prog 99 #[.int .i64 a0, .int .i64 a1] [] ([] ++ Glob) (fun x : (Option Addr) => .tuple #[.pointer x, .int .i64 r]) (fun x => []) (fun _ => []) (fun x => [] ++ ([] ++ Glob)) := by
 intro w Z hS
 refine callsS (args := [.int .i64 a0, .int .i64 a1]) (L := [(0, .int .i64 a0), (1, .int .i64 a1)]) (N := 25) Tryz.func99 hS ?_
 have hM := h
 clear h hS
 unfold ages_New.f at hM
 refine WP.seq (WP.rn [] [(4, .pointer none), (5, .int .i64 0)] ?_)
 refine WP.seq (WP.seq (WP.region (WL.rn 3 [] [(8, .bool (decide (a0 < 1)))] ?_)))
 refine WL.bo 8 (decide (a0 < 1)) 3 [] [] (fun b' => [(11, .bool (b' || (decide (a0 > 4096))))]) ?_
 refine WL.rn 1 [] [(12, .bool ((decide (a0 < 1)) || (decide (a0 > 4096))))] ?_
 refine WL.bo 12 ((decide (a0 < 1)) || (decide (a0 > 4096))) 3 [] [] (fun b' => [(15, .bool (b' || (decide (a1 < 1))))]) ?_
 refine WL.rn 1 [] [(16, .bool (((decide (a0 < 1)) || (decide (a0 > 4096))) || (decide (a1 < 1))))] ?_
 refine WL.bo 16 (((decide (a0 < 1)) || (decide (a0 > 4096))) || (decide (a1 < 1))) 3 [] [] (fun b' => [(19, .bool (b' || (decide (a1 > 1099511627776))))]) ?_
 refine WP.done ?_
 refine WP.cond ((((decide (a0 < 1)) || (decide (a0 > 4096))) || (decide (a1 < 1))) || (decide (a1 > 1099511627776))) rfl rfl (fun c1 => ?_) (fun c1 => ?_)
 ·replace hM := cond_t hM c1
  refine WP.seq (WP.rn [] [(4, .pointer none), (5, .int .i64 1)] ?_)
  obtain rfl := Option.some.inj hM
  exact WP.ret [] [] (.tuple #[.pointer none, .int .i64 1]) (by kernel_rfl) (fun w' hw => ⟨(none : Option Addr), rfl, (hw.pick [] (by kernel_rfl)).less (sub_ret [] [] (by kernel_rfl) (by kernel_rfl))⟩)
 ·replace hM := cond_f hM c1
  refine WP.skip (WP.seq ?_)
  refine WP.rh [] (fun b2 => [(4, .pointer (some ⟨b2, 0, none⟩)), (5, .int .i64 0)]) (fun b2 => []) (fun b2 => [(b2, .cells #[.slice none 0 0, .func (.func 136) #[] #[], .int .i64 a0, .int .i64 a1] 272 (0, 0))]) (fun b2 => ?_)
  obtain rfl := Option.some.inj hM
  exact WP.ret [] [] (.tuple #[.pointer (some ⟨b2, 0, none⟩), .int .i64 0]) (by kernel_rfl) (fun w' hw => ⟨(some ⟨b2, 0, none⟩), rfl, (hw.pick [] (by kernel_rfl)).less (sub_ret [] [] (by kernel_rfl) (by kernel_rfl))⟩)
def fdb_New.f (a0 : api_Keep) : Option (Int) :=
 (ages_New.f a0.Room a0.Life).bind fun r2 =>
 bif (((((r2 != 0) || (decide (a0.Moves < 0))) || (decide (a0.Moves > 64))) || (decide (a0.Window < 1))) || (decide (a0.Window > 1099511627776))) then
  some 1
 else
  some 0
theorem fdb_New_calls (a0 : api_Keep) (r : Int) (h : fdb_New.f a0 = some r) : Does Tryz.prog 96 #[api_Keep.v a0] [] ([] ++ Glob) (fun x : (Option Addr) => .tuple #[.pointer x, .int .i64 r]) (fun x => []) (fun _ => []) (fun x => [] ++ ([] ++ Glob)) := by
 intro w Z hS
 refine callsS (args := [api_Keep.v a0]) (L := [(0, api_Keep.v a0)]) (N := 41) Tryz.func96 hS ?_
 have hM := h
 clear h hS
 unfold fdb_New.f at hM
 refine WP.seq ?_
 refine WP.rh [] (fun b1 => [(1, .pointer (some ⟨b1, 0, none⟩)), (2, .pointer none), (3, .int .i64 0)]) (fun b1 => []) (fun b1 => [(b1, api_Keep.o a0)]) (fun b1 => ?_)
 refine WP.seq (WP.region (WL.rn 4 [0, 0] [(8, .int .i64 a0.Room), (10, .int .i64 a0.Life)] ?_))
 obtain ⟨r2, h3, hM⟩ := bind_some hM
 refine WL.callX (F0 := []) [] [] [false] (fun _ => _) [] (by kernel_rfl) (ages_New_calls a0.Room a0.Life _ h3) rfl rfl (by kernel_rfl) (by kernel_rfl) (fun _ => rfl) (fun A4 => ?_)
 refine WL.rn 5 [] [(4, .pointer A4), (5, .int .i64 r2)] ?_
 refine WP.done (WP.seq (WP.seq (WP.region (WL.rn 3 [] [(16, .bool (r2 != 0))] ?_))))
 refine WL.bo 16 (r2 != 0) 4 [] [0] (fun b' => [(20, .bool (b' || (decide (a0.Moves < 0))))]) ?_
 refine WL.rn 1 [] [(21, .bool ((r2 != 0) || (decide (a0.Moves < 0))))] ?_
 refine WL.bo 21 ((r2 != 0) || (decide (a0.Moves < 0))) 4 [] [0] (fun b' => [(25, .bool (b' || (decide (a0.Moves > 64))))]) ?_
 refine WL.rn 1 [] [(26, .bool (((r2 != 0) || (decide (a0.Moves < 0))) || (decide (a0.Moves > 64))))] ?_
 refine WL.bo 26 (((r2 != 0) || (decide (a0.Moves < 0))) || (decide (a0.Moves > 64))) 4 [] [0] (fun b' => [(30, .bool (b' || (decide (a0.Window < 1))))]) ?_
 refine WL.rn 1 [] [(31, .bool ((((r2 != 0) || (decide (a0.Moves < 0))) || (decide (a0.Moves > 64))) || (decide (a0.Window < 1))))] ?_
 refine WL.bo 31 ((((r2 != 0) || (decide (a0.Moves < 0))) || (decide (a0.Moves > 64))) || (decide (a0.Window < 1))) 4 [] [0] (fun b' => [(35, .bool (b' || (decide (a0.Window > 1099511627776))))]) ?_
 refine WP.done ?_
 refine WP.cond (((((r2 != 0) || (decide (a0.Moves < 0))) || (decide (a0.Moves > 64))) || (decide (a0.Window < 1))) || (decide (a0.Window > 1099511627776))) rfl rfl (fun c5 => ?_) (fun c5 => ?_)
 ·replace hM := cond_t hM c5
  refine WP.seq (WP.rn [] [(2, .pointer none), (3, .int .i64 1)] ?_)
  obtain rfl := Option.some.inj hM
  exact WP.ret [] [] (.tuple #[.pointer none, .int .i64 1]) (by kernel_rfl) (fun w' hw => ⟨(none : Option Addr), rfl, (hw.pick [] (by kernel_rfl)).less (sub_ret [] [] (by kernel_rfl) (by kernel_rfl))⟩)
 ·replace hM := cond_f hM c5
  refine WP.skip (WP.seq ?_)
  refine WP.rh [0, 0, 0, 0] (fun b6 => [(2, .pointer (some ⟨(b6 + 1), 0, none⟩)), (3, .int .i64 0)]) (fun b6 => []) (fun b6 => [(b6, .map (mapE .u64 (fun xs : (List Int) => Value.nilIface) (MapS.nil : MapS (List Int))) (MapS.nil : MapS (List Int)).c), ((b6 + 1), .cells #[.pointer A4, .int .i64 a0.Room, .int .i64 a0.Life, .int .i64 a0.Moves, .int .i64 a0.Window, .map (some b6)] 265 (0, 0))]) (fun b6 => ?_)
  refine WP.kp [false, true, true] ?_
  obtain rfl := Option.some.inj hM
  exact WP.ret [] [] (.tuple #[.pointer (some ⟨(b6 + 1), 0, none⟩), .int .i64 0]) (by kernel_rfl) (fun w' hw => ⟨(some ⟨(b6 + 1), 0, none⟩), rfl, (hw.pick [] (by kernel_rfl)).less (sub_ret [] [] (by kernel_rfl) (by kernel_rfl))⟩)
def bridge_New.l2 (a0 : (List api_PortCfg)) : Nat → Int → (List api_PortCfg) → Option (Int)
 | 0, _, _ => none
 | n + 1, x24, x25 =>
  bif decide (x24 < (a0.length : Int)) then
   (getL a0.length a0 x24).bind fun t28 =>
   (slices_Clone_int_int.f t28.Vids).bind fun r31 =>
   (roomL 40 (x25 ++ ([(api_PortCfg.mk t28.Trunk t28.Pvid r31)] : List api_PortCfg)).length).bind fun u36 =>
   bridge_New.l2 a0 n (i64 (x24 + 1)) (x25 ++ ([(api_PortCfg.mk t28.Trunk t28.Pvid r31)] : List api_PortCfg))
  else
   some 0
def bridge_New.k1 (a1 : api_Keep) (a0 : (List api_PortCfg)) (k : Nat) (x5 : Bool) : Option (Int) :=
 bif x5 then
  some 1
 else
  (fdb_New.f a1).bind fun r7 =>
  bif (r7 != 0) then
   some r7
  else
   bridge_New.l2 a0 k 0 ([] : List api_PortCfg)
def bridge_New.f (k : Nat) (a0 : (List api_PortCfg)) (a1 : api_Keep) : Option (Int) :=
 bif decide ((a0.length : Int) > 64) then
  bridge_New.k1 a1 a0 k true
 else
  (api_PortCfg_2.f k a0).bind fun r3 =>
  bridge_New.k1 a1 a0 k r3
theorem bridge_New_calls (k : Nat) (A00 : SkL (SkL Unit)) (a0 : (List api_PortCfg)) (a1 : api_Keep) (r : Int) (h : bridge_New.f k a0 a1 = some r) : Does Tryz.prog 53 #[slcV A00 a0.length, api_Keep.v a1] [] ([Row 3 api_PortCfg.encS api_PortCfg.inK A00 a0] ++ Glob) (fun x : (Option Addr) => .tuple #[.pointer x, .int .i64 r]) (fun x => []) (fun _ => []) (fun x => [] ++ ([Row 3 api_PortCfg.encS api_PortCfg.inK A00 a0] ++ Glob)) := by
 intro w Z hS
 refine callsS (args := [slcV A00 a0.length, api_Keep.v a1]) (L := [(0, slcV A00 a0.length), (1, api_Keep.v a1)]) (N := 54) Tryz.func53 hS ?_
 have hM := h
 clear h hS
 unfold bridge_New.f at hM
 refine WP.seq ?_
 refine WP.rh [] (fun b1 => [(3, .pointer (some ⟨b1, 0, none⟩)), (4, .pointer none), (5, .int .i64 0)]) (fun b1 => []) (fun b1 => [(b1, api_Keep.o a1)]) (fun b1 => ?_)
 refine WP.seq (WP.seq (WP.region (WL.rn 4 [] [(14, .bool (decide ((a0.length : Int) > 64)))] ?_)))
 refine WL.join (σ := Bool) 3 (fun st => bridge_New.k1 a1 a0 k st = some r) (fun st => [(0, slcV A00 a0.length), (3, .pointer (some ⟨b1, 0, none⟩)), (4, .pointer none), (5, .int .i64 0), (17, .bool st)]) (fun st => Sat w Z [(b1, api_Keep.o a1)] [] ([Row 3 api_PortCfg.encS api_PortCfg.inK A00 a0] ++ Glob)) (fun st hM => ?_) (fun K1 => ?_)
 ·
  obtain ⟨x5, rfl⟩ : ∃ y, y = st := ⟨st, rfl⟩
  replace hM : bridge_New.k1 a1 a0 k x5 = some r := hM
  unfold bridge_New.k1 at hM
  try dsimp only
  refine WP.done ?_
  refine WP.cond x5 rfl rfl (fun c6 => ?_) (fun c6 => ?_)
  ·replace hM := cond_t hM c6
   refine WP.seq (WP.rn [] [(4, .pointer none), (5, .int .i64 1)] ?_)
   obtain rfl := Option.some.inj hM
   exact WP.ret [] [] (.tuple #[.pointer none, .int .i64 1]) (by kernel_rfl) (fun w' hw => ⟨(none : Option Addr), rfl, (hw.pick [] (by kernel_rfl)).less (sub_ret [] [0] (by kernel_rfl) (by kernel_rfl))⟩)
  ·replace hM := cond_f hM c6
   refine WP.skip (WP.seq (WP.region (WL.rn 1 [0, 0, 0, 0] [(19, api_Keep.v a1)] ?_)))
   obtain ⟨r7, h8, hM⟩ := bind_some hM
   refine WL.callX (F0 := []) [] [] [false] (fun _ => _) [] (by kernel_rfl) (fdb_New_calls a1 _ h8) rfl rfl (by kernel_rfl) (by kernel_rfl) (fun _ => rfl) (fun A9 => ?_)
   refine WL.rn 5 [] [(6, .pointer A9), (7, .int .i64 r7)] ?_
   refine WP.done (WP.kp [false] ?_)
   refine WP.seq (WP.seq (WP.rn [] [(24, .bool (r7 != 0))] ?_))
   refine WP.cond (r7 != 0) rfl rfl (fun c10 => ?_) (fun c10 => ?_)
   ·replace hM := cond_t hM c10
    refine WP.seq (WP.rn [] [(4, .pointer none), (5, .int .i64 r7)] ?_)
    obtain rfl := Option.some.inj hM
    exact WP.ret [] [] (.tuple #[.pointer none, .int .i64 r7]) (by kernel_rfl) (fun w' hw => ⟨(none : Option Addr), rfl, (hw.pick [] (by kernel_rfl)).less (sub_ret [] [0] (by kernel_rfl) (by kernel_rfl))⟩)
   ·replace hM := cond_f hM c10
    refine WP.skip (WP.seq ?_)
    refine WP.rh [] (fun b11 => [(8, .pointer (some ⟨b11, 0, none⟩))]) (fun b11 => []) (fun b11 => [(b11, .cells #[.slice none 0 0, .int .i64 0, .int .i64 0, .int .i64 0, .int .i64 0, .int .i64 0, .int .i64 0, .int .i64 0, .int .i64 0, .int .i64 0, .int .i64 0, .int .i64 0, .int .i64 0, .int .i64 0, .int .i64 0, .int .i64 0, .int .i64 0, .int .i64 0, .int .i64 0, .int .i64 0, .int .i64 0, .int .i64 0, .int .i64 0, .int .i64 0, .int .i64 0, .int .i64 0, .int .i64 0, .int .i64 0, .int .i64 0, .int .i64 0, .int .i64 0, .int .i64 0, .int .i64 0, .int .i64 0, .int .i64 0, .int .i64 0, .int .i64 0, .int .i64 0, .int .i64 0, .int .i64 0, .int .i64 0, .int .i64 0, .int .i64 0, .int .i64 0, .int .i64 0, .int .i64 0, .int .i64 0, .int .i64 0, .int .i64 0, .int .i64 0, .int .i64 0, .int .i64 0, .int .i64 0, .int .i64 0, .int .i64 0, .int .i64 0, .int .i64 0, .int .i64 0, .int .i64 0, .int .i64 0, .int .i64 0, .int .i64 0, .int .i64 0, .int .i64 0, .int .i64 0, .int .i64 0, .pointer A9] 190 (0, 0))]) (fun b11 => ?_)
    refine WP.seq (WP.seq (WP.rn [] [(29, slcV A00 a0.length), (30, .int .i64 (a0.length : Int)), (31, .int .i64 0)] ?_))
    refine WP.block ?_
    refine WP.growNil 3 84 api_PortCfg.encS api_PortCfg.inK (fun _ => (SkL.nil (fun _ => ()))) ?_
    skip
    refine WP.sub [4, 5, 8, 29, 30, 31] (L' := [(4, .pointer none), (5, .int .i64 0), (8, .pointer (some ⟨b11, 0, none⟩)), (29, slcV A00 a0.length), (30, .int .i64 (a0.length : Int)), (31, .int .i64 0)]) (by kernel_rfl) ?_
    refine WP.lessF [0, 0, 1] (F' := [GIn api_PortCfg.inK (SkL.nil (fun _ => (SkL.nil (fun _ => ())))) ([] : List api_PortCfg), GIn api_PortCfg.inK (SkL.nil (fun _ => (SkL.nil (fun _ => ())))) ([] : List api_PortCfg), Row 3 api_PortCfg.encS api_PortCfg.inK A00 a0]) (by kernel_rfl) ?_
    refine WP.loop (σ := Int × (List api_PortCfg) × SkL (SkL Unit)) (fun n st => bridge_New.l2 a0 n st.1 st.2.1) r (fun st => [(4, .pointer none), (5, .int .i64 0), (8, .pointer (some ⟨b11, 0, none⟩)), (29, slcV A00 a0.length), (30, .int .i64 (a0.length : Int)), (31, .int .i64 st.1)]) (fun st => Sat w Z [(b11, .cells #[slcV st.2.2 st.2.1.length, .int .i64 0, .int .i64 0, .int .i64 0, .int .i64 0, .int .i64 0, .int .i64 0, .int .i64 0, .int .i64 0, .int .i64 0, .int .i64 0, .int .i64 0, .int .i64 0, .int .i64 0, .int .i64 0, .int .i64 0, .int .i64 0, .int .i64 0, .int .i64 0, .int .i64 0, .int .i64 0, .int .i64 0, .int .i64 0, .int .i64 0, .int .i64 0, .int .i64 0, .int .i64 0, .int .i64 0, .int .i64 0, .int .i64 0, .int .i64 0, .int .i64 0, .int .i64 0, .int .i64 0, .int .i64 0, .int .i64 0, .int .i64 0, .int .i64 0, .int .i64 0, .int .i64 0, .int .i64 0, .int .i64 0, .int .i64 0, .int .i64 0, .int .i64 0, .int .i64 0, .int .i64 0, .int .i64 0, .int .i64 0, .int .i64 0, .int .i64 0, .int .i64 0, .int .i64 0, .int .i64 0, .int .i64 0, .int .i64 0, .int .i64 0, .int .i64 0, .int .i64 0, .int .i64 0, .int .i64 0, .int .i64 0, .int .i64 0, .int .i64 0, .int .i64 0, .int .i64 0, .pointer A9] 190 (0, 0))] [OwnR 3 84 api_PortCfg.encS st.2.2 st.2.1] ([GIn api_PortCfg.inK st.2.2 st.2.1, GIn api_PortCfg.inK (SkL.nil (fun _ => (SkL.nil (fun _ => ())))) ([] : List api_PortCfg), Row 3 api_PortCfg.encS api_PortCfg.inK A00 a0] ++ Glob)) (st := (0, ([] : List api_PortCfg), (SkL.nil (fun _ => (SkL.nil (fun _ => ())))))) (fun n st hM => ?_) hM
    rcases n with _ | n
    ·exact nomatch (show (none : Option _) = some r from hM)
    obtain ⟨x24, x25, A26⟩ := st
    replace hM : bridge_New.l2 a0 (n + 1) x24 x25 = some r := hM
    rw [bridge_New.l2] at hM
    try dsimp only
    refine WP.seq (WP.rn [] [(32, .bool (decide (x24 < (a0.length : Int))))] ?_)
    refine WP.seq ?_
    refine WP.cond (decide (x24 < (a0.length : Int))) rfl rfl (fun c27 => ?_) (fun c27 => ?_)
    ·replace hM := cond_t hM c27
     refine WP.skip (WP.seq (WP.block (WP.seq (WP.region ?_))))
     obtain ⟨t28, h29, hM⟩ := bind_some hM
     refine WL.valF (φ := Row 3 api_PortCfg.encS api_PortCfg.inK A00 a0) (fact_at 2 rfl) (fun w hR => run_indexRowF (A := A00) (xs := a0) (i := x24) (k := .i64) (e := 84) (m := 3) (by kernel_rfl) (by kernel_rfl) h29 (by kernel_rfl) (by kernel_rfl) hR) (by kernel_rfl) (by kernel_rfl) rfl ?_
     refine WL.valF (φ := Row 3 api_PortCfg.encS api_PortCfg.inK A00 a0) (fact_at 2 rfl) (fun w hR => run_loadRowFA (A := A00) (xs := a0) (i := x24) (j := 0) (n := 3) (vs := [.bool t28.Trunk, .int .i64 t28.Pvid, slcV (A00.s (Int.toNat x24)) t28.Vids.length]) h29 (fun _ => by kernel_rfl) (by kernel_rfl) (by kernel_rfl) (by kernel_rfl) rfl hR) (by kernel_rfl) (by kernel_rfl) rfl ?_
     refine WL.know (Row 1 (pl (encI .i64)) noK (A00.s (Int.toNat x24)) t28.Vids) [2] [Row 3 api_PortCfg.encS api_PortCfg.inK A00 a0] (by kernel_rfl) (fun w hψ => ((hψ _ (List.mem_singleton.2 rfl)).inner _ _ (getL_parts h29).2)) ?_
     refine WL.rh 2 [1, 1, 1] (fun b30 => [(10, .pointer (some ⟨b30, 0, none⟩))]) (fun b30 => []) (fun b30 => [(b30, .cells #[.bool t28.Trunk, .int .i64 t28.Pvid, slcV (A00.s (Int.toNat x24)) t28.Vids.length] 84 (0, 0))]) (fun b30 => ?_)
     refine WP.done ?_
     obtain ⟨r31, h32, hM⟩ := bind_some hM
     obtain ⟨u36, h35, hM⟩ := bind_some hM
     refine WP.rs [4, 5, 8, 10, 29, 30, 31, 32, 33, 34] ?_
     refine WP.graphF (X := ((SkL Unit) × Nat × (SkL (SkL Unit)))) 18 6 [⟨0, 17, fun _ => [(b11, .cells #[slcV A26 x25.length, .int .i64 0, .int .i64 0, .int .i64 0, .int .i64 0, .int .i64 0, .int .i64 0, .int .i64 0, .int .i64 0, .int .i64 0, .int .i64 0, .int .i64 0, .int .i64 0, .int .i64 0, .int .i64 0, .int .i64 0, .int .i64 0, .int .i64 0, .int .i64 0, .int .i64 0, .int .i64 0, .int .i64 0, .int .i64 0, .int .i64 0, .int .i64 0, .int .i64 0, .int .i64 0, .int .i64 0, .int .i64 0, .int .i64 0, .int .i64 0, .int .i64 0, .int .i64 0, .int .i64 0, .int .i64 0, .int .i64 0, .int .i64 0, .int .i64 0, .int .i64 0, .int .i64 0, .int .i64 0, .int .i64 0, .int .i64 0, .int .i64 0, .int .i64 0, .int .i64 0, .int .i64 0, .int .i64 0, .int .i64 0, .int .i64 0, .int .i64 0, .int .i64 0, .int .i64 0, .int .i64 0, .int .i64 0, .int .i64 0, .int .i64 0, .int .i64 0, .int .i64 0, .int .i64 0, .int .i64 0, .int .i64 0, .int .i64 0, .int .i64 0, .int .i64 0, .int .i64 0, .pointer A9] 190 (0, 0))], fun _ => []⟩, ⟨0, 18, fun _ => [(b30, .cells #[.bool t28.Trunk, .int .i64 t28.Pvid, slcV (A00.s (Int.toNat x24)) t28.Vids.length] 84 (0, 0))], fun _ => []⟩, ⟨0, 14, fun _ => [], fun _ => [OwnR 3 84 api_PortCfg.encS A26 x25]⟩, ⟨14, 14, fun ξ => [((ξ 13).2.1, .cells #[.bool t28.Trunk, .int .i64 t28.Pvid, slcV (ξ 11).1 r31.length] 84 (0, 0))], fun ξ => []⟩, ⟨15, 18, fun ξ => [], fun ξ => [OwnR 3 84 api_PortCfg.encS (ξ 14).2.2 (x25 ++ ([(api_PortCfg.mk t28.Trunk t28.Pvid r31)] : List api_PortCfg))]⟩, ⟨18, 18, fun ξ => [(b11, .cells #[slcV (ξ 14).2.2 (x25 ++ ([(api_PortCfg.mk t28.Trunk t28.Pvid r31)] : List api_PortCfg)).length, .int .i64 0, .int .i64 0, .int .i64 0, .int .i64 0, .int .i64 0, .int .i64 0, .int .i64 0, .int .i64 0, .int .i64 0, .int .i64 0, .int .i64 0, .int .i64 0, .int .i64 0, .int .i64 0, .int .i64 0, .int .i64 0, .int .i64 0, .int .i64 0, .int .i64 0, .int .i64 0, .int .i64 0, .int .i64 0, .int .i64 0, .int .i64 0, .int .i64 0, .int .i64 0, .int .i64 0, .int .i64 0, .int .i64 0, .int .i64 0, .int .i64 0, .int .i64 0, .int .i64 0, .int .i64 0, .int .i64 0, .int .i64 0, .int .i64 0, .int .i64 0, .int .i64 0, .int .i64 0, .int .i64 0, .int .i64 0, .int .i64 0, .int .i64 0, .int .i64 0, .int .i64 0, .int .i64 0, .int .i64 0, .int .i64 0, .int .i64 0, .int .i64 0, .int .i64 0, .int .i64 0, .int .i64 0, .int .i64 0, .int .i64 0, .int .i64 0, .int .i64 0, .int .i64 0, .int .i64 0, .int .i64 0, .int .i64 0, .int .i64 0, .int .i64 0, .int .i64 0, .pointer A9] 190 (0, 0))], fun ξ => []⟩] [⟨[], [], [], [], [], fun _ => .pointer (some ⟨b11, 0, none⟩), fun _ => []⟩, ⟨[], [], [], [], [], fun _ => .pointer (some ⟨b11, 0, none⟩), fun _ => []⟩, ⟨[1], [], [], [], [], fun _ => .pointer (some ⟨b11, 0, none⟩), fun _ => []⟩, ⟨[1, 2], [], [], [], [], fun _ => .pointer (some ⟨b11, 0, none⟩), fun _ => []⟩, ⟨[1, 2, 3], [0], [0], [], [], fun _ => slcV A26 x25.length, fun _ => []⟩, ⟨[], [], [], [], [], fun _ => .pointer (some ⟨b30, 0, none⟩), fun _ => []⟩, ⟨[5], [1], [1], [], [], fun _ => .bool t28.Trunk, fun _ => []⟩, ⟨[], [], [], [], [], fun _ => .pointer (some ⟨b30, 1, none⟩), fun _ => []⟩, ⟨[7], [1], [1], [], [], fun _ => .int .i64 t28.Pvid, fun _ => []⟩, ⟨[], [], [], [], [], fun _ => .pointer (some ⟨b30, 2, none⟩), fun _ => []⟩, ⟨[9], [1], [1], [], [], fun _ => slcV (A00.s (Int.toNat x24)) t28.Vids.length, fun _ => []⟩, ⟨[9, 10], [], [], [], [], fun ξ => slcV (ξ 11).1 r31.length, fun ξ => [Row 1 (pl (encI .i64)) noK (ξ 11).1 r31]⟩, ⟨[5, 6, 7, 8, 9, 10, 11], [], [], [11], [], fun ξ => .agg #[.bool t28.Trunk, .int .i64 t28.Pvid, slcV (ξ 11).1 r31.length], fun ξ => []⟩, ⟨[5, 6, 7, 8, 9, 10, 11, 12], [], [3], [11], [], fun ξ => .slice (some ⟨(ξ 13).2.1, 0, none⟩) 1 1, fun ξ => []⟩, ⟨[1, 2, 3, 4, 5, 6, 7, 8, 9, 10, 11, 12, 13], [3, 2], [4], [11, 13], [], fun ξ => slcV (ξ 14).2.2 (x25 ++ ([(api_PortCfg.mk t28.Trunk t28.Pvid r31)] : List api_PortCfg)).length, fun ξ => [GIn api_PortCfg.inK (ξ 14).2.2 (x25 ++ ([(api_PortCfg.mk t28.Trunk t28.Pvid r31)] : List api_PortCfg)), Row 3 api_PortCfg.encS api_PortCfg.inK (SkL.at (ξ 13).2.1 1 (skF [(ξ 11).1] (SkL.nil (fun _ => ())))) ([(api_PortCfg.mk t28.Trunk t28.Pvid r31)] : List api_PortCfg)]⟩, ⟨[0, 1, 2, 3, 4, 5, 6, 7, 8, 9, 10, 11, 12, 13, 14], [], [], [], [], fun _ => .pointer (some ⟨b11, 0, none⟩), fun _ => []⟩, ⟨[0, 1, 2, 3, 4, 5, 6, 7, 8, 9, 10, 11, 12, 13, 14, 15], [], [], [], [], fun _ => .pointer (some ⟨b11, 0, none⟩), fun _ => []⟩, ⟨[0, 1, 2, 3, 4, 5, 6, 7, 8, 9, 10, 11, 12, 13, 14, 15, 16], [0], [5], [14], [], fun _ => .tuple #[], fun _ => []⟩] (fun ξ => [(35, .pointer (some ⟨b11, 0, none⟩)), (36, .pointer (some ⟨b11, 0, none⟩)), (37, .pointer (some ⟨b11, 0, none⟩)), (38, .pointer (some ⟨b11, 0, none⟩)), (40, .pointer (some ⟨b30, 0, none⟩)), (41, .bool t28.Trunk), (42, .pointer (some ⟨b30, 1, none⟩)), (43, .int .i64 t28.Pvid), (44, .pointer (some ⟨b30, 2, none⟩)), (45, slcV (A00.s (Int.toNat x24)) t28.Vids.length), (46, slcV (ξ 11).1 r31.length), (47, .agg #[.bool t28.Trunk, .int .i64 t28.Pvid, slcV (ξ 11).1 r31.length]), (49, slcV (ξ 14).2.2 (x25 ++ ([(api_PortCfg.mk t28.Trunk t28.Pvid r31)] : List api_PortCfg)).length), (50, .pointer (some ⟨b11, 0, none⟩)), (51, .pointer (some ⟨b11, 0, none⟩))]) (fun ξ => [(b30, .cells #[.bool t28.Trunk, .int .i64 t28.Pvid, slcV (A00.s (Int.toNat x24)) t28.Vids.length] 84 (0, 0)), (b11, .cells #[slcV (ξ 14).2.2 (x25 ++ ([(api_PortCfg.mk t28.Trunk t28.Pvid r31)] : List api_PortCfg)).length, .int .i64 0, .int .i64 0, .int .i64 0, .int .i64 0, .int .i64 0, .int .i64 0, .int .i64 0, .int .i64 0, .int .i64 0, .int .i64 0, .int .i64 0, .int .i64 0, .int .i64 0, .int .i64 0, .int .i64 0, .int .i64 0, .int .i64 0, .int .i64 0, .int .i64 0, .int .i64 0, .int .i64 0, .int .i64 0, .int .i64 0, .int .i64 0, .int .i64 0, .int .i64 0, .int .i64 0, .int .i64 0, .int .i64 0, .int .i64 0, .int .i64 0, .int .i64 0, .int .i64 0, .int .i64 0, .int .i64 0, .int .i64 0, .int .i64 0, .int .i64 0, .int .i64 0, .int .i64 0, .int .i64 0, .int .i64 0, .int .i64 0, .int .i64 0, .int .i64 0, .int .i64 0, .int .i64 0, .int .i64 0, .int .i64 0, .int .i64 0, .int .i64 0, .int .i64 0, .int .i64 0, .int .i64 0, .int .i64 0, .int .i64 0, .int .i64 0, .int .i64 0, .int .i64 0, .int .i64 0, .int .i64 0, .int .i64 0, .int .i64 0, .int .i64 0, .int .i64 0, .pointer A9] 190 (0, 0))]) (fun ξ => [OwnR 3 84 api_PortCfg.encS (ξ 14).2.2 (x25 ++ ([(api_PortCfg.mk t28.Trunk t28.Pvid r31)] : List api_PortCfg))]) (fun ξ => [Row 1 (pl (encI .i64)) noK (ξ 11).1 r31, GIn api_PortCfg.inK (ξ 14).2.2 (x25 ++ ([(api_PortCfg.mk t28.Trunk t28.Pvid r31)] : List api_PortCfg)), Row 3 api_PortCfg.encS api_PortCfg.inK (SkL.at (ξ 13).2.1 1 (skF [(ξ 11).1] (SkL.nil (fun _ => ())))) ([(api_PortCfg.mk t28.Trunk t28.Pvid r31)] : List api_PortCfg)]) (AllN.cons ?_ (AllN.cons ?_ (AllN.cons ?_ (AllN.cons ?_ (AllN.cons ?_ (AllN.cons ?_ (AllN.cons ?_ (AllN.cons ?_ (AllN.cons ?_ (AllN.cons ?_ (AllN.cons ?_ (AllN.cons ?_ (AllN.cons ?_ (AllN.cons ?_ (AllN.cons ?_ (AllN.cons ?_ (AllN.cons ?_ (AllN.cons ?_ AllN.nil)))))))))))))))))) (AllN.cons (VAgr.c rfl) (AllN.cons (VAgr.c rfl) (AllN.cons (VAgr.c rfl) (AllN.cons (VAgr.c rfl) (AllN.cons (VAgr.c rfl) (AllN.cons (VAgr.c rfl) (AllN.cons (VAgr.c rfl) (AllN.cons (VAgr.c rfl) (AllN.cons (VAgr.c rfl) (AllN.cons (VAgr.c rfl) (AllN.cons (VAgr.c rfl) (AllN.cons (fun t ht ξ ξ' h => by cases ht; have e11 : ξ 11 = ξ' 11 := h 11 (memN_iff.1 rfl); exact ⟨by first | rfl | simp only [e11], by first | rfl | simp only [e11]⟩) (AllN.cons (fun t ht ξ ξ' h => by cases ht; have e11 : ξ 11 = ξ' 11 := h 11 (memN_iff.1 rfl); exact ⟨by first | rfl | simp only [e11], by first | rfl | simp only [e11]⟩) (AllN.cons (fun t ht ξ ξ' h => by cases ht; have e13 : ξ 13 = ξ' 13 := h 13 (memN_iff.1 rfl); exact ⟨by first | rfl | simp only [e13], by first | rfl | simp only [e13]⟩) (AllN.cons (fun t ht ξ ξ' h => by cases ht; have e11 : ξ 11 = ξ' 11 := h 11 (memN_iff.1 rfl); have e13 : ξ 13 = ξ' 13 := h 13 (memN_iff.1 rfl); have e14 : ξ 14 = ξ' 14 := h 14 (memN_iff.1 rfl); exact ⟨by first | rfl | simp only [e11, e13, e14], by first | rfl | simp only [e11, e13, e14]⟩) (AllN.cons (VAgr.c rfl) (AllN.cons (VAgr.c rfl) (AllN.cons (VAgr.c rfl) AllN.nil)))))))))))))))))) (AllN.cons (RAgr.c rfl) (AllN.cons (RAgr.c rfl) (AllN.cons (RAgr.c rfl) (AllN.cons (fun r hr ξ ξ' h => by cases hr; have e11 : ξ 11 = ξ' 11 := h 11 (memN_iff.1 rfl); have e13 : ξ 13 = ξ' 13 := h 13 (memN_iff.1 rfl); exact ⟨by first | rfl | simp only [e11, e13], by first | rfl | simp only [e11, e13]⟩) (AllN.cons (fun r hr ξ ξ' h => by cases hr; have e14 : ξ 14 = ξ' 14 := h 14 (memN_iff.1 rfl); exact ⟨by first | rfl | simp only [e14], by first | rfl | simp only [e14]⟩) (AllN.cons (fun r hr ξ ξ' h => by cases hr; have e14 : ξ 14 = ξ' 14 := h 14 (memN_iff.1 rfl); exact ⟨by first | rfl | simp only [e14], by first | rfl | simp only [e14]⟩) AllN.nil)))))) (fun ξ => ?_)
     ·
      intro o t ho ht ξ Gr Γr Lr Q hk
      cases ho; cases ht
      refine WL.rn 1 [] [(35, .pointer (some ⟨b11, 0, none⟩))] ?_
      exact WL.fin (hk default)
     ·
      intro o t ho ht ξ Gr Γr Lr Q hk
      cases ho; cases ht
      refine WL.rn 1 [] [(36, .pointer (some ⟨b11, 0, none⟩))] ?_
      exact WL.fin (hk default)
     ·
      intro o t ho ht ξ Gr Γr Lr Q hk
      cases ho; cases ht
      refine WL.rn 1 [] [(37, .pointer (some ⟨b11, 0, none⟩))] ?_
      exact WL.fin (hk default)
     ·
      intro o t ho ht ξ Gr Γr Lr Q hk
      cases ho; cases ht
      refine WL.rn 1 [] [(38, .pointer (some ⟨b11, 0, none⟩))] ?_
      exact WL.fin (hk default)
     ·
      intro o t ho ht ξ Gr Γr Lr Q hk
      cases ho; cases ht
      refine WL.rn 1 [0] [(39, slcV A26 x25.length)] ?_
      exact WL.fin (hk default)
     ·
      intro o t ho ht ξ Gr Γr Lr Q hk
      cases ho; cases ht
      refine WL.rn 1 [] [(40, .pointer (some ⟨b30, 0, none⟩))] ?_
      exact WL.fin (hk default)
     ·
      intro o t ho ht ξ Gr Γr Lr Q hk
      cases ho; cases ht
      refine WL.rn 1 [0] [(41, .bool t28.Trunk)] ?_
      exact WL.fin (hk default)
     ·
      intro o t ho ht ξ Gr Γr Lr Q hk
      cases ho; cases ht
      refine WL.rn 1 [] [(42, .pointer (some ⟨b30, 1, none⟩))] ?_
      exact WL.fin (hk default)
     ·
      intro o t ho ht ξ Gr Γr Lr Q hk
      cases ho; cases ht
      refine WL.rn 1 [0] [(43, .int .i64 t28.Pvid)] ?_
      exact WL.fin (hk default)
     ·
      intro o t ho ht ξ Gr Γr Lr Q hk
      cases ho; cases ht
      refine WL.rn 1 [] [(44, .pointer (some ⟨b30, 2, none⟩))] ?_
      exact WL.fin (hk default)
     ·
      intro o t ho ht ξ Gr Γr Lr Q hk
      cases ho; cases ht
      refine WL.rn 1 [0] [(45, slcV (A00.s (Int.toNat x24)) t28.Vids.length)] ?_
      exact WL.fin (hk default)
     ·
      intro o t ho ht ξ Gr Γr Lr Q hk
      cases ho; cases ht
      refine WL.callX (F0 := [Row 1 (pl (encI .i64)) noK (A00.s (Int.toNat x24)) t28.Vids]) [] [] [] (fun _ => _) [0] (by kernel_rfl) (slices_Clone_int_int_calls (A00.s (Int.toNat x24)) t28.Vids _ h32) rfl rfl (by kernel_rfl) (by kernel_rfl) (fun _ => rfl) (fun A33 => ?_)
      exact WL.fin (hk (A33, default, default))
     ·
      intro o t ho ht ξ Gr Γr Lr Q hk
      cases ho; cases ht
      refine WL.rn 1 [] [(47, .agg #[.bool t28.Trunk, .int .i64 t28.Pvid, slcV (ξ 11).1 r31.length])] ?_
      exact WL.fin (hk default)
     ·
      intro o t ho ht ξ Gr Γr Lr Q hk
      cases ho; cases ht
      refine WL.rh 1 [] (fun b34 => [(48, .slice (some ⟨b34, 0, none⟩) 1 1)]) (fun b34 => []) (fun b34 => [(b34, .cells #[.bool t28.Trunk, .int .i64 t28.Pvid, slcV (ξ 11).1 r31.length] 84 (0, 0))]) (fun b34 => ?_)
      exact WL.fin (hk (default, b34, default))
     ·
      intro o t ho ht ξ Gr Γr Lr Q hk
      cases ho; cases ht
      refine WL.ice (H' := []) (Row 3 api_PortCfg.encS api_PortCfg.inK (SkL.at (ξ 13).2.1 1 (skF [(ξ 11).1] (SkL.nil (fun _ => ())))) ([(api_PortCfg.mk t28.Trunk t28.Pvid r31)] : List api_PortCfg)) 0 (b := (ξ 13).2.1) (ob := .cells #[.bool t28.Trunk, .int .i64 t28.Pvid, slcV (ξ 11).1 r31.length] 84 (0, 0)) (by kernel_rfl) [0] [Row 1 (pl (encI .i64)) noK (ξ 11).1 r31] (by kernel_rfl) (fun w hb hψ => row_of_block hb (fun _ _ => rfl) ⟨[], by kernel_rfl⟩ (Nat.le_of_ble_eq_true rfl) (And.intro (hψ _ (List.mem_of_getElem? (i := 0) rfl)) trivial)) (by kernel_rfl) ?_
      refine WL.growApp (G' := Gr) (A := A26) (B := (SkL.at (ξ 13).2.1 1 (skF [(ξ 11).1] (SkL.nil (fun _ => ()))))) (xs := x25) (ys := ([(api_PortCfg.mk t28.Trunk t28.Pvid r31)] : List api_PortCfg)) (m := 3) (by_ := 40) (e := 84) (z := .agg #[.bool false, .int .i64 0, .slice none 0 0]) (f := api_PortCfg.encS) (K := api_PortCfg.inK) (d := 49) 0 rfl rfl (by kernel_rfl) (by kernel_rfl) (by kernel_rfl) (by kernel_rfl) (by kernel_rfl) (fun _ _ => rfl) (fun _ _ => rfl) (by kernel_rfl) (by kernel_rfl) (by kernel_rfl) (by kernel_rfl) (by kernel_rfl) (fact_at 3 rfl) (fact_at 0 rfl) h35 (by kernel_rfl) (fun A37 => ?_)
      refine WL.less (Φ' := (([GIn api_PortCfg.inK A37 (x25 ++ ([(api_PortCfg.mk t28.Trunk t28.Pvid r31)] : List api_PortCfg)), Row 3 api_PortCfg.encS api_PortCfg.inK (SkL.at (ξ 13).2.1 1 (skF [(ξ 11).1] (SkL.nil (fun _ => ())))) ([(api_PortCfg.mk t28.Trunk t28.Pvid r31)] : List api_PortCfg), Row 1 (pl (encI .i64)) noK (ξ 11).1 r31, Row 1 (pl (encI .i64)) noK (A00.s (Int.toNat x24)) t28.Vids, GIn api_PortCfg.inK A26 x25, GIn api_PortCfg.inK (SkL.nil (fun _ => (SkL.nil (fun _ => ())))) ([] : List api_PortCfg), Row 3 api_PortCfg.encS api_PortCfg.inK A00 a0] ++ Γr) ++ Glob)) (fun _ h => h) ?_
      exact WL.fin (hk (default, default, A37))
     ·
      intro o t ho ht ξ Gr Γr Lr Q hk
      cases ho; cases ht
      refine WL.rn 1 [] [(50, .pointer (some ⟨b11, 0, none⟩))] ?_
      exact WL.fin (hk default)
     ·
      intro o t ho ht ξ Gr Γr Lr Q hk
      cases ho; cases ht
      refine WL.rn 1 [] [(51, .pointer (some ⟨b11, 0, none⟩))] ?_
      exact WL.fin (hk default)
     ·
      intro o t ho ht ξ Gr Γr Lr Q hk
      cases ho; cases ht
      refine WL.rh 1 [0] (fun _ => []) (fun _ => [(0, 0, [slcV (ξ 14).2.2 (x25 ++ ([(api_PortCfg.mk t28.Trunk t28.Pvid r31)] : List api_PortCfg)).length])]) (fun _ => []) (fun _ => ?_)
      exact WL.fin (hk default)
     generalize (ξ 11).1 = A33
     generalize (ξ 13).2.1 = b34
     generalize (ξ 14).2.2 = A37
     refine WP.less (Φ' := ([Row 1 (pl (encI .i64)) noK A33 r31, GIn api_PortCfg.inK A37 (x25 ++ ([(api_PortCfg.mk t28.Trunk t28.Pvid r31)] : List api_PortCfg)), Row 3 api_PortCfg.encS api_PortCfg.inK (SkL.at b34 1 (skF [A33] (SkL.nil (fun _ => ())))) ([(api_PortCfg.mk t28.Trunk t28.Pvid r31)] : List api_PortCfg), Row 1 (pl (encI .i64)) noK (A00.s (Int.toNat x24)) t28.Vids, GIn api_PortCfg.inK A26 x25, GIn api_PortCfg.inK (SkL.nil (fun _ => (SkL.nil (fun _ => ())))) ([] : List api_PortCfg), Row 3 api_PortCfg.encS api_PortCfg.inK A00 a0] ++ Glob)) (fun _ h => h) ?_
     refine WP.leave (WP.rn [] [(31, .int .i64 (i64 (x24 + 1))), (52, .int .i64 (i64 (x24 + 1)))] ?_)
     exact WP.again' [4, 5, 8, 29, 30, 31] (i64 (x24 + 1), (x25 ++ ([(api_PortCfg.mk t28.Trunk t28.Pvid r31)] : List api_PortCfg)), A37) hM (by kernel_rfl) (fun _ h => ((h.pick [1] (by kernel_rfl)).lessF [1, 5, 6] (by kernel_rfl)).pickG [0] [] 1 rfl (by decide) (by kernel_rfl))
    ·replace hM := cond_f hM c27
     refine WP.exit rfl (WP.seq ?_)
     refine WP.rn [] [(4, .pointer (some ⟨b11, 0, none⟩)), (5, .int .i64 0)] ?_
     refine WP.pickG (G' := []) [] [0] 1 rfl (by decide) (by kernel_rfl) ?_
     obtain rfl := Option.some.inj hM
     exact WP.ret [] [] (.tuple #[.pointer (some ⟨b11, 0, none⟩), .int .i64 0]) (by kernel_rfl) (fun w' hw => ⟨(some ⟨b11, 0, none⟩), rfl, (hw.pick [] (by kernel_rfl)).less (sub_ret [] [2] (by kernel_rfl) (by kernel_rfl))⟩)
 ·
  refine WL.sp 14 (decide ((a0.length : Int) > 64)) (fun c2 => ?_) (fun c2 => ?_)
  ·replace hM := cond_t hM c2
   refine WL.rn 3 [] [(17, .bool true)] ?_
   exact WL.sub [0, 3, 4, 5, 17] (by kernel_rfl) (WL.pick [0] (by kernel_rfl) (by kernel_rfl) (WL.lessF [0] (by kernel_rfl) (K1 true hM)))
  ·replace hM := cond_f hM c2
   refine WL.rn 1 [] [(15, slcV A00 a0.length)] ?_
   obtain ⟨r3, h4, hM⟩ := bind_some hM
   refine WL.callP [] [] (api_PortCfg_2_calls k A00 a0 _ h4) (sub_pick [0] (by kernel_rfl)) (by kernel_rfl) (by kernel_rfl) rfl ?_
   refine WL.rn 1 [] [(17, .bool r3)] ?_
   exact WL.sub [0, 3, 4, 5, 17] (by kernel_rfl) (WL.pick [0] (by kernel_rfl) (by kernel_rfl) (WL.lessF [0] (by kernel_rfl) (K1 r3 hM)))
def span_New_1.f (a0 : Int) : Option (Bool) :=
 some ((decide (a0 < 1)) || (decide (a0 > 16777216)))
theorem span_New_1_calls (a0 : Int) (r : Bool) (h : span_New_1.f a0 = some r) : Pure Tryz.prog Glob 97 #[.int .i64 a0] (.bool r) := by
 intro w Z hS
 refine callsS (args := [.int .i64 a0]) (L := [(0, .int .i64 a0)]) (N := 9) Tryz.func97 hS ?_
 have hM := h
 clear h hS
 unfold span_New_1.f at hM
 refine WP.seq (WP.rn [] [(2, .bool false)] ?_)
 refine WP.seq (WP.region (WL.rn 3 [] [(5, .bool (decide (a0 < 1)))] ?_))
 refine WL.bo 5 (decide (a0 < 1)) 3 [] [] (fun b' => [(8, .bool (b' || (decide (a0 > 16777216))))]) ?_
 refine WL.rn 1 [] [(2, .bool ((decide (a0 < 1)) || (decide (a0 > 16777216))))] ?_
 refine WP.done ?_
 obtain rfl := Option.some.inj hM
 exact WP.retQ [] []
def slices_IndexFunc_int_int.l1 (a0 : (List Int)) : Nat → Int → Int → Option (Int)
 | 0, _, _ => none
 | n + 1, x1, x2 =>
  bif decide (x2 < (a0.length : Int)) then
   (getL a0.length a0 x2).bind fun t4 =>
   (span_New_1.f t4).bind fun r6 =>
   bif r6 then
    some x2
   else
    slices_IndexFunc_int_int.l1 a0 n x1 (i64 (x2 + 1))
  else
   some (-1)
def slices_IndexFunc_int_int.f (k : Nat) (a0 : (List Int)) : Option (Int) :=
 slices_IndexFunc_int_int.l1 a0 k 0 0
theorem slices_IndexFunc_int_int_calls (k : Nat) (A00 : SkL Unit) (a0 : (List Int)) (r : Int) (h : slices_IndexFunc_int_int.f k a0 = some r) : Pure Tryz.prog ([Row 1 (pl (encI .i64)) noK A00 a0] ++ Glob) 135 #[slcV A00 a0.length, .func (.func 97) #[] #[]] (.int .i64 r) := by
 intro w Z hS
 refine callsS (args := [slcV A00 a0.length, .func (.func 97) #[] #[]]) (L := [(0, slcV A00 a0.length), (1, .func (.func 97) #[] #[])]) (N := 19) Tryz.func135 hS ?_
 have hM := h
 clear h hS
 unfold slices_IndexFunc_int_int.f at hM
 refine WP.seq (WP.rn [] [(4, .int .i64 0)] ?_)
 refine WP.seq (WP.seq (WP.rn [] [(7, .int .i64 (a0.length : Int)), (8, .int .i64 0)] ?_))
 refine WP.block ?_
 refine WP.sub [0, 1, 4, 7, 8] (L' := [(0, slcV A00 a0.length), (1, .func (.func 97) #[] #[]), (4, .int .i64 0), (7, .int .i64 (a0.length : Int)), (8, .int .i64 0)]) (by kernel_rfl) ?_
 refine WP.lessF [0] (F' := [Row 1 (pl (encI .i64)) noK A00 a0]) (by kernel_rfl) ?_
 refine WP.loop (σ := Int × Int) (fun n st => slices_IndexFunc_int_int.l1 a0 n st.1 st.2) r (fun st => [(0, slcV A00 a0.length), (1, .func (.func 97) #[] #[]), (4, .int .i64 st.1), (7, .int .i64 (a0.length : Int)), (8, .int .i64 st.2)]) (fun st => Sat w Z [] [] ([Row 1 (pl (encI .i64)) noK A00 a0] ++ Glob)) (st := (0, 0)) (fun n st hM => ?_) hM
 rcases n with _ | n
 ·exact nomatch (show (none : Option _) = some r from hM)
 obtain ⟨x1, x2⟩ := st
 replace hM : slices_IndexFunc_int_int.l1 a0 (n + 1) x1 x2 = some r := hM
 rw [slices_IndexFunc_int_int.l1] at hM
 try dsimp only
 refine WP.seq (WP.rn [] [(9, .bool (decide (x2 < (a0.length : Int))))] ?_)
 refine WP.seq ?_
 refine WP.cond (decide (x2 < (a0.length : Int))) rfl rfl (fun c3 => ?_) (fun c3 => ?_)
 ·replace hM := cond_t hM c3
  refine WP.skip (WP.seq (WP.block (WP.seq (WP.rn [] [(5, .int .i64 x2), (10, .int .i64 x2)] ?_))))
  refine WP.seq (WP.region ?_)
  refine WL.rn 3 [] [(11, .func (.func 97) #[] #[]), (12, slcV A00 a0.length), (13, .int .i64 x2)] ?_
  obtain ⟨t4, h5, hM⟩ := bind_some hM
  refine WL.valF (φ := Row 1 (pl (encI .i64)) noK A00 a0) (fact_at 0 rfl) (fun w hR => run_indexRowF (A := A00) (xs := a0) (i := x2) (k := .i64) (e := 3) (m := 1) (by kernel_rfl) (by kernel_rfl) h5 (by kernel_rfl) (by kernel_rfl) hR) (by kernel_rfl) (by kernel_rfl) rfl ?_
  refine WL.valF (φ := Row 1 (pl (encI .i64)) noK A00 a0) (fact_at 0 rfl) (fun w hR => run_loadRowF (A := A00) (xs := a0) (i := x2) (j := 0) (v := .int .i64 t4) h5 (fun _ => by kernel_rfl) (by kernel_rfl) (by kernel_rfl) hR) (by kernel_rfl) (by kernel_rfl) rfl ?_
  obtain ⟨r6, h7, hM⟩ := bind_some hM
  refine WL.callP [] [] (span_New_1_calls t4 _ h7) (fun _ h => List.mem_append_right _ h) (by kernel_rfl) (by kernel_rfl) rfl ?_
  refine WP.done ?_
  refine WP.cond r6 rfl rfl (fun c8 => ?_) (fun c8 => ?_)
  ·replace hM := cond_t hM c8
   refine WP.seq (WP.rn [] [(4, .int .i64 x2), (17, .int .i64 x2)] ?_)
   obtain rfl := Option.some.inj hM
   exact WP.retF [] [] [0]
  ·replace hM := cond_f hM c8
   refine WP.skip (WP.leave (WP.rn [] [(8, .int .i64 (i64 (x2 + 1))), (18, .int .i64 (i64 (x2 + 1)))] ?_))
   exact WP.again' [0, 1, 4, 7, 8] (x1, i64 (x2 + 1)) hM (by kernel_rfl) (fun _ h => (h.pick [] (by kernel_rfl)).lessF [0] (by kernel_rfl))
 ·replace hM := cond_f hM c3
  refine WP.exit rfl (WP.seq (WP.rn [] [(4, .int .i64 (-1))] ?_))
  obtain rfl := Option.some.inj hM
  exact WP.retF [] [] [0]
def slices_ContainsFunc_int_int.f (k : Nat) (a0 : (List Int)) : Option (Bool) :=
 (slices_IndexFunc_int_int.f k a0).bind fun r1 =>
 some (decide (r1 ≥ 0))
theorem slices_ContainsFunc_int_int_calls (k : Nat) (A00 : SkL Unit) (a0 : (List Int)) (r : Bool) (h : slices_ContainsFunc_int_int.f k a0 = some r) : Pure Tryz.prog ([Row 1 (pl (encI .i64)) noK A00 a0] ++ Glob) 98 #[slcV A00 a0.length, .func (.func 97) #[] #[]] (.bool r) := by
 intro w Z hS
 refine callsS (args := [slcV A00 a0.length, .func (.func 97) #[] #[]]) (L := [(0, slcV A00 a0.length), (1, .func (.func 97) #[] #[])]) (N := 9) Tryz.func98 hS ?_
 have hM := h
 clear h hS
 unfold slices_ContainsFunc_int_int.f at hM
 refine WP.seq (WP.rn [] [(4, .bool false)] ?_)
 refine WP.seq (WP.region ?_)
 refine WL.rn 2 [] [(5, slcV A00 a0.length), (6, .func (.func 97) #[] #[])] ?_
 obtain ⟨r1, h2, hM⟩ := bind_some hM
 refine WL.callP [] [] (slices_IndexFunc_int_int_calls k A00 a0 _ h2) (sub_pick [0] (by kernel_rfl)) (by kernel_rfl) (by kernel_rfl) rfl ?_
 refine WL.rn 2 [] [(4, .bool (decide (r1 ≥ 0)))] ?_
 refine WP.done ?_
 obtain rfl := Option.some.inj hM
 exact WP.retF [] [] [0]
def span_New.l2 (a1 : (List Int)) (a2 : (List Bool)) (a0 : Int) : Nat → Int → (List api_SpanPort) → Option (api_Span × Int)
 | 0, _, _ => none
 | n + 1, x18, x19 =>
  bif decide (x18 < (a1.length : Int)) then
   (getL a1.length a1 x18).bind fun t22 =>
   (getL a2.length a2 x18).bind fun t24 =>
   (roomL 120 (x19 ++ ([(api_SpanPort.mk (api_View.mk false t22 false (api_Vector.mk 0 0 0 0 0)) t24 0 0 0 0 false 0)] : List api_SpanPort)).length).bind fun u28 =>
   span_New.l2 a1 a2 a0 n (i64 (x18 + 1)) (x19 ++ ([(api_SpanPort.mk (api_View.mk false t22 false (api_Vector.mk 0 0 0 0 0)) t24 0 0 0 0 false 0)] : List api_SpanPort))
  else
   some ((api_Span.mk a0 x19 0), 0)
def span_New.k1 (a1 : (List Int)) (a2 : (List Bool)) (a0 : Int) (k : Nat) (x5 : Bool) : Option (api_Span × Int) :=
 bif x5 then
  some ((api_Span.mk 0 ([] : List api_SpanPort) 0), 1)
 else
  span_New.l2 a1 a2 a0 k 0 ([] : List api_SpanPort)
def span_New.f (k : Nat) (a0 : Int) (a1 : (List Int)) (a2 : (List Bool)) : Option (api_Span × Int) :=
 bif ((decide ((a1.length : Int) > 64)) || ((a1.length : Int) != (a2.length : Int))) then
  span_New.k1 a1 a2 a0 k true
 else
  (slices_ContainsFunc_int_int.f k a1).bind fun r3 =>
  span_New.k1 a1 a2 a0 k r3
theorem span_New_calls (k : Nat) (A00 : SkL Unit) (A01 : SkL Unit) (a0 : Int) (a1 : (List Int)) (a2 : (List Bool)) (r : api_Span × Int) (h : span_New.f k a0 a1 a2 = some r) : Does Tryz.prog 54 #[.int .u64 a0, slcV A00 a1.length, slcV A01 a2.length] [] ([Row 1 (pl (encI .i64)) noK A00 a1, Row 1 (pl encB) noK A01 a2] ++ Glob) (fun x : (SkL Unit) => .tuple #[.agg #[.int .u64 r.1.Bridge, slcV x r.1.Ports.length, .int .i64 r.1.Now], .int .i64 r.2]) (fun x => []) (fun _ => []) (fun x => [Row 15 (pl api_SpanPort.enc) noK x r.1.Ports] ++ ([Row 1 (pl (encI .i64)) noK A00 a1, Row 1 (pl encB) noK A01 a2] ++ Glob)) := by
 intro w Z hS
 refine callsS (args := [.int .u64 a0, slcV A00 a1.length, slcV A01 a2.length]) (L := [(0, .int .u64 a0), (1, slcV A00 a1.length), (2, slcV A01 a2.length)]) (N := 51) Tryz.func54 hS ?_
 have hM := h
 clear h hS
 unfold span_New.f at hM
 refine WP.seq ?_
 refine WP.rh [] (fun b1 => [(6, .pointer (some ⟨b1, 0, none⟩)), (7, .int .i64 0)]) (fun b1 => []) (fun b1 => [(b1, .cells #[.int .u64 0, .slice none 0 0, .int .i64 0] 111 (0, 0))]) (fun b1 => ?_)
 refine WP.seq ?_
 refine WP.rn [] [(8, .func (.func 97) #[] #[])] ?_
 refine WP.seq (WP.seq (WP.region (WL.rn 4 [] [(15, .bool (decide ((a1.length : Int) > 64)))] ?_)))
 refine WL.bo 15 (decide ((a1.length : Int) > 64)) 6 [] [] (fun b' => [(21, .bool (b' || ((a1.length : Int) != (a2.length : Int))))]) ?_
 refine WL.rn 1 [] [(22, .bool ((decide ((a1.length : Int) > 64)) || ((a1.length : Int) != (a2.length : Int))))] ?_
 refine WL.join (σ := Bool) 4 (fun st => span_New.k1 a1 a2 a0 k st = some r) (fun st => [(0, .int .u64 a0), (1, slcV A00 a1.length), (2, slcV A01 a2.length), (6, .pointer (some ⟨b1, 0, none⟩)), (7, .int .i64 0), (26, .bool st)]) (fun st => Sat w Z [(b1, .cells #[.int .u64 0, .slice none 0 0, .int .i64 0] 111 (0, 0))] [] ([Row 1 (pl (encI .i64)) noK A00 a1, Row 1 (pl encB) noK A01 a2] ++ Glob)) (fun st hM => ?_) (fun K1 => ?_)
 ·
  obtain ⟨x5, rfl⟩ : ∃ y, y = st := ⟨st, rfl⟩
  replace hM : span_New.k1 a1 a2 a0 k x5 = some r := hM
  unfold span_New.k1 at hM
  try dsimp only
  refine WP.done ?_
  refine WP.cond x5 rfl rfl (fun c6 => ?_) (fun c6 => ?_)
  ·replace hM := cond_t hM c6
   refine WP.seq (WP.rn [0, 0, 0] [(7, .int .i64 1)] ?_)
   refine WP.know (Row 15 (pl api_SpanPort.enc) noK (SkL.nil (fun _ => ())) ([] : List api_SpanPort)) [] [] (by kernel_rfl) (fun w _ => RowP.empty (fun _ => rfl)) ?_
   obtain rfl := Option.some.inj hM
   exact WP.ret [0, 0, 0] [b1, b1, b1] (.tuple #[.agg #[.int .u64 0, slcV (SkL.nil (fun _ => ())) ([] : List api_SpanPort).length, .int .i64 0], .int .i64 1]) (by kernel_rfl) (fun w' hw => ⟨(SkL.nil (fun _ => ())), rfl, (hw.pick [] (by kernel_rfl)).less (sub_ret [0] [1, 2] (by kernel_rfl) (by kernel_rfl))⟩)
  ·replace hM := cond_f hM c6
   refine WP.skip (WP.seq ?_)
   refine WP.rh [1, 1, 1] (fun b7 => [(9, .pointer (some ⟨b7, 0, none⟩))]) (fun b7 => []) (fun b7 => [(b7, .cells #[.int .u64 a0, .slice none 0 0, .int .i64 0] 111 (0, 0))]) (fun b7 => ?_)
   refine WP.seq (WP.seq (WP.rn [] [(30, slcV A00 a1.length), (31, .int .i64 (a1.length : Int)), (32, .int .i64 0)] ?_))
   refine WP.block ?_
   refine WP.growNil 15 198 (pl api_SpanPort.enc) noK (fun _ => ()) ?_
   skip
   refine WP.sub [2, 6, 7, 9, 30, 31, 32] (L' := [(2, slcV A01 a2.length), (6, .pointer (some ⟨b1, 0, none⟩)), (7, .int .i64 0), (9, .pointer (some ⟨b7, 0, none⟩)), (30, slcV A00 a1.length), (31, .int .i64 (a1.length : Int)), (32, .int .i64 0)]) (by kernel_rfl) ?_
   refine WP.lessF [0, 0, 1, 2] (F' := [GIn noK (SkL.nil (fun _ => ())) ([] : List api_SpanPort), GIn noK (SkL.nil (fun _ => ())) ([] : List api_SpanPort), Row 1 (pl (encI .i64)) noK A00 a1, Row 1 (pl encB) noK A01 a2]) (by kernel_rfl) ?_
   refine WP.loop (σ := Int × (List api_SpanPort) × SkL Unit) (fun n st => span_New.l2 a1 a2 a0 n st.1 st.2.1) r (fun st => [(2, slcV A01 a2.length), (6, .pointer (some ⟨b1, 0, none⟩)), (7, .int .i64 0), (9, .pointer (some ⟨b7, 0, none⟩)), (30, slcV A00 a1.length), (31, .int .i64 (a1.length : Int)), (32, .int .i64 st.1)]) (fun st => Sat w Z [(b1, .cells #[.int .u64 0, .slice none 0 0, .int .i64 0] 111 (0, 0)), (b7, .cells #[.int .u64 a0, slcV st.2.2 st.2.1.length, .int .i64 0] 111 (0, 0))] [OwnR 15 198 (pl api_SpanPort.enc) st.2.2 st.2.1] ([GIn noK st.2.2 st.2.1, GIn noK (SkL.nil (fun _ => ())) ([] : List api_SpanPort), Row 1 (pl (encI .i64)) noK A00 a1, Row 1 (pl encB) noK A01 a2] ++ Glob)) (st := (0, ([] : List api_SpanPort), (SkL.nil (fun _ => ())))) (fun n st hM => ?_) hM
   rcases n with _ | n
   ·exact nomatch (show (none : Option _) = some r from hM)
   obtain ⟨x18, x19, A20⟩ := st
   replace hM : span_New.l2 a1 a2 a0 (n + 1) x18 x19 = some r := hM
   rw [span_New.l2] at hM
   try dsimp only
   refine WP.seq (WP.rn [] [(33, .bool (decide (x18 < (a1.length : Int))))] ?_)
   refine WP.seq ?_
   refine WP.cond (decide (x18 < (a1.length : Int))) rfl rfl (fun c21 => ?_) (fun c21 => ?_)
   ·replace hM := cond_t hM c21
    refine WP.skip (WP.seq (WP.block (WP.seq (WP.region (WL.rn 1 [] [(34, .int .i64 x18)] ?_)))))
    obtain ⟨t22, h23, hM⟩ := bind_some hM
    refine WL.valF (φ := Row 1 (pl (encI .i64)) noK A00 a1) (fact_at 2 rfl) (fun w hR => run_indexRowF (A := A00) (xs := a1) (i := x18) (k := .i64) (e := 3) (m := 1) (by kernel_rfl) (by kernel_rfl) h23 (by kernel_rfl) (by kernel_rfl) hR) (by kernel_rfl) (by kernel_rfl) rfl ?_
    refine WL.valF (φ := Row 1 (pl (encI .i64)) noK A00 a1) (fact_at 2 rfl) (fun w hR => run_loadRowF (A := A00) (xs := a1) (i := x18) (j := 0) (v := .int .i64 t22) h23 (fun _ => by kernel_rfl) (by kernel_rfl) (by kernel_rfl) hR) (by kernel_rfl) (by kernel_rfl) rfl ?_
    refine WL.rn 2 [] [(10, .int .i64 x18), (11, .int .i64 t22)] ?_
    refine WP.done ?_
    obtain ⟨t24, h25, hM⟩ := bind_some hM
    obtain ⟨u28, h27, hM⟩ := bind_some hM
    refine WP.rs [2, 6, 7, 9, 10, 11, 30, 31, 32, 33, 34, 35, 36] ?_
    refine WP.graphF (X := (Nat × (SkL Unit))) 13 6 [⟨0, 13, fun _ => [(b1, .cells #[.int .u64 0, .slice none 0 0, .int .i64 0] 111 (0, 0))], fun _ => []⟩, ⟨0, 12, fun _ => [(b7, .cells #[.int .u64 a0, slcV A20 x19.length, .int .i64 0] 111 (0, 0))], fun _ => []⟩, ⟨0, 10, fun _ => [], fun _ => [OwnR 15 198 (pl api_SpanPort.enc) A20 x19]⟩, ⟨10, 10, fun ξ => [((ξ 9).1, .cells #[.bool false, .int .i64 t22, .bool false, .int .u64 0, .int .i64 0, .int .u64 0, .int .i64 0, .int .i64 0, .bool t24, .int .i64 0, .int .i64 0, .int .i64 0, .int .i64 0, .bool false, .int .i64 0] 198 (0, 0))], fun ξ => []⟩, ⟨11, 13, fun ξ => [], fun ξ => [OwnR 15 198 (pl api_SpanPort.enc) (ξ 10).2 (x19 ++ ([(api_SpanPort.mk (api_View.mk false t22 false (api_Vector.mk 0 0 0 0 0)) t24 0 0 0 0 false 0)] : List api_SpanPort))]⟩, ⟨13, 13, fun ξ => [(b7, .cells #[.int .u64 a0, slcV (ξ 10).2 (x19 ++ ([(api_SpanPort.mk (api_View.mk false t22 false (api_Vector.mk 0 0 0 0 0)) t24 0 0 0 0 false 0)] : List api_SpanPort)).length, .int .i64 0] 111 (0, 0))], fun ξ => []⟩] [⟨[], [], [], [], [], fun _ => .pointer (some ⟨b7, 1, none⟩), fun _ => []⟩, ⟨[0], [1], [1], [], [], fun _ => slcV A20 x19.length, fun _ => []⟩, ⟨[], [], [], [], [], fun _ => .int .i64 t22, fun _ => []⟩, ⟨[2], [], [], [], [], fun _ => .agg #[.bool false, .int .i64 t22, .bool false, .int .u64 0, .int .i64 0, .int .u64 0, .int .i64 0, .int .i64 0], fun _ => []⟩, ⟨[], [], [], [], [], fun _ => slcV A01 a2.length, fun _ => []⟩, ⟨[], [], [], [], [], fun _ => .int .i64 x18, fun _ => []⟩, ⟨[4, 5], [], [], [], [], fun _ => ptrV A01 (Int.toNat x18 * 1), fun _ => []⟩, ⟨[4, 5, 6], [], [], [], [], fun _ => .bool t24, fun _ => []⟩, ⟨[2, 3, 4, 5, 6, 7], [], [], [], [], fun _ => .agg #[.bool false, .int .i64 t22, .bool false, .int .u64 0, .int .i64 0, .int .u64 0, .int .i64 0, .int .i64 0, .bool t24, .int .i64 0, .int .i64 0, .int .i64 0, .int .i64 0, .bool false, .int .i64 0], fun _ => []⟩, ⟨[2, 3, 4, 5, 6, 7, 8], [], [3], [], [], fun ξ => .slice (some ⟨(ξ 9).1, 0, none⟩) 1 1, fun ξ => []⟩, ⟨[0, 1, 2, 3, 4, 5, 6, 7, 8, 9], [3, 2], [4], [9], [], fun ξ => slcV (ξ 10).2 (x19 ++ ([(api_SpanPort.mk (api_View.mk false t22 false (api_Vector.mk 0 0 0 0 0)) t24 0 0 0 0 false 0)] : List api_SpanPort)).length, fun ξ => [GIn noK (ξ 10).2 (x19 ++ ([(api_SpanPort.mk (api_View.mk false t22 false (api_Vector.mk 0 0 0 0 0)) t24 0 0 0 0 false 0)] : List api_SpanPort)), Row 15 (pl api_SpanPort.enc) noK (SkL.at (ξ 9).1 1 (fun _ => ())) ([(api_SpanPort.mk (api_View.mk false t22 false (api_Vector.mk 0 0 0 0 0)) t24 0 0 0 0 false 0)] : List api_SpanPort)]⟩, ⟨[0, 1, 2, 3, 4, 5, 6, 7, 8, 9, 10], [], [], [], [], fun _ => .pointer (some ⟨b7, 1, none⟩), fun _ => []⟩, ⟨[0, 1, 2, 3, 4, 5, 6, 7, 8, 9, 10, 11], [1], [5], [10], [], fun _ => .tuple #[], fun _ => []⟩] (fun ξ => [(37, .pointer (some ⟨b7, 1, none⟩)), (39, .int .i64 t22), (40, .agg #[.bool false, .int .i64 t22, .bool false, .int .u64 0, .int .i64 0, .int .u64 0, .int .i64 0, .int .i64 0]), (41, slcV A01 a2.length), (42, .int .i64 x18), (43, ptrV A01 (Int.toNat x18 * 1)), (44, .bool t24), (45, .agg #[.bool false, .int .i64 t22, .bool false, .int .u64 0, .int .i64 0, .int .u64 0, .int .i64 0, .int .i64 0, .bool t24, .int .i64 0, .int .i64 0, .int .i64 0, .int .i64 0, .bool false, .int .i64 0]), (47, slcV (ξ 10).2 (x19 ++ ([(api_SpanPort.mk (api_View.mk false t22 false (api_Vector.mk 0 0 0 0 0)) t24 0 0 0 0 false 0)] : List api_SpanPort)).length), (48, .pointer (some ⟨b7, 1, none⟩))]) (fun ξ => [(b1, .cells #[.int .u64 0, .slice none 0 0, .int .i64 0] 111 (0, 0)), (b7, .cells #[.int .u64 a0, slcV (ξ 10).2 (x19 ++ ([(api_SpanPort.mk (api_View.mk false t22 false (api_Vector.mk 0 0 0 0 0)) t24 0 0 0 0 false 0)] : List api_SpanPort)).length, .int .i64 0] 111 (0, 0))]) (fun ξ => [OwnR 15 198 (pl api_SpanPort.enc) (ξ 10).2 (x19 ++ ([(api_SpanPort.mk (api_View.mk false t22 false (api_Vector.mk 0 0 0 0 0)) t24 0 0 0 0 false 0)] : List api_SpanPort))]) (fun ξ => [GIn noK (ξ 10).2 (x19 ++ ([(api_SpanPort.mk (api_View.mk false t22 false (api_Vector.mk 0 0 0 0 0)) t24 0 0 0 0 false 0)] : List api_SpanPort)), Row 15 (pl api_SpanPort.enc) noK (SkL.at (ξ 9).1 1 (fun _ => ())) ([(api_SpanPort.mk (api_View.mk false t22 false (api_Vector.mk 0 0 0 0 0)) t24 0 0 0 0 false 0)] : List api_SpanPort)]) (AllN.cons ?_ (AllN.cons ?_ (AllN.cons ?_ (AllN.cons ?_ (AllN.cons ?_ (AllN.cons ?_ (AllN.cons ?_ (AllN.cons ?_ (AllN.cons ?_ (AllN.cons ?_ (AllN.cons ?_ (AllN.cons ?_ (AllN.cons ?_ AllN.nil))))))))))))) (AllN.cons (VAgr.c rfl) (AllN.cons (VAgr.c rfl) (AllN.cons (VAgr.c rfl) (AllN.cons (VAgr.c rfl) (AllN.cons (VAgr.c rfl) (AllN.cons (VAgr.c rfl) (AllN.cons (VAgr.c rfl) (AllN.cons (VAgr.c rfl) (AllN.cons (VAgr.c rfl) (AllN.cons (fun t ht ξ ξ' h => by cases ht; have e9 : ξ 9 = ξ' 9 := h 9 (memN_iff.1 rfl); exact ⟨by first | rfl | simp only [e9], by first | rfl | simp only [e9]⟩) (AllN.cons (fun t ht ξ ξ' h => by cases ht; have e9 : ξ 9 = ξ' 9 := h 9 (memN_iff.1 rfl); have e10 : ξ 10 = ξ' 10 := h 10 (memN_iff.1 rfl); exact ⟨by first | rfl | simp only [e9, e10], by first | rfl | simp only [e9, e10]⟩) (AllN.cons (VAgr.c rfl) (AllN.cons (VAgr.c rfl) AllN.nil))))))))))))) (AllN.cons (RAgr.c rfl) (AllN.cons (RAgr.c rfl) (AllN.cons (RAgr.c rfl) (AllN.cons (fun r hr ξ ξ' h => by cases hr; have e9 : ξ 9 = ξ' 9 := h 9 (memN_iff.1 rfl); exact ⟨by first | rfl | simp only [e9], by first | rfl | simp only [e9]⟩) (AllN.cons (fun r hr ξ ξ' h => by cases hr; have e10 : ξ 10 = ξ' 10 := h 10 (memN_iff.1 rfl); exact ⟨by first | rfl | simp only [e10], by first | rfl | simp only [e10]⟩) (AllN.cons (fun r hr ξ ξ' h => by cases hr; have e10 : ξ 10 = ξ' 10 := h 10 (memN_iff.1 rfl); exact ⟨by first | rfl | simp only [e10], by first | rfl | simp only [e10]⟩) AllN.nil)))))) (fun ξ => ?_)
    ·
     intro o t ho ht ξ Gr Γr Lr Q hk
     cases ho; cases ht
     refine WL.rn 1 [] [(37, .pointer (some ⟨b7, 1, none⟩))] ?_
     exact WL.fin (hk default)
    ·
     intro o t ho ht ξ Gr Γr Lr Q hk
     cases ho; cases ht
     refine WL.rn 1 [0] [(38, slcV A20 x19.length)] ?_
     exact WL.fin (hk default)
    ·
     intro o t ho ht ξ Gr Γr Lr Q hk
     cases ho; cases ht
     refine WL.rn 1 [] [(39, .int .i64 t22)] ?_
     exact WL.fin (hk default)
    ·
     intro o t ho ht ξ Gr Γr Lr Q hk
     cases ho; cases ht
     refine WL.rn 1 [] [(40, .agg #[.bool false, .int .i64 t22, .bool false, .int .u64 0, .int .i64 0, .int .u64 0, .int .i64 0, .int .i64 0])] ?_
     exact WL.fin (hk default)
    ·
     intro o t ho ht ξ Gr Γr Lr Q hk
     cases ho; cases ht
     refine WL.rn 1 [] [(41, slcV A01 a2.length)] ?_
     exact WL.fin (hk default)
    ·
     intro o t ho ht ξ Gr Γr Lr Q hk
     cases ho; cases ht
     refine WL.rn 1 [] [(42, .int .i64 x18)] ?_
     exact WL.fin (hk default)
    ·
     intro o t ho ht ξ Gr Γr Lr Q hk
     cases ho; cases ht
     refine WL.valF (φ := Row 1 (pl encB) noK A01 a2) (fact_at 3 rfl) (fun w hR => run_indexRowF (A := A01) (xs := a2) (i := x18) (k := .i64) (e := 4) (m := 1) (by kernel_rfl) (by kernel_rfl) h25 (by kernel_rfl) (by kernel_rfl) hR) (by kernel_rfl) (by kernel_rfl) rfl ?_
     exact WL.fin (hk default)
    ·
     intro o t ho ht ξ Gr Γr Lr Q hk
     cases ho; cases ht
     refine WL.valF (φ := Row 1 (pl encB) noK A01 a2) (fact_at 3 rfl) (fun w hR => run_loadRowF (A := A01) (xs := a2) (i := x18) (j := 0) (v := .bool t24) h25 (fun _ => by kernel_rfl) (by kernel_rfl) (by kernel_rfl) hR) (by kernel_rfl) (by kernel_rfl) rfl ?_
     exact WL.fin (hk default)
    ·
     intro o t ho ht ξ Gr Γr Lr Q hk
     cases ho; cases ht
     refine WL.rn 1 [] [(45, .agg #[.bool false, .int .i64 t22, .bool false, .int .u64 0, .int .i64 0, .int .u64 0, .int .i64 0, .int .i64 0, .bool t24, .int .i64 0, .int .i64 0, .int .i64 0, .int .i64 0, .bool false, .int .i64 0])] ?_
     exact WL.fin (hk default)
    ·
     intro o t ho ht ξ Gr Γr Lr Q hk
     cases ho; cases ht
     refine WL.rh 1 [] (fun b26 => [(46, .slice (some ⟨b26, 0, none⟩) 1 1)]) (fun b26 => []) (fun b26 => [(b26, .cells #[.bool false, .int .i64 t22, .bool false, .int .u64 0, .int .i64 0, .int .u64 0, .int .i64 0, .int .i64 0, .bool t24, .int .i64 0, .int .i64 0, .int .i64 0, .int .i64 0, .bool false, .int .i64 0] 198 (0, 0))]) (fun b26 => ?_)
     exact WL.fin (hk (b26, default))
    ·
     intro o t ho ht ξ Gr Γr Lr Q hk
     cases ho; cases ht
     refine WL.ice (H' := []) (Row 15 (pl api_SpanPort.enc) noK (SkL.at (ξ 9).1 1 (fun _ => ())) ([(api_SpanPort.mk (api_View.mk false t22 false (api_Vector.mk 0 0 0 0 0)) t24 0 0 0 0 false 0)] : List api_SpanPort)) 0 (b := (ξ 9).1) (ob := .cells #[.bool false, .int .i64 t22, .bool false, .int .u64 0, .int .i64 0, .int .u64 0, .int .i64 0, .int .i64 0, .bool t24, .int .i64 0, .int .i64 0, .int .i64 0, .int .i64 0, .bool false, .int .i64 0] 198 (0, 0)) (by kernel_rfl) [] [] (by kernel_rfl) (fun w hb hψ => row_of_block hb (fun _ _ => rfl) ⟨[], by kernel_rfl⟩ (Nat.le_of_ble_eq_true rfl) (InK.no _ _)) (by kernel_rfl) ?_
     refine WL.growApp (G' := Gr) (A := A20) (B := (SkL.at (ξ 9).1 1 (fun _ => ()))) (xs := x19) (ys := ([(api_SpanPort.mk (api_View.mk false t22 false (api_Vector.mk 0 0 0 0 0)) t24 0 0 0 0 false 0)] : List api_SpanPort)) (m := 15) (by_ := 120) (e := 198) (z := .agg #[.bool false, .int .i64 0, .bool false, .int .u64 0, .int .i64 0, .int .u64 0, .int .i64 0, .int .i64 0, .bool false, .int .i64 0, .int .i64 0, .int .i64 0, .int .i64 0, .bool false, .int .i64 0]) (f := (pl api_SpanPort.enc)) (K := noK) (d := 47) 0 rfl rfl (by kernel_rfl) (by kernel_rfl) (by kernel_rfl) (by kernel_rfl) (by kernel_rfl) (fun _ _ => rfl) (fun _ _ => rfl) (by kernel_rfl) (by kernel_rfl) (by kernel_rfl) (by kernel_rfl) (by kernel_rfl) (fact_at 1 rfl) (fact_at 0 rfl) h27 (by kernel_rfl) (fun A29 => ?_)
     refine WL.less (Φ' := (([GIn noK A29 (x19 ++ ([(api_SpanPort.mk (api_View.mk false t22 false (api_Vector.mk 0 0 0 0 0)) t24 0 0 0 0 false 0)] : List api_SpanPort)), Row 15 (pl api_SpanPort.enc) noK (SkL.at (ξ 9).1 1 (fun _ => ())) ([(api_SpanPort.mk (api_View.mk false t22 false (api_Vector.mk 0 0 0 0 0)) t24 0 0 0 0 false 0)] : List api_SpanPort), GIn noK A20 x19, GIn noK (SkL.nil (fun _ => ())) ([] : List api_SpanPort), Row 1 (pl (encI .i64)) noK A00 a1, Row 1 (pl encB) noK A01 a2] ++ Γr) ++ Glob)) (fun _ h => h) ?_
     exact WL.fin (hk (default, A29))
    ·
     intro o t ho ht ξ Gr Γr Lr Q hk
     cases ho; cases ht
     refine WL.rn 1 [] [(48, .pointer (some ⟨b7, 1, none⟩))] ?_
     exact WL.fin (hk default)
    ·
     intro o t ho ht ξ Gr Γr Lr Q hk
     cases ho; cases ht
     refine WL.rh 1 [0] (fun _ => []) (fun _ => [(0, 1, [slcV (ξ 10).2 (x19 ++ ([(api_SpanPort.mk (api_View.mk false t22 false (api_Vector.mk 0 0 0 0 0)) t24 0 0 0 0 false 0)] : List api_SpanPort)).length])]) (fun _ => []) (fun _ => ?_)
     exact WL.fin (hk default)
    generalize (ξ 9).1 = b26
    generalize (ξ 10).2 = A29
    refine WP.less (Φ' := ([GIn noK A29 (x19 ++ ([(api_SpanPort.mk (api_View.mk false t22 false (api_Vector.mk 0 0 0 0 0)) t24 0 0 0 0 false 0)] : List api_SpanPort)), Row 15 (pl api_SpanPort.enc) noK (SkL.at b26 1 (fun _ => ())) ([(api_SpanPort.mk (api_View.mk false t22 false (api_Vector.mk 0 0 0 0 0)) t24 0 0 0 0 false 0)] : List api_SpanPort), GIn noK A20 x19, GIn noK (SkL.nil (fun _ => ())) ([] : List api_SpanPort), Row 1 (pl (encI .i64)) noK A00 a1, Row 1 (pl encB) noK A01 a2] ++ Glob)) (fun _ h => h) ?_
    refine WP.leave (WP.rn [] [(32, .int .i64 (i64 (x18 + 1))), (49, .int .i64 (i64 (x18 + 1)))] ?_)
    exact WP.again' [2, 6, 7, 9, 30, 31, 32] (i64 (x18 + 1), (x19 ++ ([(api_SpanPort.mk (api_View.mk false t22 false (api_Vector.mk 0 0 0 0 0)) t24 0 0 0 0 false 0)] : List api_SpanPort)), A29) hM (by kernel_rfl) (fun _ h => ((h.pick [0, 1] (by kernel_rfl)).lessF [0, 3, 4, 5] (by kernel_rfl)).pickG [0] [] 1 rfl (by decide) (by kernel_rfl))
   ·replace hM := cond_f hM c21
    refine WP.exit rfl (WP.seq ?_)
    refine WP.rh [1, 1, 1, 0, 0, 0] (fun _ => [(7, .int .i64 0)]) (fun _ => [(0, 0, [.int .u64 a0, slcV A20 x19.length])]) (fun _ => []) (fun _ => ?_)
    refine WP.kp [true, false] ?_
    refine WP.growIce (G' := []) (m := 15) (e := 198) (f := (pl api_SpanPort.enc)) (K := noK) (A := A20) (xs := x19) 0 0 (by kernel_rfl) (by kernel_rfl) (fun _ _ => rfl) (by kernel_rfl) ?_
    obtain rfl := Option.some.inj hM
    exact WP.ret [0, 0, 0] [b1, b1, b1] (.tuple #[.agg #[.int .u64 a0, slcV A20 x19.length, .int .i64 0], .int .i64 0]) (by kernel_rfl) (fun w' hw => ⟨A20, rfl, (hw.pick [] (by kernel_rfl)).less (sub_ret [0] [3, 4] (by kernel_rfl) (by kernel_rfl))⟩)
 ·
  refine WL.sp 22 ((decide ((a1.length : Int) > 64)) || ((a1.length : Int) != (a2.length : Int))) (fun c2 => ?_) (fun c2 => ?_)
  ·replace hM := cond_t hM c2
   refine WL.rn 4 [] [(26, .bool true)] ?_
   exact WL.sub [0, 1, 2, 6, 7, 26] (by kernel_rfl) (WL.pick [0] (by kernel_rfl) (by kernel_rfl) (WL.lessF [0, 1] (by kernel_rfl) (K1 true hM)))
  ·replace hM := cond_f hM c2
   refine WL.rn 2 [] [(23, slcV A00 a1.length), (24, .func (.func 97) #[] #[])] ?_
   obtain ⟨r3, h4, hM⟩ := bind_some hM
   refine WL.callP [] [] (slices_ContainsFunc_int_int_calls k A00 a1 _ h4) (sub_pick [0] (by kernel_rfl)) (by kernel_rfl) (by kernel_rfl) rfl ?_
   refine WL.rn 1 [] [(26, .bool r3)] ?_
   exact WL.sub [0, 1, 2, 6, 7, 26] (by kernel_rfl) (WL.pick [0] (by kernel_rfl) (by kernel_rfl) (WL.lessF [0, 1] (by kernel_rfl) (K1 r3 hM)))
def binding_New.f (a0 : Int) (a1 : Int) : Option (Int) :=
 (ages_New.f a0 a1).bind fun r1 =>
 bif (r1 != 0) then
  some r1
 else
  some 0
theorem binding_New_calls (a0 : Int) (a1 : Int) (r : Int) (h : binding_New.f a0 a1 = some r) : Does Tryz.prog 55 #[.int .i64 a0, .int .i64 a1] [] ([] ++ Glob) (fun x : (Option Addr) => .tuple #[.pointer x, .int .i64 r]) (fun x => []) (fun _ => []) (fun x => [] ++ ([] ++ Glob)) := by
 intro w Z hS
 refine callsS (args := [.int .i64 a0, .int .i64 a1]) (L := [(0, .int .i64 a0), (1, .int .i64 a1)]) (N := 21) Tryz.func55 hS ?_
 have hM := h
 clear h hS
 unfold binding_New.f at hM
 refine WP.seq (WP.rn [] [(4, .pointer none), (5, .int .i64 0)] ?_)
 refine WP.seq (WP.region (WL.rn 2 [] [(9, .int .i64 a0), (10, .int .i64 a1)] ?_))
 obtain ⟨r1, h2, hM⟩ := bind_some hM
 refine WL.callX (F0 := []) [] [] [] (fun _ => _) [] (by kernel_rfl) (ages_New_calls a0 a1 _ h2) rfl rfl (by kernel_rfl) (by kernel_rfl) (fun _ => rfl) (fun A3 => ?_)
 refine WL.rn 5 [] [(6, .pointer A3), (7, .int .i64 r1)] ?_
 refine WP.done (WP.seq (WP.seq (WP.rn [] [(15, .bool (r1 != 0))] ?_)))
 refine WP.cond (r1 != 0) rfl rfl (fun c4 => ?_) (fun c4 => ?_)
 ·replace hM := cond_t hM c4
  refine WP.seq (WP.rn [] [(4, .pointer none), (5, .int .i64 r1)] ?_)
  obtain rfl := Option.some.inj hM
  exact WP.ret [] [] (.tuple #[.pointer none, .int .i64 r1]) (by kernel_rfl) (fun w' hw => ⟨(none : Option Addr), rfl, (hw.pick [] (by kernel_rfl)).less (sub_ret [] [] (by kernel_rfl) (by kernel_rfl))⟩)
 ·replace hM := cond_f hM c4
  refine WP.skip (WP.seq ?_)
  refine WP.rh [] (fun b5 => [(4, .pointer (some ⟨b5, 0, none⟩)), (5, .int .i64 0)]) (fun b5 => []) (fun b5 => [(b5, .cells #[.pointer A3] 205 (0, 0))]) (fun b5 => ?_)
  obtain rfl := Option.some.inj hM
  exact WP.ret [] [] (.tuple #[.pointer (some ⟨b5, 0, none⟩), .int .i64 0]) (by kernel_rfl) (fun w' hw => ⟨(some ⟨b5, 0, none⟩), rfl, (hw.pick [] (by kernel_rfl)).less (sub_ret [] [] (by kernel_rfl) (by kernel_rfl))⟩)
def addrs_Group.f (a0 : Int) : Option (Bool) :=
 some ((bAnd .u64 a0 1099511627776) != 0)
theorem addrs_Group_calls (a0 : Int) (r : Bool) (h : addrs_Group.f a0 = some r) : Pure Tryz.prog Glob 80 #[.int .u64 a0] (.bool r) := by
 intro w Z hS
 refine callsS (args := [.int .u64 a0]) (L := [(0, .int .u64 a0)]) (N := 6) Tryz.func80 hS ?_
 have hM := h
 clear h hS
 unfold addrs_Group.f at hM
 refine WP.seq (WP.rn [] [(2, .bool false)] ?_)
 refine WP.seq (WP.rn [] [(2, .bool ((bAnd .u64 a0 1099511627776) != 0))] ?_)
 obtain rfl := Option.some.inj hM
 exact WP.retQ [] []
def addrs_Own.k1 (x4 : Bool) : Option (Bool) :=
 some x4
def addrs_Own.f (a0 : Int) : Option (Bool) :=
 bif ((a0 != 0) && (decide (a0 < 281474976710656))) then
  (addrs_Group.f a0).bind fun r2 =>
  addrs_Own.k1 (!r2)
 else
  addrs_Own.k1 false
theorem addrs_Own_calls (a0 : Int) (r : Bool) (h : addrs_Own.f a0 = some r) : Pure Tryz.prog Glob 44 #[.int .u64 a0] (.bool r) := by
 intro w Z hS
 refine callsS (args := [.int .u64 a0]) (L := [(0, .int .u64 a0)]) (N := 14) Tryz.func44 hS ?_
 have hM := h
 clear h hS
 unfold addrs_Own.f at hM
 refine WP.seq (WP.rn [] [(2, .bool false)] ?_)
 refine WP.seq (WP.region (WL.rn 3 [] [(5, .bool (a0 != 0))] ?_))
 refine WL.bo 5 (a0 != 0) 3 [] [] (fun b' => [(8, .bool (b' && (decide (a0 < 281474976710656))))]) ?_
 refine WL.rn 1 [] [(9, .bool ((a0 != 0) && (decide (a0 < 281474976710656))))] ?_
 refine WL.join (σ := Bool) 4 (fun st => addrs_Own.k1 st = some r) (fun st => [(2, .bool false), (13, .bool st)]) (fun st => Sat w Z [] [] Glob) (fun st hM => ?_) (fun K1 => ?_)
 ·
  obtain ⟨x4, rfl⟩ : ∃ y, y = st := ⟨st, rfl⟩
  replace hM : addrs_Own.k1 x4 = some r := hM
  unfold addrs_Own.k1 at hM
  try dsimp only
  refine WL.rn 1 [] [(2, .bool x4)] ?_
  refine WP.done ?_
  obtain rfl := Option.some.inj hM
  exact WP.retQ [] []
 ·
  refine WL.sp 9 ((a0 != 0) && (decide (a0 < 281474976710656))) (fun c1 => ?_) (fun c1 => ?_)
  ·replace hM := cond_t hM c1
   refine WL.rn 1 [] [(10, .int .u64 a0)] ?_
   obtain ⟨r2, h3, hM⟩ := bind_some hM
   refine WL.callP [] [] (addrs_Group_calls a0 _ h3) (fun _ h => h) (by kernel_rfl) (by kernel_rfl) rfl ?_
   refine WL.rn 2 [] [(13, .bool (!r2))] ?_
   exact WL.sub [2, 13] (by kernel_rfl) (WL.pick [] (by kernel_rfl) (by kernel_rfl) (K1 (!r2) hM))
  ·replace hM := cond_f hM c1
   refine WL.rn 4 [] [(13, .bool false)] ?_
   exact WL.sub [2, 13] (by kernel_rfl) (WL.pick [] (by kernel_rfl) (by kernel_rfl) (K1 false hM))
def neigh_New_1.f (a0 : Int) : Option (Bool) :=
 some ((decide (a0 ≥ 1)) && (decide (a0 ≤ 64)))
theorem neigh_New_1_calls (a0 : Int) (r : Bool) (h : neigh_New_1.f a0 = some r) : Pure Tryz.prog Glob 100 #[.int .i64 a0] (.bool r) := by
 intro w Z hS
 refine callsS (args := [.int .i64 a0]) (L := [(0, .int .i64 a0)]) (N := 9) Tryz.func100 hS ?_
 have hM := h
 clear h hS
 unfold neigh_New_1.f at hM
 refine WP.seq (WP.rn [] [(2, .bool false)] ?_)
 refine WP.seq (WP.region (WL.rn 3 [] [(5, .bool (decide (a0 ≥ 1)))] ?_))
 refine WL.bo 5 (decide (a0 ≥ 1)) 3 [] [] (fun b' => [(8, .bool (b' && (decide (a0 ≤ 64))))]) ?_
 refine WL.rn 1 [] [(2, .bool ((decide (a0 ≥ 1)) && (decide (a0 ≤ 64))))] ?_
 refine WP.done ?_
 obtain rfl := Option.some.inj hM
 exact WP.retQ [] []
def neigh_New.k1 (x20 : Bool) : Option (Int) :=
 bif x20 then
  some 1
 else
  some 0
def neigh_New.k2 (a0 : api_Near) (x16 : Bool) : Option (Int) :=
 bif x16 then
  neigh_New.k1 true
 else
  (neigh_New_1.f a0.Apart).bind fun r18 =>
  neigh_New.k1 (!r18)
def neigh_New.k3 (a0 : api_Near) (x12 : Bool) : Option (Int) :=
 bif x12 then
  neigh_New.k2 a0 true
 else
  (neigh_New_1.f a0.Tries).bind fun r14 =>
  neigh_New.k2 a0 (!r14)
def neigh_New.k4 (a0 : api_Near) (x8 : Bool) : Option (Int) :=
 bif (x8 || (a0.Ip == 0)) then
  neigh_New.k3 a0 true
 else
  (neigh_New_1.f a0.Pend).bind fun r10 =>
  neigh_New.k3 a0 (!r10)
def neigh_New.f (a0 : api_Near) : Option (Int) :=
 (ages_New.f a0.Room a0.Life).bind fun r2 =>
 bif (r2 != 0) then
  neigh_New.k4 a0 true
 else
  (addrs_Own.f a0.Mac).bind fun r6 =>
  neigh_New.k4 a0 (!r6)
theorem neigh_New_calls (a0 : api_Near) (r : Int) (h : neigh_New.f a0 = some r) : Does Tryz.prog 56 #[api_Near.v a0] [] ([] ++ Glob) (fun x : (Option Addr) => .tuple #[.pointer x, .int .i64 r]) (fun x => []) (fun _ => []) (fun x => [] ++ ([] ++ Glob)) := by
 intro w Z hS
 refine callsS (args := [api_Near.v a0]) (L := [(0, api_Near.v a0)]) (N := 53) Tryz.func56 hS ?_
 have hM := h
 clear h hS
 unfold neigh_New.f at hM
 refine WP.seq ?_
 refine WP.rh [] (fun b1 => [(1, .pointer (some ⟨b1, 0, none⟩)), (2, .pointer none), (3, .int .i64 0)]) (fun b1 => []) (fun b1 => [(b1, api_Near.o a0)]) (fun b1 => ?_)
 refine WP.seq (WP.region (WL.rn 4 [0, 0] [(9, .int .i64 a0.Room), (11, .int .i64 a0.Life)] ?_))
 obtain ⟨r2, h3, hM⟩ := bind_some hM
 refine WL.callX (F0 := []) [] [] [false] (fun _ => _) [] (by kernel_rfl) (ages_New_calls a0.Room a0.Life _ h3) rfl rfl (by kernel_rfl) (by kernel_rfl) (fun _ => rfl) (fun A4 => ?_)
 refine WL.rn 5 [] [(4, .pointer A4), (5, .int .i64 r2)] ?_
 refine WP.done (WP.seq ?_)
 refine WP.rn [] [(6, .func (.func 100) #[] #[])] ?_
 refine WP.seq (WP.seq (WP.region (WL.rn 3 [] [(17, .bool (r2 != 0))] ?_)))
 refine WL.join (σ := Bool) 5 (fun st => neigh_New.k4 a0 st = some r) (fun st => [(1, .pointer (some ⟨b1, 0, none⟩)), (2, .pointer none), (3, .int .i64 0), (4, .pointer A4), (6, .func (.func 100) #[] #[]), (22, .bool st)]) (fun st => Sat w Z [(b1, api_Near.o a0)] [] ([] ++ Glob)) (fun st hM => ?_) (fun K4 => ?_)
 ·
  obtain ⟨x8, rfl⟩ : ∃ y, y = st := ⟨st, rfl⟩
  replace hM : neigh_New.k4 a0 x8 = some r := hM
  unfold neigh_New.k4 at hM
  try dsimp only
  refine WL.rn 1 [] [(23, .bool x8)] ?_
  refine WL.bo 23 x8 4 [] [0] (fun b' => [(27, .bool (b' || (a0.Ip == 0)))]) ?_
  refine WL.rn 1 [] [(28, .bool (x8 || (a0.Ip == 0)))] ?_
  refine WL.join (σ := Bool) 6 (fun st => neigh_New.k3 a0 st = some r) (fun st => [(1, .pointer (some ⟨b1, 0, none⟩)), (2, .pointer none), (3, .int .i64 0), (4, .pointer A4), (6, .func (.func 100) #[] #[]), (34, .bool st)]) (fun st => Sat w Z [(b1, api_Near.o a0)] [] ([] ++ Glob)) (fun st hM => ?_) (fun K3 => ?_)
  ·
   obtain ⟨x12, rfl⟩ : ∃ y, y = st := ⟨st, rfl⟩
   replace hM : neigh_New.k3 a0 x12 = some r := hM
   unfold neigh_New.k3 at hM
   try dsimp only
   refine WL.rn 1 [] [(35, .bool x12)] ?_
   refine WL.join (σ := Bool) 6 (fun st => neigh_New.k2 a0 st = some r) (fun st => [(1, .pointer (some ⟨b1, 0, none⟩)), (2, .pointer none), (3, .int .i64 0), (4, .pointer A4), (6, .func (.func 100) #[] #[]), (41, .bool st)]) (fun st => Sat w Z [(b1, api_Near.o a0)] [] ([] ++ Glob)) (fun st hM => ?_) (fun K2 => ?_)
   ·
    obtain ⟨x16, rfl⟩ : ∃ y, y = st := ⟨st, rfl⟩
    replace hM : neigh_New.k2 a0 x16 = some r := hM
    unfold neigh_New.k2 at hM
    try dsimp only
    refine WL.rn 1 [] [(42, .bool x16)] ?_
    refine WL.join (σ := Bool) 6 (fun st => neigh_New.k1 st = some r) (fun st => [(1, .pointer (some ⟨b1, 0, none⟩)), (2, .pointer none), (3, .int .i64 0), (4, .pointer A4), (48, .bool st)]) (fun st => Sat w Z [(b1, api_Near.o a0)] [] ([] ++ Glob)) (fun st hM => ?_) (fun K1 => ?_)
    ·
     obtain ⟨x20, rfl⟩ : ∃ y, y = st := ⟨st, rfl⟩
     replace hM : neigh_New.k1 x20 = some r := hM
     unfold neigh_New.k1 at hM
     try dsimp only
     refine WP.done ?_
     refine WP.cond x20 rfl rfl (fun c21 => ?_) (fun c21 => ?_)
     ·replace hM := cond_t hM c21
      refine WP.seq (WP.rn [] [(2, .pointer none), (3, .int .i64 1)] ?_)
      obtain rfl := Option.some.inj hM
      exact WP.ret [] [] (.tuple #[.pointer none, .int .i64 1]) (by kernel_rfl) (fun w' hw => ⟨(none : Option Addr), rfl, (hw.pick [] (by kernel_rfl)).less (sub_ret [] [] (by kernel_rfl) (by kernel_rfl))⟩)
     ·replace hM := cond_f hM c21
      refine WP.skip (WP.seq ?_)
      refine WP.rh [0, 0, 0, 0, 0, 0, 0] (fun b22 => [(2, .pointer (some ⟨b22, 0, none⟩)), (3, .int .i64 0)]) (fun b22 => []) (fun b22 => [(b22, .cells #[.int .u64 a0.Mac, .int .u32 a0.Ip, .int .i64 a0.Room, .int .i64 a0.Life, .int .i64 a0.Pend, .int .i64 a0.Tries, .int .i64 a0.Apart, .pointer A4, .slice none 0 0, .slice none 0 0, .int .i64 0] 209 (0, 0))]) (fun b22 => ?_)
      refine WP.kp [false, true] ?_
      obtain rfl := Option.some.inj hM
      exact WP.ret [] [] (.tuple #[.pointer (some ⟨b22, 0, none⟩), .int .i64 0]) (by kernel_rfl) (fun w' hw => ⟨(some ⟨b22, 0, none⟩), rfl, (hw.pick [] (by kernel_rfl)).less (sub_ret [] [] (by kernel_rfl) (by kernel_rfl))⟩)
    ·
     refine WL.sp 42 x16 (fun c17 => ?_) (fun c17 => ?_)
     ·replace hM := cond_t hM c17
      refine WL.rn 6 [] [(48, .bool true)] ?_
      exact WL.sub [1, 2, 3, 4, 48] (by kernel_rfl) (WL.pick [0] (by kernel_rfl) (by kernel_rfl) (WL.lessF [] (by kernel_rfl) (K1 true hM)))
     ·replace hM := cond_f hM c17
      refine WL.rn 3 [0] [(43, .func (.func 100) #[] #[]), (45, .int .i64 a0.Apart)] ?_
      obtain ⟨r18, h19, hM⟩ := bind_some hM
      refine WL.callP [] [] (neigh_New_1_calls a0.Apart _ h19) (fun _ h => List.mem_append_right _ h) (by kernel_rfl) (by kernel_rfl) rfl ?_
      refine WL.rn 2 [] [(48, .bool (!r18))] ?_
      exact WL.sub [1, 2, 3, 4, 48] (by kernel_rfl) (WL.pick [0] (by kernel_rfl) (by kernel_rfl) (WL.lessF [] (by kernel_rfl) (K1 (!r18) hM)))
   ·
    refine WL.sp 35 x12 (fun c13 => ?_) (fun c13 => ?_)
    ·replace hM := cond_t hM c13
     refine WL.rn 6 [] [(41, .bool true)] ?_
     exact WL.sub [1, 2, 3, 4, 6, 41] (by kernel_rfl) (WL.pick [0] (by kernel_rfl) (by kernel_rfl) (WL.lessF [] (by kernel_rfl) (K2 true hM)))
    ·replace hM := cond_f hM c13
     refine WL.rn 3 [0] [(36, .func (.func 100) #[] #[]), (38, .int .i64 a0.Tries)] ?_
     obtain ⟨r14, h15, hM⟩ := bind_some hM
     refine WL.callP [] [] (neigh_New_1_calls a0.Tries _ h15) (fun _ h => List.mem_append_right _ h) (by kernel_rfl) (by kernel_rfl) rfl ?_
     refine WL.rn 2 [] [(41, .bool (!r14))] ?_
     exact WL.sub [1, 2, 3, 4, 6, 41] (by kernel_rfl) (WL.pick [0] (by kernel_rfl) (by kernel_rfl) (WL.lessF [] (by kernel_rfl) (K2 (!r14) hM)))
  ·
   refine WL.sp 28 (x8 || (a0.Ip == 0)) (fun c9 => ?_) (fun c9 => ?_)
   ·replace hM := cond_t hM c9
    refine WL.rn 6 [] [(34, .bool true)] ?_
    exact WL.sub [1, 2, 3, 4, 6, 34] (by kernel_rfl) (WL.pick [0] (by kernel_rfl) (by kernel_rfl) (WL.lessF [] (by kernel_rfl) (K3 true hM)))
   ·replace hM := cond_f hM c9
    refine WL.rn 3 [0] [(29, .func (.func 100) #[] #[]), (31, .int .i64 a0.Pend)] ?_
    obtain ⟨r10, h11, hM⟩ := bind_some hM
    refine WL.callP [] [] (neigh_New_1_calls a0.Pend _ h11) (fun _ h => List.mem_append_right _ h) (by kernel_rfl) (by kernel_rfl) rfl ?_
    refine WL.rn 2 [] [(34, .bool (!r10))] ?_
    exact WL.sub [1, 2, 3, 4, 6, 34] (by kernel_rfl) (WL.pick [0] (by kernel_rfl) (by kernel_rfl) (WL.lessF [] (by kernel_rfl) (K3 (!r10) hM)))
 ·
  refine WL.sp 17 (r2 != 0) (fun c5 => ?_) (fun c5 => ?_)
  ·replace hM := cond_t hM c5
   refine WL.rn 5 [] [(22, .bool true)] ?_
   exact WL.sub [1, 2, 3, 4, 6, 22] (by kernel_rfl) (WL.pick [0] (by kernel_rfl) (by kernel_rfl) (WL.lessF [] (by kernel_rfl) (K4 true hM)))
  ·replace hM := cond_f hM c5
   refine WL.rn 2 [0] [(19, .int .u64 a0.Mac)] ?_
   obtain ⟨r6, h7, hM⟩ := bind_some hM
   refine WL.callP [] [] (addrs_Own_calls a0.Mac _ h7) (fun _ h => List.mem_append_right _ h) (by kernel_rfl) (by kernel_rfl) rfl ?_
   refine WL.rn 2 [] [(22, .bool (!r6))] ?_
   exact WL.sub [1, 2, 3, 4, 6, 22] (by kernel_rfl) (WL.pick [0] (by kernel_rfl) (by kernel_rfl) (WL.lessF [] (by kernel_rfl) (K4 (!r6) hM)))
def routes_New.f (k : Nat) : Option (List (MapS Int)) := if 33 < k then some (List.replicate 33 (MapS.nil : MapS Int)) else none
def routes_New.M (n : Nat) (bs : List Nat) : Option (List (MapS Int)) := if bs.length ≤ 33 ∧ 33 - bs.length < n then some (List.replicate 33 (MapS.nil : MapS Int)) else none
theorem routes_New_calls (k : Nat) (r : (List (MapS Int))) (h : routes_New.f k = some r) : DoesG Tryz.prog 101 #[] [] [] ([] ++ Glob) (fun x : (Nat × List Nat) => .pointer (some ⟨x.1, 0, none⟩)) (fun _ => []) (fun x => [Fam 276 33 .u32 (Value.int .u32) x r]) (fun x => [] ++ ([] ++ Glob)) := by
 intro w Z hS
 refine calls_of (args := []) (L := []) (N := 16) (S := Sat w Z [] [] ([] ++ Glob)) Tryz.func101 rfl rfl (Nat.le_of_ble_eq_true rfl) rfl hS ?_
 have hM : routes_New.M k [] = some r := by
  unfold routes_New.f at h
  unfold routes_New.M
  simp only [List.length_nil, Nat.zero_le, true_and, Nat.sub_zero]
  exact h
 clear h hS
 refine WP.seq (WP.rn [] [(0, .pointer none)] ?_)
 refine WP.seq ?_
 refine WP.rh [] (fun b1 => [(1, .pointer (some ⟨b1, 0, none⟩))]) (fun b1 => []) (fun b1 => [(b1, .cells #[.map none, .map none, .map none, .map none, .map none, .map none, .map none, .map none, .map none, .map none, .map none, .map none, .map none, .map none, .map none, .map none, .map none, .map none, .map none, .map none, .map none, .map none, .map none, .map none, .map none, .map none, .map none, .map none, .map none, .map none, .map none, .map none, .map none] 276 (0, 0))]) (fun b1 => ?_)
 refine WP.famStart (b := b1) (e := 276) (cs := #[.map none, .map none, .map none, .map none, .map none, .map none, .map none, .map none, .map none, .map none, .map none, .map none, .map none, .map none, .map none, .map none, .map none, .map none, .map none, .map none, .map none, .map none, .map none, .map none, .map none, .map none, .map none, .map none, .map none, .map none, .map none, .map none, .map none]) (n := 33) 0 (by kernel_rfl) rfl (H' := []) (by kernel_rfl) ?_
 refine WP.seq (WP.seq (WP.rn [] [(5, .int .i64 0)] ?_))
 refine WP.block ?_
 refine WP.sub [1, 5] (L' := [(1, .pointer (some ⟨b1, 0, none⟩)), (5, .int .i64 (([] : List Nat).length : Int))]) (by kernel_rfl) ?_
 refine WP.loop (σ := List Nat) (fun n bs => routes_New.M n bs) r (fun bs => [(1, .pointer (some ⟨b1, 0, none⟩)), (5, .int .i64 (bs.length : Int))]) (fun bs => Sat w Z [] [FamP 276 33 (b1, bs)] ([] ++ Glob)) (st := []) (fun n bs hM => ?_) hM
 obtain ⟨hle, hlt, hr⟩ : bs.length ≤ 33 ∧ 33 - bs.length < n ∧ List.replicate 33 (MapS.nil : MapS Int) = r := by
  have hM' := hM
  unfold routes_New.M at hM'
  split at hM'
  ·rename_i hh; exact ⟨hh.1, hh.2, Option.some.inj hM'⟩
  ·cases hM'
 rcases n with _ | n
 ·omega
 clear hM
 show WP _ _ _ _ _ [(1, .pointer (some ⟨b1, 0, none⟩)), (5, .int .i64 (bs.length : Int))] (Sat w Z [] [FamP 276 33 (b1, bs)] ([] ++ Glob))
 refine WP.seq (WP.rn [] [(6, .bool (decide ((bs.length : Int) < 33)))] ?_)
 refine WP.seq ?_
 refine WP.cond (decide ((bs.length : Int) < 33)) rfl rfl (fun c11 => ?_) (fun c11 => ?_)
 ·have hl : bs.length < 33 := by have := of_decide_eq_true c11; omega
  refine WP.skip (WP.seq (WP.block (WP.seq (WP.rn [] [(7, .int .i64 (bs.length : Int)), (2, .int .i64 (bs.length : Int))] ?_))))
  refine WP.region ?_
  refine WL.rh 5 [] (fun b2 => [(8, .pointer (some ⟨b1, 0, none⟩)), (9, .int .i64 (bs.length : Int)), (10, .map (some b2)), (11, .pointer (some ⟨b1, 0, none⟩)), (12, .pointer (some ⟨b1, 0, none⟩))]) (fun b2 => []) (fun b2 => [(b2, .map #[] 0)]) (fun b2 => ?_)
  have hg : getL 33 (List.replicate 33 ()) (bs.length : Int) = some () := by
   unfold getL
   rw [if_pos ⟨by omega, by omega⟩, List.getElem?_replicate, if_pos (by omega)]
  refine WL.val (v := .pointer (some ⟨b1, 0 + Int.toNat (bs.length : Int) * 1, none⟩)) (fun _ => run_idxArr (xs := List.replicate 33 ()) (u := ()) (n := 33) (e := 273) (sz := 1) (k := .i64) (i := (bs.length : Int)) (b := b1) (o := 0) (by kernel_rfl) (by kernel_rfl) (by kernel_rfl) (by kernel_rfl) hg) (by kernel_rfl) (by kernel_rfl) rfl ?_
  refine WL.famPush (b' := b2) (i := (bs.length : Int)) (H' := []) 0 (fun _ => by kernel_rfl) (by kernel_rfl) (by kernel_rfl) (by kernel_rfl) (by kernel_rfl) (by simp) hl (by kernel_rfl) (by kernel_rfl) (by kernel_rfl) ?_
  refine WP.done (WP.leave (WP.rn [] [(14, .int .i64 (i64 ((bs.length : Int) + 1))), (5, .int .i64 (i64 ((bs.length : Int) + 1)))] ?_))
  have e : i64 ((bs.length : Int) + 1) = (((bs ++ [b2]).length : Nat) : Int) := by
   rw [List.length_append, List.length_singleton]
   simp [i64, IntKind.wrap, IntKind.bits, IntKind.signed]; omega
  rw [e]
  refine WP.again' [1, 5] (bs ++ [b2]) ?_ (by kernel_rfl) (fun _ h => h)
  show routes_New.M n (bs ++ [b2]) = some r
  unfold routes_New.M
  rw [if_pos ⟨by rw [List.length_append, List.length_singleton]; omega, by rw [List.length_append, List.length_singleton]; omega⟩, hr]
 ·have hl : bs.length = 33 := by have := of_decide_eq_false c11; omega
  refine WP.exit rfl (WP.famDone (V := Int) .u32 (Value.int .u32) hl ?_)
  rw [hr]
  refine WP.seq ?_
  refine WP.rn [] [(15, .pointer (some ⟨b1, 0, none⟩)), (0, .pointer (some ⟨b1, 0, none⟩))] ?_
  exact WP.ret [] [] (.pointer (some ⟨b1, 0, none⟩)) (by kernel_rfl) (fun w' hw => ⟨(b1, bs), rfl, hw⟩)
def addrs_rest.l1 (a0 : api_Net) : Nat → Int → Int → Option (Int)
 | 0, _, _ => none
 | n + 1, x2, x3 =>
  bif decide (x3 < (i64 (32 - a0.Bits))) then
   addrs_rest.l1 a0 n (bOr .u32 (u32 (x2 * 2)) 1) (i64 (x3 + 1))
  else
   some x2
def addrs_rest.f (k : Nat) (a0 : api_Net) : Option (Int) :=
 addrs_rest.l1 a0 k 0 0
theorem addrs_rest_calls (k : Nat) (a0 : api_Net) (r : Int) (h : addrs_rest.f k a0 = some r) : Pure Tryz.prog Glob 150 #[api_Net.v a0] (.int .u32 r) := by
 intro w Z hS
 refine callsS (args := [api_Net.v a0]) (L := [(0, api_Net.v a0)]) (N := 14) Tryz.func150 hS ?_
 have hM := h
 clear h hS
 unfold addrs_rest.f at hM
 refine WP.seq ?_
 refine WP.rh [] (fun b1 => [(1, .pointer (some ⟨b1, 0, none⟩)), (2, .int .u32 0)]) (fun b1 => []) (fun b1 => [(b1, api_Net.o a0)]) (fun b1 => ?_)
 refine WP.seq (WP.rn [] [(3, .int .u32 0)] ?_)
 refine WP.seq (WP.seq (WP.rn [0] [(6, .int .i64 (i64 (32 - a0.Bits))), (7, .int .i64 0)] ?_))
 refine WP.kp [false] ?_
 refine WP.block (WP.sub [2, 3, 6, 7] (L' := [(2, .int .u32 0), (3, .int .u32 0), (6, .int .i64 (i64 (32 - a0.Bits))), (7, .int .i64 0)]) (by kernel_rfl) ?_)
 refine WP.loop (σ := Int × Int) (fun n st => addrs_rest.l1 a0 n st.1 st.2) r (fun st => [(2, .int .u32 0), (3, .int .u32 st.1), (6, .int .i64 (i64 (32 - a0.Bits))), (7, .int .i64 st.2)]) (fun st => Sat w Z [] [] Glob) (st := (0, 0)) (fun n st hM => ?_) hM
 rcases n with _ | n
 ·exact nomatch (show (none : Option _) = some r from hM)
 obtain ⟨x2, x3⟩ := st
 replace hM : addrs_rest.l1 a0 (n + 1) x2 x3 = some r := hM
 rw [addrs_rest.l1] at hM
 try dsimp only
 refine WP.seq (WP.rn [] [(8, .bool (decide (x3 < (i64 (32 - a0.Bits)))))] ?_)
 refine WP.seq ?_
 refine WP.cond (decide (x3 < (i64 (32 - a0.Bits)))) rfl rfl (fun c4 => ?_) (fun c4 => ?_)
 ·replace hM := cond_t hM c4
  refine WP.skip (WP.seq (WP.block (WP.rn [] [(3, .int .u32 (bOr .u32 (u32 (x2 * 2)) 1)), (9, .int .u32 x2), (10, .int .u32 (u32 (x2 * 2))), (11, .int .u32 (bOr .u32 (u32 (x2 * 2)) 1))] ?_)))
  refine WP.leave (WP.rn [] [(7, .int .i64 (i64 (x3 + 1))), (12, .int .i64 (i64 (x3 + 1)))] ?_)
  exact WP.again' [2, 3, 6, 7] (bOr .u32 (u32 (x2 * 2)) 1, i64 (x3 + 1)) hM (by kernel_rfl) (fun _ h => h.pick [] (by kernel_rfl))
 ·replace hM := cond_f hM c4
  refine WP.exit rfl (WP.seq (WP.rn [] [(2, .int .u32 x2)] ?_))
  obtain rfl := Option.some.inj hM
  exact WP.retQ [] []
def addrs_Net.k1 (x5 : Bool) : Option (Bool) :=
 some x5
def addrs_Net.f (k : Nat) (a0 : api_Net) : Option (Bool) :=
 bif ((decide (a0.Bits ≥ 0)) && (decide (a0.Bits ≤ 32))) then
  (addrs_rest.f k a0).bind fun r3 =>
  addrs_Net.k1 ((bAnd .u32 a0.Ip r3) == 0)
 else
  addrs_Net.k1 false
theorem addrs_Net_calls (k : Nat) (a0 : api_Net) (r : Bool) (h : addrs_Net.f k a0 = some r) : Pure Tryz.prog Glob 137 #[api_Net.v a0] (.bool r) := by
 intro w Z hS
 refine callsS (args := [api_Net.v a0]) (L := [(0, api_Net.v a0)]) (N := 19) Tryz.func137 hS ?_
 have hM := h
 clear h hS
 unfold addrs_Net.f at hM
 refine WP.seq ?_
 refine WP.rh [] (fun b1 => [(1, .pointer (some ⟨b1, 0, none⟩)), (2, .bool false)]) (fun b1 => []) (fun b1 => [(b1, api_Net.o a0)]) (fun b1 => ?_)
 refine WP.seq (WP.quiet (by kernel_rfl) (by kernel_rfl) ?_)
 refine QL.rn 4 [0] [(6, .bool (decide (a0.Bits ≥ 0)))] ?_
 refine QL.bo 6 (decide (a0.Bits ≥ 0)) 4 [0] [] (fun b' => [(10, .bool (b' && (decide (a0.Bits ≤ 32))))]) ?_
 refine QL.rn 1 [] [(11, .bool ((decide (a0.Bits ≥ 0)) && (decide (a0.Bits ≤ 32))))] ?_
 refine QL.join (σ := Bool) 7 (fun st => addrs_Net.k1 st = some r) (fun st => [(2, .bool false), (18, .bool st)]) (fun st hM => ?_) (fun K1 => ?_)
 ·
  obtain ⟨x5, rfl⟩ : ∃ y, y = st := ⟨st, rfl⟩
  replace hM : addrs_Net.k1 x5 = some r := hM
  unfold addrs_Net.k1 at hM
  show QL _ _ _ _ _ _ [(2, .bool false), (18, .bool x5)]
  refine QL.rn 1 [] [(2, .bool x5)] ?_
  refine QL.done ?_
  refine WP.kp [false] ?_
  obtain rfl := Option.some.inj hM
  exact WP.retQ [] []
 ·
  refine QL.sp 11 ((decide (a0.Bits ≥ 0)) && (decide (a0.Bits ≤ 32))) (fun c2 => ?_) (fun c2 => ?_)
  ·replace hM := cond_t hM c2
   refine QL.rn 3 [0, 0, 0] [(13, .int .u32 a0.Ip), (14, api_Net.v a0)] ?_
   obtain ⟨r3, h4, hM⟩ := bind_some hM
   refine QL.callP [] [] (addrs_rest_calls k a0 _ h4) (fun _ h => h) (by kernel_rfl) (by kernel_rfl) rfl ?_
   refine QL.rn 3 [] [(18, .bool ((bAnd .u32 a0.Ip r3) == 0))] ?_
   exact QL.sub [2, 18] (by kernel_rfl) (K1 ((bAnd .u32 a0.Ip r3) == 0) hM)
  ·replace hM := cond_f hM c2
   refine QL.rn 7 [] [(18, .bool false)] ?_
   exact QL.sub [2, 18] (by kernel_rfl) (K1 false hM)
def routes_Table_size.l1 (a0 : (List (MapS Int))) : Nat → Int → Int → Option (Int)
 | 0, _, _ => none
 | n + 1, x1, x2 =>
  bif decide (x2 < 33) then
   (getL 33 a0 x2).bind fun t4 =>
   routes_Table_size.l1 a0 n (i64 (x1 + (MapS.len t4))) (i64 (x2 + 1))
  else
   some x1
def routes_Table_size.f (k : Nat) (a0 : (List (MapS Int))) : Option (Int) :=
 routes_Table_size.l1 a0 k 0 0
theorem routes_Table_size_calls (k : Nat) (A00 : (Nat × List Nat)) (a0 : (List (MapS Int))) (r : Int) (h : routes_Table_size.f k a0 = some r) : DoesG Tryz.prog 138 #[.pointer (some ⟨A00.1, 0, none⟩)] [] [Fam 276 33 .u32 (Value.int .u32) A00 a0] ([] ++ Glob) (fun x : Unit => .int .i64 r) (fun x => []) (fun x => [Fam 276 33 .u32 (Value.int .u32) A00 a0]) (fun x => [] ++ ([] ++ Glob)) := by
 intro w Z hS
 refine callsS (args := [.pointer (some ⟨A00.1, 0, none⟩)]) (L := [(0, .pointer (some ⟨A00.1, 0, none⟩))]) (N := 19) Tryz.func138 hS ?_
 have hM := h
 clear h hS
 unfold routes_Table_size.f at hM
 refine WP.seq (WP.rn [] [(2, .int .i64 0)] ?_)
 refine WP.seq (WP.rn [] [(3, .int .i64 0)] ?_)
 refine WP.seq (WP.seq (WP.region ?_))
 refine WL.rn 3 [] [(8, .pointer (some ⟨A00.1, 0, none⟩))] ?_
 refine WL.valM (v := .agg (mapsV A00.2)) (p := Fam 276 33 .u32 (Value.int .u32) A00 a0) 0 (by kernel_rfl) (fun w hp => run_famArr hp (fun _ => by kernel_rfl) (by kernel_rfl) (by kernel_rfl)) (by kernel_rfl) (by kernel_rfl) rfl ?_
 refine WL.rn 1 [] [(10, .int .i64 0)] ?_
 refine WP.done (WP.block (WP.sub [2, 3, 9, 10] (L' := [(2, .int .i64 0), (3, .int .i64 0), (9, .agg (mapsV A00.2)), (10, .int .i64 0)]) (by kernel_rfl) ?_))
 refine WP.lessF [] (F' := []) (by kernel_rfl) ?_
 refine WP.loop (σ := Int × Int) (fun n st => routes_Table_size.l1 a0 n st.1 st.2) r (fun st => [(2, .int .i64 0), (3, .int .i64 st.1), (9, .agg (mapsV A00.2)), (10, .int .i64 st.2)]) (fun st => Sat w Z [] [Fam 276 33 .u32 (Value.int .u32) A00 a0] ([] ++ Glob)) (st := (0, 0)) (fun n st hM => ?_) hM
 rcases n with _ | n
 ·exact nomatch (show (none : Option _) = some r from hM)
 obtain ⟨x1, x2⟩ := st
 replace hM : routes_Table_size.l1 a0 (n + 1) x1 x2 = some r := hM
 rw [routes_Table_size.l1] at hM
 try dsimp only
 refine WP.seq (WP.rn [] [(11, .bool (decide (x2 < 33)))] ?_)
 refine WP.seq ?_
 refine WP.cond (decide (x2 < 33)) rfl rfl (fun c3 => ?_) (fun c3 => ?_)
 ·replace hM := cond_t hM c3
  refine WP.skip (WP.seq (WP.block (WP.seq (WP.region ?_))))
  obtain ⟨t4, h5, hM⟩ := bind_some hM
  refine WL.valM (v := .map (some (A00.2.getD (Int.toNat x2) 0))) (p := Fam 276 33 .u32 (Value.int .u32) A00 a0) 0 (by kernel_rfl) (fun w hp => run_famIdx (i := x2) (m := t4) (k := .i64) (e' := 273) hp (by kernel_rfl) (by kernel_rfl) (fun _ => by kernel_rfl) (by kernel_rfl) (by kernel_rfl) h5) (by kernel_rfl) (by kernel_rfl) rfl ?_
  refine WL.rn 1 [] [(5, .map (some (A00.2.getD (Int.toNat x2) 0)))] ?_
  refine WP.done (WP.region (WL.rn 2 [] [(13, .int .i64 x1), (14, .map (some (A00.2.getD (Int.toNat x2) 0)))] ?_))
  refine WL.valM (v := .int .i64 (MapS.len t4)) (p := Fam 276 33 .u32 (Value.int .u32) A00 a0) 0 (by kernel_rfl) (fun w hp => run_famLen (i := x2) (m := t4) (kt := 49) (et := 49) hp rfl (by kernel_rfl) (by kernel_rfl) h5) (by kernel_rfl) (by kernel_rfl) rfl ?_
  refine WL.rn 2 [] [(3, .int .i64 (i64 (x1 + (MapS.len t4)))), (16, .int .i64 (i64 (x1 + (MapS.len t4))))] ?_
  refine WP.done (WP.leave (WP.rn [] [(10, .int .i64 (i64 (x2 + 1))), (17, .int .i64 (i64 (x2 + 1)))] ?_))
  exact WP.again' [2, 3, 9, 10] (i64 (x1 + (MapS.len t4)), i64 (x2 + 1)) hM (by kernel_rfl) (fun _ h => ((h.pick [] (by kernel_rfl)).lessF [] (by kernel_rfl)).pickG [0] [] 1 rfl (by decide) (by kernel_rfl))
 ·replace hM := cond_f hM c3
  refine WP.exit rfl (WP.seq (WP.rn [] [(2, .int .i64 x1)] ?_))
  obtain rfl := Option.some.inj hM
  exact WP.ret [] [] (.int .i64 x1) (by kernel_rfl) (fun w' hw => ⟨(), rfl, (hw.pick [] (by kernel_rfl)).less (sub_ret [] [] (by kernel_rfl) (by kernel_rfl))⟩)
def routes_Table_Put.k1 (a0 : (List (MapS Int))) (a1 : api_Route) (x11 : Bool) : Option (Int × (List (MapS Int))) :=
 bif x11 then
  some (181, a0)
 else
  (getL 33 a0 a1.To.Bits).bind fun t13 =>
  some (0, (List.set a0 (Int.toNat a1.To.Bits) (MapS.set t13 a1.To.Ip a1.Via)))
def routes_Table_Put.f (k : Nat) (a0 : (List (MapS Int))) (a1 : api_Route) : Option (Int × (List (MapS Int))) :=
 (addrs_Net.f k a1.To).bind fun r2 =>
 bif !r2 then
  some (180, a0)
 else
  (getL 33 a0 a1.To.Bits).bind fun t5 =>
  bif !((MapS.get t5 a1.To.Ip).isSome) then
   (routes_Table_size.f k a0).bind fun r8 =>
   routes_Table_Put.k1 a0 a1 (decide (r8 ≥ 256))
  else
   routes_Table_Put.k1 a0 a1 false
theorem routes_Table_Put_calls (k : Nat) (A00 : (Nat × List Nat)) (a0 : (List (MapS Int))) (a1 : api_Route) (r : Int × (List (MapS Int))) (h : routes_Table_Put.f k a0 a1 = some r) : DoesG Tryz.prog 102 #[.pointer (some ⟨A00.1, 0, none⟩), api_Route.v a1] [] [Fam 276 33 .u32 (Value.int .u32) A00 a0] ([] ++ Glob) (fun x : Unit => .int .i64 r.1) (fun x => []) (fun x => [Fam 276 33 .u32 (Value.int .u32) A00 r.2]) (fun x => [] ++ ([] ++ Glob)) := by
 intro w Z hS
 refine callsS (args := [.pointer (some ⟨A00.1, 0, none⟩), api_Route.v a1]) (L := [(0, .pointer (some ⟨A00.1, 0, none⟩)), (1, api_Route.v a1)]) (N := 46) Tryz.func102 hS ?_
 have hM := h
 clear h hS
 unfold routes_Table_Put.f at hM
 refine WP.seq ?_
 refine WP.rh [] (fun b1 => [(3, .pointer (some ⟨b1, 0, none⟩)), (4, .int .i64 0)]) (fun b1 => []) (fun b1 => [(b1, api_Route.o a1)]) (fun b1 => ?_)
 refine WP.seq (WP.seq (WP.region (WL.rn 2 [0, 0] [(8, api_Net.v a1.To)] ?_)))
 obtain ⟨r2, h3, hM⟩ := bind_some hM
 refine WL.callP [] [] (addrs_Net_calls k a1.To _ h3) (fun _ h => List.mem_append_right _ h) (by kernel_rfl) (by kernel_rfl) rfl ?_
 refine WL.rn 1 [] [(10, .bool (!r2))] ?_
 refine WP.done ?_
 refine WP.cond (!r2) rfl rfl (fun c4 => ?_) (fun c4 => ?_)
 ·replace hM := cond_t hM c4
  refine WP.seq (WP.rn [] [(4, .int .i64 180)] ?_)
  obtain rfl := Option.some.inj hM
  exact WP.ret [] [] (.int .i64 180) (by kernel_rfl) (fun w' hw => ⟨(), rfl, (hw.pick [] (by kernel_rfl)).less (sub_ret [] [] (by kernel_rfl) (by kernel_rfl))⟩)
 ·replace hM := cond_f hM c4
  refine WP.skip (WP.seq ?_)
  obtain ⟨t5, h6, hM⟩ := bind_some hM
  refine WP.rs [0, 3, 4] ?_
  refine WP.graphF (X := Unit) 17 2 [⟨0, 17, fun _ => [(b1, api_Route.o a1)], fun _ => []⟩, ⟨0, 17, fun _ => [], fun _ => [Fam 276 33 .u32 (Value.int .u32) A00 a0]⟩] [⟨[], [], [], [], [], fun _ => .pointer (some ⟨A00.1, 0, none⟩), fun _ => []⟩, ⟨[], [], [], [], [], fun _ => .pointer (some ⟨b1, 0, none⟩), fun _ => []⟩, ⟨[1], [], [], [], [], fun _ => .pointer (some ⟨b1, 1, none⟩), fun _ => []⟩, ⟨[1, 2], [0], [0], [], [], fun _ => .int .i64 a1.To.Bits, fun _ => []⟩, ⟨[0], [], [], [], [], fun _ => .pointer (some ⟨A00.1, 0, none⟩), fun _ => []⟩, ⟨[0, 4], [], [], [], [], fun _ => .pointer (some ⟨A00.1, 0, none⟩), fun _ => []⟩, ⟨[0, 1, 2, 3, 4, 5], [1], [1], [], [], fun _ => .pointer (some ⟨A00.1, 0 + Int.toNat a1.To.Bits * 1, none⟩), fun _ => []⟩, ⟨[0, 1, 2, 3, 4, 5, 6], [1], [1], [], [], fun _ => .map (some (A00.2.getD (Int.toNat a1.To.Bits) 0)), fun _ => []⟩, ⟨[], [], [], [], [], fun _ => .pointer (some ⟨b1, 0, none⟩), fun _ => []⟩, ⟨[8], [], [], [], [], fun _ => .pointer (some ⟨b1, 0, none⟩), fun _ => []⟩, ⟨[8, 9], [0], [0], [], [], fun _ => .int .u32 a1.To.Ip, fun _ => []⟩, ⟨[0, 1, 2, 3, 4, 5, 6, 7, 8, 9, 10], [1], [1], [], [], fun _ => .tuple #[.int .u32 ((MapS.get t5 a1.To.Ip).getD 0), .bool ((MapS.get t5 a1.To.Ip).isSome)], fun _ => []⟩, ⟨[0, 1, 2, 3, 4, 5, 6, 7, 8, 9, 10, 11], [], [], [], [], fun _ => .tuple #[.int .u32 ((MapS.get t5 a1.To.Ip).getD 0), .bool ((MapS.get t5 a1.To.Ip).isSome)], fun _ => []⟩, ⟨[0, 1, 2, 3, 4, 5, 6, 7, 8, 9, 10, 11, 12], [], [], [], [], fun _ => .int .u32 ((MapS.get t5 a1.To.Ip).getD 0), fun _ => []⟩, ⟨[0, 1, 2, 3, 4, 5, 6, 7, 8, 9, 10, 11, 12], [], [], [], [], fun _ => .bool ((MapS.get t5 a1.To.Ip).isSome), fun _ => []⟩, ⟨[0, 1, 2, 3, 4, 5, 6, 7, 8, 9, 10, 11, 12, 13], [], [], [], [], fun _ => .int .u32 ((MapS.get t5 a1.To.Ip).getD 0), fun _ => []⟩, ⟨[0, 1, 2, 3, 4, 5, 6, 7, 8, 9, 10, 11, 12, 13, 14, 15], [], [], [], [], fun _ => .bool ((MapS.get t5 a1.To.Ip).isSome), fun _ => []⟩] (fun ξ => [(6, .bool ((MapS.get t5 a1.To.Ip).isSome))]) (fun ξ => [(b1, api_Route.o a1)]) (fun ξ => [Fam 276 33 .u32 (Value.int .u32) A00 a0]) (fun ξ => []) (AllN.cons ?_ (AllN.cons ?_ (AllN.cons ?_ (AllN.cons ?_ (AllN.cons ?_ (AllN.cons ?_ (AllN.cons ?_ (AllN.cons ?_ (AllN.cons ?_ (AllN.cons ?_ (AllN.cons ?_ (AllN.cons ?_ (AllN.cons ?_ (AllN.cons ?_ (AllN.cons ?_ (AllN.cons ?_ (AllN.cons ?_ AllN.nil))))))))))))))))) (AllN.cons (VAgr.c rfl) (AllN.cons (VAgr.c rfl) (AllN.cons (VAgr.c rfl) (AllN.cons (VAgr.c rfl) (AllN.cons (VAgr.c rfl) (AllN.cons (VAgr.c rfl) (AllN.cons (VAgr.c rfl) (AllN.cons (VAgr.c rfl) (AllN.cons (VAgr.c rfl) (AllN.cons (VAgr.c rfl) (AllN.cons (VAgr.c rfl) (AllN.cons (VAgr.c rfl) (AllN.cons (VAgr.c rfl) (AllN.cons (VAgr.c rfl) (AllN.cons (VAgr.c rfl) (AllN.cons (VAgr.c rfl) (AllN.cons (VAgr.c rfl) AllN.nil))))))))))))))))) (AllN.cons (RAgr.c rfl) (AllN.cons (RAgr.c rfl) AllN.nil)) (fun ξ => ?_)
  ·
   intro o t ho ht ξ Gr Γr Lr Q hk
   cases ho; cases ht
   refine WL.rn 1 [] [(12, .pointer (some ⟨A00.1, 0, none⟩))] ?_
   exact WL.fin (hk default)
  ·
   intro o t ho ht ξ Gr Γr Lr Q hk
   cases ho; cases ht
   refine WL.rn 1 [] [(13, .pointer (some ⟨b1, 0, none⟩))] ?_
   exact WL.fin (hk default)
  ·
   intro o t ho ht ξ Gr Γr Lr Q hk
   cases ho; cases ht
   refine WL.rn 1 [] [(14, .pointer (some ⟨b1, 1, none⟩))] ?_
   exact WL.fin (hk default)
  ·
   intro o t ho ht ξ Gr Γr Lr Q hk
   cases ho; cases ht
   refine WL.rn 1 [0] [(15, .int .i64 a1.To.Bits)] ?_
   exact WL.fin (hk default)
  ·
   intro o t ho ht ξ Gr Γr Lr Q hk
   cases ho; cases ht
   refine WL.rn 1 [] [(16, .pointer (some ⟨A00.1, 0, none⟩))] ?_
   exact WL.fin (hk default)
  ·
   intro o t ho ht ξ Gr Γr Lr Q hk
   cases ho; cases ht
   refine WL.rn 1 [] [(17, .pointer (some ⟨A00.1, 0, none⟩))] ?_
   exact WL.fin (hk default)
  ·
   intro o t ho ht ξ Gr Γr Lr Q hk
   cases ho; cases ht
   refine WL.val (v := .pointer (some ⟨A00.1, 0 + Int.toNat a1.To.Bits * 1, none⟩)) (fun _ => run_idxArr (xs := a0) (u := t5) (n := 33) (e := 273) (sz := 1) (k := .i64) (i := a1.To.Bits) (b := A00.1) (o := 0) (by kernel_rfl) (by kernel_rfl) (by kernel_rfl) (by kernel_rfl) h6) (by kernel_rfl) (by kernel_rfl) rfl ?_
   exact WL.fin (hk default)
  ·
   intro o t ho ht ξ Gr Γr Lr Q hk
   cases ho; cases ht
   refine WL.valM (v := .map (some (A00.2.getD (Int.toNat a1.To.Bits) 0))) (p := Fam 276 33 .u32 (Value.int .u32) A00 a0) 0 (by kernel_rfl) (fun w hp => run_famLoad (i := a1.To.Bits) (m := t5) hp (fun _ => by kernel_rfl) (by kernel_rfl) h6) (by kernel_rfl) (by kernel_rfl) rfl ?_
   exact WL.fin (hk default)
  ·
   intro o t ho ht ξ Gr Γr Lr Q hk
   cases ho; cases ht
   refine WL.rn 1 [] [(20, .pointer (some ⟨b1, 0, none⟩))] ?_
   exact WL.fin (hk default)
  ·
   intro o t ho ht ξ Gr Γr Lr Q hk
   cases ho; cases ht
   refine WL.rn 1 [] [(21, .pointer (some ⟨b1, 0, none⟩))] ?_
   exact WL.fin (hk default)
  ·
   intro o t ho ht ξ Gr Γr Lr Q hk
   cases ho; cases ht
   refine WL.rn 1 [0] [(22, .int .u32 a1.To.Ip)] ?_
   exact WL.fin (hk default)
  ·
   intro o t ho ht ξ Gr Γr Lr Q hk
   cases ho; cases ht
   refine WL.valM (v := .tuple #[.int .u32 ((MapS.get t5 a1.To.Ip).getD 0), .bool ((MapS.get t5 a1.To.Ip).isSome)]) (p := Fam 276 33 .u32 (Value.int .u32) A00 a0) 0 (by kernel_rfl) (fun w hp => run_famGet (i := a1.To.Bits) (m := t5) (k := a1.To.Ip) (kt := 49) (et := 49) (ok := true) 0 hp (by kernel_rfl) (by kernel_rfl) (fun _ => by kernel_rfl) (by kernel_rfl) (by kernel_rfl) h6) (by kernel_rfl) (by kernel_rfl) rfl ?_
   exact WL.fin (hk default)
  ·
   intro o t ho ht ξ Gr Γr Lr Q hk
   cases ho; cases ht
   refine WL.rn 1 [] [(11, .tuple #[.int .u32 ((MapS.get t5 a1.To.Ip).getD 0), .bool ((MapS.get t5 a1.To.Ip).isSome)])] ?_
   exact WL.fin (hk default)
  ·
   intro o t ho ht ξ Gr Γr Lr Q hk
   cases ho; cases ht
   refine WL.rn 1 [] [(24, .int .u32 ((MapS.get t5 a1.To.Ip).getD 0))] ?_
   exact WL.fin (hk default)
  ·
   intro o t ho ht ξ Gr Γr Lr Q hk
   cases ho; cases ht
   refine WL.rn 1 [] [(25, .bool ((MapS.get t5 a1.To.Ip).isSome))] ?_
   exact WL.fin (hk default)
  ·
   intro o t ho ht ξ Gr Γr Lr Q hk
   cases ho; cases ht
   refine WL.rn 1 [] [(5, .int .u32 ((MapS.get t5 a1.To.Ip).getD 0))] ?_
   exact WL.fin (hk default)
  ·
   intro o t ho ht ξ Gr Γr Lr Q hk
   cases ho; cases ht
   refine WL.rn 1 [] [(6, .bool ((MapS.get t5 a1.To.Ip).isSome))] ?_
   exact WL.fin (hk default)
  refine WP.less (Φ' := ([] ++ Glob)) (fun _ h => h) ?_
  refine WP.seq (WP.seq (WP.region (WL.rn 3 [] [(28, .bool (!((MapS.get t5 a1.To.Ip).isSome)))] ?_)))
  refine WL.join (σ := Bool) 4 (fun st => routes_Table_Put.k1 a0 a1 st = some r) (fun st => [(0, .pointer (some ⟨A00.1, 0, none⟩)), (3, .pointer (some ⟨b1, 0, none⟩)), (4, .int .i64 0), (32, .bool st)]) (fun st => Sat w Z [(b1, api_Route.o a1)] [Fam 276 33 .u32 (Value.int .u32) A00 a0] ([] ++ Glob)) (fun st hM => ?_) (fun K1 => ?_)
  ·
   obtain ⟨x11, rfl⟩ : ∃ y, y = st := ⟨st, rfl⟩
   replace hM : routes_Table_Put.k1 a0 a1 x11 = some r := hM
   unfold routes_Table_Put.k1 at hM
   try dsimp only
   refine WP.done ?_
   refine WP.cond x11 rfl rfl (fun c12 => ?_) (fun c12 => ?_)
   ·replace hM := cond_t hM c12
    refine WP.seq (WP.rn [] [(4, .int .i64 181)] ?_)
    obtain rfl := Option.some.inj hM
    exact WP.ret [] [] (.int .i64 181) (by kernel_rfl) (fun w' hw => ⟨(), rfl, (hw.pick [] (by kernel_rfl)).less (sub_ret [] [] (by kernel_rfl) (by kernel_rfl))⟩)
   ·replace hM := cond_f hM c12
    refine WP.skip (WP.seq ?_)
    obtain ⟨t13, h14, hM⟩ := bind_some hM
    refine WP.rs [0, 3, 4] ?_
    refine WP.graphF (X := Unit) 14 3 [⟨0, 14, fun _ => [(b1, api_Route.o a1)], fun _ => []⟩, ⟨0, 13, fun _ => [], fun _ => [Fam 276 33 .u32 (Value.int .u32) A00 a0]⟩, ⟨14, 14, fun _ => [], fun _ => [Fam 276 33 .u32 (Value.int .u32) A00 (List.set a0 (Int.toNat a1.To.Bits) (MapS.set t13 a1.To.Ip a1.Via))]⟩] [⟨[], [], [], [], [], fun _ => .pointer (some ⟨A00.1, 0, none⟩), fun _ => []⟩, ⟨[], [], [], [], [], fun _ => .pointer (some ⟨b1, 0, none⟩), fun _ => []⟩, ⟨[1], [], [], [], [], fun _ => .pointer (some ⟨b1, 1, none⟩), fun _ => []⟩, ⟨[1, 2], [0], [0], [], [], fun _ => .int .i64 a1.To.Bits, fun _ => []⟩, ⟨[0], [], [], [], [], fun _ => .pointer (some ⟨A00.1, 0, none⟩), fun _ => []⟩, ⟨[0, 4], [], [], [], [], fun _ => .pointer (some ⟨A00.1, 0, none⟩), fun _ => []⟩, ⟨[0, 1, 2, 3, 4, 5], [1], [1], [], [], fun _ => .pointer (some ⟨A00.1, 0 + Int.toNat a1.To.Bits * 1, none⟩), fun _ => []⟩, ⟨[0, 1, 2, 3, 4, 5, 6], [1], [1], [], [], fun _ => .map (some (A00.2.getD (Int.toNat a1.To.Bits) 0)), fun _ => []⟩, ⟨[], [], [], [], [], fun _ => .pointer (some ⟨b1, 0, none⟩), fun _ => []⟩, ⟨[8], [], [], [], [], fun _ => .pointer (some ⟨b1, 0, none⟩), fun _ => []⟩, ⟨[8, 9], [0], [0], [], [], fun _ => .int .u32 a1.To.Ip, fun _ => []⟩, ⟨[], [], [], [], [], fun _ => .pointer (some ⟨b1, 2, none⟩), fun _ => []⟩, ⟨[11], [0], [0], [], [], fun _ => .int .u32 a1.Via, fun _ => []⟩, ⟨[0, 1, 2, 3, 4, 5, 6, 7, 8, 9, 10, 11, 12], [1], [2], [], [], fun _ => .tuple #[], fun _ => []⟩] (fun ξ => []) (fun ξ => [(b1, api_Route.o a1)]) (fun ξ => [Fam 276 33 .u32 (Value.int .u32) A00 (List.set a0 (Int.toNat a1.To.Bits) (MapS.set t13 a1.To.Ip a1.Via))]) (fun ξ => []) (AllN.cons ?_ (AllN.cons ?_ (AllN.cons ?_ (AllN.cons ?_ (AllN.cons ?_ (AllN.cons ?_ (AllN.cons ?_ (AllN.cons ?_ (AllN.cons ?_ (AllN.cons ?_ (AllN.cons ?_ (AllN.cons ?_ (AllN.cons ?_ (AllN.cons ?_ AllN.nil)))))))))))))) (AllN.cons (VAgr.c rfl) (AllN.cons (VAgr.c rfl) (AllN.cons (VAgr.c rfl) (AllN.cons (VAgr.c rfl) (AllN.cons (VAgr.c rfl) (AllN.cons (VAgr.c rfl) (AllN.cons (VAgr.c rfl) (AllN.cons (VAgr.c rfl) (AllN.cons (VAgr.c rfl) (AllN.cons (VAgr.c rfl) (AllN.cons (VAgr.c rfl) (AllN.cons (VAgr.c rfl) (AllN.cons (VAgr.c rfl) (AllN.cons (VAgr.c rfl) AllN.nil)))))))))))))) (AllN.cons (RAgr.c rfl) (AllN.cons (RAgr.c rfl) (AllN.cons (RAgr.c rfl) AllN.nil))) (fun ξ => ?_)
    ·
     intro o t ho ht ξ Gr Γr Lr Q hk
     cases ho; cases ht
     refine WL.rn 1 [] [(33, .pointer (some ⟨A00.1, 0, none⟩))] ?_
     exact WL.fin (hk default)
    ·
     intro o t ho ht ξ Gr Γr Lr Q hk
     cases ho; cases ht
     refine WL.rn 1 [] [(34, .pointer (some ⟨b1, 0, none⟩))] ?_
     exact WL.fin (hk default)
    ·
     intro o t ho ht ξ Gr Γr Lr Q hk
     cases ho; cases ht
     refine WL.rn 1 [] [(35, .pointer (some ⟨b1, 1, none⟩))] ?_
     exact WL.fin (hk default)
    ·
     intro o t ho ht ξ Gr Γr Lr Q hk
     cases ho; cases ht
     refine WL.rn 1 [0] [(36, .int .i64 a1.To.Bits)] ?_
     exact WL.fin (hk default)
    ·
     intro o t ho ht ξ Gr Γr Lr Q hk
     cases ho; cases ht
     refine WL.rn 1 [] [(37, .pointer (some ⟨A00.1, 0, none⟩))] ?_
     exact WL.fin (hk default)
    ·
     intro o t ho ht ξ Gr Γr Lr Q hk
     cases ho; cases ht
     refine WL.rn 1 [] [(38, .pointer (some ⟨A00.1, 0, none⟩))] ?_
     exact WL.fin (hk default)
    ·
     intro o t ho ht ξ Gr Γr Lr Q hk
     cases ho; cases ht
     refine WL.val (v := .pointer (some ⟨A00.1, 0 + Int.toNat a1.To.Bits * 1, none⟩)) (fun _ => run_idxArr (xs := a0) (u := t13) (n := 33) (e := 273) (sz := 1) (k := .i64) (i := a1.To.Bits) (b := A00.1) (o := 0) (by kernel_rfl) (by kernel_rfl) (by kernel_rfl) (by kernel_rfl) h14) (by kernel_rfl) (by kernel_rfl) rfl ?_
     exact WL.fin (hk default)
    ·
     intro o t ho ht ξ Gr Γr Lr Q hk
     cases ho; cases ht
     refine WL.valM (v := .map (some (A00.2.getD (Int.toNat a1.To.Bits) 0))) (p := Fam 276 33 .u32 (Value.int .u32) A00 a0) 0 (by kernel_rfl) (fun w hp => run_famLoad (i := a1.To.Bits) (m := t13) hp (fun _ => by kernel_rfl) (by kernel_rfl) h14) (by kernel_rfl) (by kernel_rfl) rfl ?_
     exact WL.fin (hk default)
    ·
     intro o t ho ht ξ Gr Γr Lr Q hk
     cases ho; cases ht
     refine WL.rn 1 [] [(41, .pointer (some ⟨b1, 0, none⟩))] ?_
     exact WL.fin (hk default)
    ·
     intro o t ho ht ξ Gr Γr Lr Q hk
     cases ho; cases ht
     refine WL.rn 1 [] [(42, .pointer (some ⟨b1, 0, none⟩))] ?_
     exact WL.fin (hk default)
    ·
     intro o t ho ht ξ Gr Γr Lr Q hk
     cases ho; cases ht
     refine WL.rn 1 [0] [(43, .int .u32 a1.To.Ip)] ?_
     exact WL.fin (hk default)
    ·
     intro o t ho ht ξ Gr Γr Lr Q hk
     cases ho; cases ht
     refine WL.rn 1 [] [(44, .pointer (some ⟨b1, 2, none⟩))] ?_
     exact WL.fin (hk default)
    ·
     intro o t ho ht ξ Gr Γr Lr Q hk
     cases ho; cases ht
     refine WL.rn 1 [0] [(45, .int .u32 a1.Via)] ?_
     exact WL.fin (hk default)
    ·
     intro o t ho ht ξ Gr Γr Lr Q hk
     cases ho; cases ht
     refine WL.famSet (G' := Gr) (kt := 49) (et := 49) (e := 276) (n := 33) (kk := .u32) (f := (Value.int .u32)) (S := A00) (ms := a0) (m := t13) (i := a1.To.Bits) (k := a1.To.Ip) 0 a1.Via (by kernel_rfl) (by kernel_rfl) (by kernel_rfl) (by kernel_rfl) (by kernel_rfl) (by kernel_rfl) (by kernel_rfl) (by kernel_rfl) h14 (by kernel_rfl) ?_
     exact WL.fin (hk default)
    refine WP.less (Φ' := ([] ++ Glob)) (fun _ h => h) ?_
    refine WP.kp [false] ?_
    refine WP.seq (WP.rn [] [(4, .int .i64 0)] ?_)
    obtain rfl := Option.some.inj hM
    exact WP.ret [] [] (.int .i64 0) (by kernel_rfl) (fun w' hw => ⟨(), rfl, (hw.pick [] (by kernel_rfl)).less (sub_ret [] [] (by kernel_rfl) (by kernel_rfl))⟩)
  ·
   refine WL.sp 28 (!((MapS.get t5 a1.To.Ip).isSome)) (fun c7 => ?_) (fun c7 => ?_)
   ·replace hM := cond_t hM c7
    refine WL.rn 1 [] [(29, .pointer (some ⟨A00.1, 0, none⟩))] ?_
    obtain ⟨r8, h9, hM⟩ := bind_some hM
    refine WL.callG (Gr := []) (F0 := []) [] [] [false] (fun _ => _) [] (by kernel_rfl) (routes_Table_size_calls k A00 a0 _ h9) rfl rfl (by kernel_rfl) (by kernel_rfl) (by kernel_rfl) (fun _ => rfl) (fun A10 => ?_)
    refine WL.rn 2 [] [(32, .bool (decide (r8 ≥ 256)))] ?_
    exact WL.sub [0, 3, 4, 32] (by kernel_rfl) (WL.pick [0] (by kernel_rfl) (by kernel_rfl) (WL.pickG [0] [] 1 rfl (by decide) (by kernel_rfl) (WL.lessF [] (by kernel_rfl) (K1 (decide (r8 ≥ 256)) hM))))
   ·replace hM := cond_f hM c7
    refine WL.rn 4 [] [(32, .bool false)] ?_
    exact WL.sub [0, 3, 4, 32] (by kernel_rfl) (WL.pick [0] (by kernel_rfl) (by kernel_rfl) (WL.pickG [0] [] 1 rfl (by decide) (by kernel_rfl) (WL.lessF [] (by kernel_rfl) (K1 false hM))))
def vtep_laid.l1 (a0 : (List api_Route)) (k : Nat) : Nat → Bool → Int → (List (MapS Int)) → Option (Bool)
 | 0, _, _, _ => none
 | n + 1, x15, x16, x17 =>
  bif decide (x16 < (a0.length : Int)) then
   (getL a0.length a0 x16).bind fun t19 =>
   (routes_Table_Put.f k x17 t19).bind fun (r22, r23) =>
   bif (r22 != 0) then
    some false
   else
    vtep_laid.l1 a0 k n x15 (i64 (x16 + 1)) r23
  else
   some true
def vtep_laid.f (k : Nat) (a0 : (List api_Route)) : Option (Bool) :=
 (routes_New.f k).bind fun r1 =>
 vtep_laid.l1 a0 k k false 0 r1
theorem vtep_laid_calls (k : Nat) (A00 : SkL Unit) (a0 : (List api_Route)) (r : Bool) (h : vtep_laid.f k a0 = some r) : Does Tryz.prog 57 #[slcV A00 a0.length] [] ([Row 3 (pl api_Route.enc) noK A00 a0] ++ Glob) (fun x : (Option Addr) => .tuple #[.pointer x, .bool r]) (fun x => []) (fun _ => []) (fun x => [] ++ ([Row 3 (pl api_Route.enc) noK A00 a0] ++ Glob)) := by
 intro w Z hS
 refine callsS (args := [slcV A00 a0.length]) (L := [(0, slcV A00 a0.length)]) (N := 20) Tryz.func57 hS ?_
 have hM := h
 clear h hS
 unfold vtep_laid.f at hM
 refine WP.seq (WP.rn [] [(2, .pointer none), (3, .bool false)] ?_)
 refine WP.seq (WP.region ?_)
 obtain ⟨r1, h2, hM⟩ := bind_some hM
 refine WL.callG (Gr := []) (F0 := []) [] [] [] (fun _ => _) [] (by kernel_rfl) (routes_New_calls k _ h2) rfl rfl (by kernel_rfl) (by kernel_rfl) (by kernel_rfl) (fun _ => rfl) (fun A3 => ?_)
 refine WL.rn 1 [] [(4, .pointer (some ⟨A3.1, 0, none⟩))] ?_
 refine WP.done (WP.seq (WP.seq (WP.rn [] [(8, slcV A00 a0.length), (9, .int .i64 (a0.length : Int)), (10, .int .i64 0)] ?_)))
 refine WP.block ?_
 refine WP.sub [3, 4, 8, 9, 10] (L' := [(3, .bool false), (4, .pointer (some ⟨A3.1, 0, none⟩)), (8, slcV A00 a0.length), (9, .int .i64 (a0.length : Int)), (10, .int .i64 0)]) (by kernel_rfl) ?_
 refine WP.lessF [0] (F' := [Row 3 (pl api_Route.enc) noK A00 a0]) (by kernel_rfl) ?_
 refine WP.loop (σ := Bool × Int × (List (MapS Int))) (fun n st => vtep_laid.l1 a0 k n st.1 st.2.1 st.2.2) r (fun st => [(3, .bool st.1), (4, .pointer (some ⟨A3.1, 0, none⟩)), (8, slcV A00 a0.length), (9, .int .i64 (a0.length : Int)), (10, .int .i64 st.2.1)]) (fun st => Sat w Z [] [Fam 276 33 .u32 (Value.int .u32) A3 st.2.2] ([Row 3 (pl api_Route.enc) noK A00 a0] ++ Glob)) (st := (false, 0, r1)) (fun n st hM => ?_) hM
 rcases n with _ | n
 ·exact nomatch (show (none : Option _) = some r from hM)
 obtain ⟨x15, x16, x17⟩ := st
 replace hM : vtep_laid.l1 a0 k (n + 1) x15 x16 x17 = some r := hM
 rw [vtep_laid.l1] at hM
 try dsimp only
 refine WP.seq (WP.rn [] [(11, .bool (decide (x16 < (a0.length : Int))))] ?_)
 refine WP.seq ?_
 refine WP.cond (decide (x16 < (a0.length : Int))) rfl rfl (fun c18 => ?_) (fun c18 => ?_)
 ·replace hM := cond_t hM c18
  refine WP.skip (WP.seq (WP.block (WP.seq (WP.region ?_))))
  obtain ⟨t19, h20, hM⟩ := bind_some hM
  refine WL.valF (φ := Row 3 (pl api_Route.enc) noK A00 a0) (fact_at 0 rfl) (fun w hR => run_indexRowF (A := A00) (xs := a0) (i := x16) (k := .i64) (e := 162) (m := 3) (by kernel_rfl) (by kernel_rfl) h20 (by kernel_rfl) (by kernel_rfl) hR) (by kernel_rfl) (by kernel_rfl) rfl ?_
  refine WL.valF (φ := Row 3 (pl api_Route.enc) noK A00 a0) (fact_at 0 rfl) (fun w hR => run_loadRowFA (A := A00) (xs := a0) (i := x16) (j := 0) (n := 3) (vs := [.int .u32 t19.To.Ip, .int .i64 t19.To.Bits, .int .u32 t19.Via]) h20 (fun _ => by kernel_rfl) (by kernel_rfl) (by kernel_rfl) (by kernel_rfl) rfl hR) (by kernel_rfl) (by kernel_rfl) rfl ?_
  refine WL.rh 2 [0, 0, 0] (fun b21 => [(6, .pointer (some ⟨b21, 0, none⟩))]) (fun b21 => []) (fun b21 => [(b21, api_Route.o t19)]) (fun b21 => ?_)
  refine WP.done (WP.seq (WP.region ?_))
  refine WL.rn 2 [0, 0, 0] [(14, .pointer (some ⟨A3.1, 0, none⟩)), (15, api_Route.v t19)] ?_
  obtain ⟨⟨r22, r23⟩, h24, hM⟩ := bind_some hM
  dsimp only at hM
  refine WL.callG (Gr := []) (F0 := []) [] [] [false] (fun _ => _) [] (by kernel_rfl) (routes_Table_Put_calls k A3 x17 t19 _ h24) rfl rfl (by kernel_rfl) (by kernel_rfl) (by kernel_rfl) (fun _ => rfl) (fun A25 => ?_)
  refine WL.rn 1 [] [(17, .bool (r22 != 0))] ?_
  refine WP.done ?_
  refine WP.cond (r22 != 0) rfl rfl (fun c26 => ?_) (fun c26 => ?_)
  ·replace hM := cond_t hM c26
   refine WP.seq (WP.rn [] [(2, .pointer none), (3, .bool false)] ?_)
   refine WP.pickG (G' := []) [] [0] 1 rfl (by decide) (by kernel_rfl) ?_
   obtain rfl := Option.some.inj hM
   exact WP.ret [] [] (.tuple #[.pointer none, .bool false]) (by kernel_rfl) (fun w' hw => ⟨(none : Option Addr), rfl, (hw.pick [] (by kernel_rfl)).less (sub_ret [] [0] (by kernel_rfl) (by kernel_rfl))⟩)
  ·replace hM := cond_f hM c26
   refine WP.skip (WP.leave (WP.rn [] [(10, .int .i64 (i64 (x16 + 1))), (18, .int .i64 (i64 (x16 + 1)))] ?_))
   exact WP.again' [3, 4, 8, 9, 10] (x15, i64 (x16 + 1), r23) hM (by kernel_rfl) (fun _ h => ((h.pick [] (by kernel_rfl)).lessF [0] (by kernel_rfl)).pickG [0] [] 1 rfl (by decide) (by kernel_rfl))
 ·replace hM := cond_f hM c18
  refine WP.exit rfl (WP.seq ?_)
  refine WP.rn [] [(2, .pointer (some ⟨A3.1, 0, none⟩)), (3, .bool true)] ?_
  refine WP.pickG (G' := []) [] [0] 1 rfl (by decide) (by kernel_rfl) ?_
  obtain rfl := Option.some.inj hM
  exact WP.ret [] [] (.tuple #[.pointer (some ⟨A3.1, 0, none⟩), .bool true]) (by kernel_rfl) (fun w' hw => ⟨(some ⟨A3.1, 0, none⟩), rfl, (hw.pick [] (by kernel_rfl)).less (sub_ret [] [0] (by kernel_rfl) (by kernel_rfl))⟩)
def vni_Check_1.f (a0 : Int) (a0_1 : Int) (a0_2 : (List Int)) : Option (Bool) :=
 some (decide ((a0_2.length : Int) > 16))
theorem vni_Check_1_calls (A00 : SkL Unit) (a0 : Int) (a0_1 : Int) (a0_2 : (List Int)) (r : Bool) (h : vni_Check_1.f a0 a0_1 a0_2 = some r) : Pure Tryz.prog ([Row 1 (pl (encI .u32)) noK A00 a0_2] ++ Glob) 104 #[.agg #[.int .i64 a0, .int .i64 a0_1, slcV A00 a0_2.length]] (.bool r) := by
 intro w Z hS
 refine callsS (args := [.agg #[.int .i64 a0, .int .i64 a0_1, slcV A00 a0_2.length]]) (L := [(0, .agg #[.int .i64 a0, .int .i64 a0_1, slcV A00 a0_2.length])]) (N := 7) Tryz.func104 hS ?_
 have hM := h
 clear h hS
 unfold vni_Check_1.f at hM
 refine WP.seq ?_
 refine WP.rh [] (fun b1 => [(1, .pointer (some ⟨b1, 0, none⟩)), (2, .bool false)]) (fun b1 => []) (fun b1 => [(b1, .cells #[.int .i64 a0, .int .i64 a0_1, slcV A00 a0_2.length] 93 (0, 0))]) (fun b1 => ?_)
 refine WP.seq (WP.rn [0] [(2, .bool (decide ((a0_2.length : Int) > 16)))] ?_)
 refine WP.kp [false] ?_
 obtain rfl := Option.some.inj hM
 exact WP.retF [] [] [0]
end Go.Proofs.YtbbekdmndifkpaaGreatDoor
