/- The walks of the functions that the laws reach: each shows that a call returns what its plain model says, wherever the model gives an answer. -/
import Derived.Test.YtbodofjnfmjbpaaGreatDoorF1
import Derived.Test.YtbodofjnfmjbpaaGreatDoorF3
import Derived.Test.YtbodofjnfmjbpaaGreatDoorF2

namespace Go.Proofs.YtbodofjnfmjbpaaGreatDoor
open Go Eng
set_option linter.unusedVariables false
set_option linter.unusedSimpArgs false

/-! ### slices.IndexFunc[[]gangway/api.Seg,gangway/api.Seg]: function 103 -/
def api_Seg.l1 (a0 : (List api_Seg)) (a1 : Int) : Nat → Int → Int → Option (Int)
  | 0, _, _ => none
  | n + 1, x1, x2 =>
    bif decide (x2 < (a0.length : Int)) then
      (getL a0.length a0 x2).bind fun t4 =>
      (vni_By_1.f t4.Vid t4.Vni t4.Peers a1).bind fun r6 =>
      bif r6 then
        some x2
      else
        api_Seg.l1 a0 a1 n x1 (i64 (x2 + 1))
    else
      some (-1)

def api_Seg.f (k : Nat) (a0 : (List api_Seg)) (a1 : Int) : Option (Int) :=
  api_Seg.l1 a0 a1 k 0 0

set_option maxRecDepth 100000 in
theorem api_Seg_calls (k : Nat) (b_0 : Nat) (A00 : SkL (SkL Unit)) (a0 : (List api_Seg)) (a1 : Int) (r : Int) (h : api_Seg.f k a0 a1 = some r) : Does Tryz.prog 103 #[slcV A00 a0.length, .func (.func 80) #[] #[.pointer (some ⟨b_0, 0, none⟩)]] [(b_0, .cells #[.int .i64 a1] 3 (0, 0))] ([Row 3 api_Seg.encS api_Seg.inK A00 a0] ++ Glob) (fun _ : Unit => .int .i64 r) (fun _ => [(b_0, .cells #[.int .i64 a1] 3 (0, 0))]) (fun _ => []) (fun _ => ([Row 3 api_Seg.encS api_Seg.inK A00 a0] ++ Glob)) := by
  intro w Z hS
  refine calls_of (args := [slcV A00 a0.length, .func (.func 80) #[] #[.pointer (some ⟨b_0, 0, none⟩)]]) (L := [(0, slcV A00 a0.length), (1, .func (.func 80) #[] #[.pointer (some ⟨b_0, 0, none⟩)])]) (N := 19) (S := Sat w Z [(b_0, .cells #[.int .i64 a1] 3 (0, 0))] [] ([Row 3 api_Seg.encS api_Seg.inK A00 a0] ++ Glob)) Tryz.func103 rfl rfl (Nat.le_of_ble_eq_true rfl) rfl hS ?_
  have hM := h
  clear h hS
  unfold api_Seg.f at hM
  refine WP.seq ?_
  refine WP.run [] [0, 1, 4] (fun _ => [(0, slcV A00 a0.length), (1, .func (.func 80) #[] #[.pointer (some ⟨b_0, 0, none⟩)]), (4, .int .i64 0)]) (fun _ => [(b_0, .cells #[.int .i64 a1] 3 (0, 0))]) (fun _ => []) (fun _ => by kernel_rfl) (fun _ => ?_)
  refine WP.seq ?_
  refine WP.seq ?_
  refine WP.run [] [0, 1, 4, 7, 8] (fun _ => [(0, slcV A00 a0.length), (1, .func (.func 80) #[] #[.pointer (some ⟨b_0, 0, none⟩)]), (4, .int .i64 0), (7, .int .i64 (a0.length : Int)), (8, .int .i64 0)]) (fun _ => [(b_0, .cells #[.int .i64 a1] 3 (0, 0))]) (fun _ => []) (fun _ => by kernel_rfl) (fun _ => ?_)
  refine WP.block ?_
  refine WP.sub [0, 1, 4, 7, 8] (L' := [(0, slcV A00 a0.length), (1, .func (.func 80) #[] #[.pointer (some ⟨b_0, 0, none⟩)]), (4, .int .i64 0), (7, .int .i64 (a0.length : Int)), (8, .int .i64 0)]) (by kernel_rfl) ?_
  refine WP.lessF [0] (F' := [Row 3 api_Seg.encS api_Seg.inK A00 a0]) (by kernel_rfl) ?_
  refine WP.loop (σ := Int × Int) (fun n st => api_Seg.l1 a0 a1 n st.1 st.2) r (fun st => [(0, slcV A00 a0.length), (1, .func (.func 80) #[] #[.pointer (some ⟨b_0, 0, none⟩)]), (4, .int .i64 st.1), (7, .int .i64 (a0.length : Int)), (8, .int .i64 st.2)]) (fun st => Sat w Z [(b_0, .cells #[.int .i64 a1] 3 (0, 0))] [] ([Row 3 api_Seg.encS api_Seg.inK A00 a0] ++ Glob)) (st := (0, 0)) (fun n st hM => ?_) hM
  rcases n with _ | n
  · exact nomatch (show (none : Option _) = some r from hM)
  obtain ⟨x1, x2⟩ := st
  replace hM : api_Seg.l1 a0 a1 (n + 1) x1 x2 = some r := hM
  rw [api_Seg.l1] at hM
  show WP _ _ _ _ _ [(0, slcV A00 a0.length), (1, .func (.func 80) #[] #[.pointer (some ⟨b_0, 0, none⟩)]), (4, .int .i64 x1), (7, .int .i64 (a0.length : Int)), (8, .int .i64 x2)] (Sat w Z [(b_0, .cells #[.int .i64 a1] 3 (0, 0))] [] ([Row 3 api_Seg.encS api_Seg.inK A00 a0] ++ Glob))
  refine WP.seq ?_
  refine WP.run [] [0, 1, 4, 7, 8, 9] (fun _ => [(0, slcV A00 a0.length), (1, .func (.func 80) #[] #[.pointer (some ⟨b_0, 0, none⟩)]), (4, .int .i64 x1), (7, .int .i64 (a0.length : Int)), (8, .int .i64 x2), (9, .bool (decide (x2 < (a0.length : Int))))]) (fun _ => [(b_0, .cells #[.int .i64 a1] 3 (0, 0))]) (fun _ => []) (fun _ => by kernel_rfl) (fun _ => ?_)
  refine WP.seq ?_
  refine WP.cond (decide (x2 < (a0.length : Int))) rfl rfl (fun c3 => ?_) (fun c3 => ?_)
  · replace hM := cond_t hM c3
    refine WP.skip ?_
    refine WP.seq ?_
    refine WP.block ?_
    refine WP.seq ?_
    refine WP.run [] [0, 1, 4, 5, 7, 8, 9, 10] (fun _ => [(0, slcV A00 a0.length), (1, .func (.func 80) #[] #[.pointer (some ⟨b_0, 0, none⟩)]), (4, .int .i64 x1), (5, .int .i64 x2), (7, .int .i64 (a0.length : Int)), (8, .int .i64 x2), (9, .bool (decide (x2 < (a0.length : Int)))), (10, .int .i64 x2)]) (fun _ => [(b_0, .cells #[.int .i64 a1] 3 (0, 0))]) (fun _ => []) (fun _ => by kernel_rfl) (fun _ => ?_)
    refine WP.seq ?_
    refine WP.region ?_
    refine WL.run 3 [] [0, 1, 4, 5, 7, 8, 9, 10, 11, 12, 13] (fun _ => [(0, slcV A00 a0.length), (1, .func (.func 80) #[] #[.pointer (some ⟨b_0, 0, none⟩)]), (4, .int .i64 x1), (5, .int .i64 x2), (7, .int .i64 (a0.length : Int)), (8, .int .i64 x2), (9, .bool (decide (x2 < (a0.length : Int)))), (10, .int .i64 x2), (11, .func (.func 80) #[] #[.pointer (some ⟨b_0, 0, none⟩)]), (12, slcV A00 a0.length), (13, .int .i64 x2)]) (fun _ => [(b_0, .cells #[.int .i64 a1] 3 (0, 0))]) (fun _ => []) (fun _ => by kernel_rfl) (fun _ => ?_)
    obtain ⟨t4, h5, hM⟩ := bind_some hM
    refine WL.valF (φ := Row 3 api_Seg.encS api_Seg.inK A00 a0) (fact_at 0 rfl) (fun w hR => run_indexRowF (A := A00) (xs := a0) (i := x2) (k := .i64) (e := 35) (m := 3) (by kernel_rfl) (by kernel_rfl) h5 (by kernel_rfl) (by kernel_rfl) hR) (by kernel_rfl) (by kernel_rfl) rfl ?_
    refine WL.valF (φ := Row 3 api_Seg.encS api_Seg.inK A00 a0) (fact_at 0 rfl) (fun w hR => run_loadRowFA (A := A00) (xs := a0) (i := x2) (j := 0) (n := 3) (vs := [.int .i64 t4.Vid, .int .i64 t4.Vni, slcV (A00.s (Int.toNat x2)) t4.Peers.length]) h5 (fun _ => by kernel_rfl) (by kernel_rfl) (by kernel_rfl) (by kernel_rfl) rfl hR) (by kernel_rfl) (by kernel_rfl) rfl ?_
    refine WL.know (Row 1 (pl (encI .u32)) noK (A00.s (Int.toNat x2)) t4.Peers) [0] [Row 3 api_Seg.encS api_Seg.inK A00 a0] (by kernel_rfl) (fun w hψ => ((hψ _ (List.mem_singleton.2 rfl)).inner _ _ (getL_parts h5).2)) ?_
    obtain ⟨r6, h7, hM⟩ := bind_some hM
    refine WL.callE (X := Unit) [] [] [true] (fun _ => _) (vni_By_1_calls b_0 (A00.s (Int.toNat x2)) t4.Vid t4.Vni t4.Peers a1 _ h7) rfl rfl (sub_pick [0] (by kernel_rfl)) (by kernel_rfl) (by kernel_rfl) (fun _ => rfl) (fun _ => ?_)
    refine WP.done ?_
    refine WP.cond r6 rfl rfl (fun c8 => ?_) (fun c8 => ?_)
    · replace hM := cond_t hM c8
      refine WP.seq ?_
      refine WP.run [] [0, 1, 4, 5, 7, 8, 9, 10, 11, 12, 13, 14, 15, 16, 17] (fun _ => [(0, slcV A00 a0.length), (1, .func (.func 80) #[] #[.pointer (some ⟨b_0, 0, none⟩)]), (4, .int .i64 x2), (5, .int .i64 x2), (7, .int .i64 (a0.length : Int)), (8, .int .i64 x2), (9, .bool (decide (x2 < (a0.length : Int)))), (10, .int .i64 x2), (11, .func (.func 80) #[] #[.pointer (some ⟨b_0, 0, none⟩)]), (12, slcV A00 a0.length), (13, .int .i64 x2), (14, ptrV A00 (Int.toNat x2 * 3 + 0)), (15, .agg #[.int .i64 t4.Vid, .int .i64 t4.Vni, slcV (A00.s (Int.toNat x2)) t4.Peers.length]), (16, .bool r6), (17, .int .i64 x2)]) (fun _ => [(b_0, .cells #[.int .i64 a1] 3 (0, 0))]) (fun _ => []) (fun _ => by kernel_rfl) (fun _ => ?_)
      obtain rfl := Option.some.inj hM
      exact WP.ret [] [] (.int .i64 x2) (by kernel_rfl) (fun w' hw => ⟨(), rfl, (hw.pick [0] (by kernel_rfl)).lessF [1] (by kernel_rfl)⟩)
    · replace hM := cond_f hM c8
      refine WP.skip ?_
      refine WP.leave ?_
      refine WP.run [] [0, 1, 4, 5, 7, 8, 9, 10, 11, 12, 13, 14, 15, 16, 18] (fun _ => [(0, slcV A00 a0.length), (1, .func (.func 80) #[] #[.pointer (some ⟨b_0, 0, none⟩)]), (4, .int .i64 x1), (5, .int .i64 x2), (7, .int .i64 (a0.length : Int)), (8, .int .i64 (i64 (x2 + 1))), (9, .bool (decide (x2 < (a0.length : Int)))), (10, .int .i64 x2), (11, .func (.func 80) #[] #[.pointer (some ⟨b_0, 0, none⟩)]), (12, slcV A00 a0.length), (13, .int .i64 x2), (14, ptrV A00 (Int.toNat x2 * 3 + 0)), (15, .agg #[.int .i64 t4.Vid, .int .i64 t4.Vni, slcV (A00.s (Int.toNat x2)) t4.Peers.length]), (16, .bool r6), (18, .int .i64 (i64 (x2 + 1)))]) (fun _ => [(b_0, .cells #[.int .i64 a1] 3 (0, 0))]) (fun _ => []) (fun _ => by kernel_rfl) (fun _ => ?_)
      exact WP.again' [0, 1, 4, 7, 8] (x1, i64 (x2 + 1)) hM (by kernel_rfl) (fun _ h => (h.pick [0] (by kernel_rfl)).lessF [1] (by kernel_rfl))
  · replace hM := cond_f hM c3
    refine WP.exit rfl ?_
    refine WP.seq ?_
    refine WP.run [] [4] (fun _ => [(4, .int .i64 (-1))]) (fun _ => [(b_0, .cells #[.int .i64 a1] 3 (0, 0))]) (fun _ => []) (fun _ => by kernel_rfl) (fun _ => ?_)
    obtain rfl := Option.some.inj hM
    exact WP.ret [] [] (.int .i64 (-1)) (by kernel_rfl) (fun w' hw => ⟨(), rfl, (hw.pick [0] (by kernel_rfl)).lessF [0] (by kernel_rfl)⟩)

end Go.Proofs.YtbodofjnfmjbpaaGreatDoor

namespace Go.Proofs.YtbodofjnfmjbpaaGreatDoor
open Go Eng
set_option linter.unusedVariables false
set_option linter.unusedSimpArgs false

/-! ### slices.Clone[[]uint32,uint32]: function 104 -/
def slices_Clone_uint32_uint32.f (a0 : (List Int)) : Option (List Int) := (roomL 4 a0.length).bind fun _ => some a0

set_option maxRecDepth 100000 in
theorem slices_Clone_uint32_uint32_calls (A00 : SkL Unit) (a0 : (List Int)) (r : (List Int)) (h : slices_Clone_uint32_uint32.f a0 = some r) : Does Tryz.prog 104 #[slcV A00 a0.length] [] ([Row 1 (pl (encI .u32)) noK A00 a0] ++ Glob) (fun x : SkL Unit => slcV x r.length) (fun _ => []) (fun _ => []) (fun x => [Row 1 (pl (encI .u32)) noK x r] ++ ([Row 1 (pl (encI .u32)) noK A00 a0] ++ Glob)) := by
  intro w Z hS
  refine calls_of (args := [slcV A00 a0.length]) (L := [(0, slcV A00 a0.length)]) (N := 8) (S := Sat w Z [] [] ([Row 1 (pl (encI .u32)) noK A00 a0] ++ Glob)) Tryz.func104 rfl rfl (Nat.le_of_ble_eq_true rfl) rfl hS ?_
  have hM := h
  clear h hS
  unfold slices_Clone_uint32_uint32.f at hM
  refine WP.fact (Row 1 (pl (encI .u32)) noK A00 a0) (fact_at 0 rfl) (fun w hw => hw.nil) (fun hn => ?_)
  obtain ⟨a, c, s⟩ := A00
  cases a with
  | none =>
    obtain ⟨h1, h2⟩ := hn rfl
    dsimp only at h1 h2
    subst h1; subst h2
    obtain ⟨u0, hu0, hM⟩ := bind_some hM
    obtain rfl := Option.some.inj hM
    show WP _ _ _ _ _ [(0, .slice none 0 0)] (Sat _ _ _ _ ([Row 1 (pl (encI .u32)) noK (⟨none, 0, s⟩ : SkL Unit) ([] : List Int)] ++ Glob))
    refine WP.seq ?_
    refine WP.run [] [0, 2] (fun _ => [(0, .slice none 0 0), (2, .slice none 0 0)]) (fun _ => []) (fun _ => []) (fun _ => by kernel_rfl) (fun _ => ?_)
    refine WP.seq ?_
    refine WP.seq ?_
    refine WP.run [] [0, 2, 4] (fun _ => [(0, .slice none 0 0), (2, .slice none 0 0), (4, .bool true)]) (fun _ => []) (fun _ => []) (fun _ => by kernel_rfl) (fun _ => ?_)
    refine WP.yes rfl rfl ?_
    refine WP.seq ?_
    refine WP.run [] [0, 2] (fun _ => [(0, .slice none 0 0), (2, .slice none 0 0)]) (fun _ => []) (fun _ => []) (fun _ => by kernel_rfl) (fun _ => ?_)
    refine WP.know (Row 1 (pl (encI .u32)) noK (SkL.nil (fun _ => ())) ([] : List Int)) [] [] (by kernel_rfl) (fun w _ => RowP.empty (fun _ => rfl)) ?_
    exact WP.ret [] [] (slcV (SkL.nil (fun _ => ())) ([] : List Int).length) (by kernel_rfl) (fun w' hw => ⟨(SkL.nil (fun _ => ())), rfl, (hw.pick [] (by kernel_rfl)).less (sub_ret [0] [1] (by kernel_rfl) (by kernel_rfl))⟩)
  | some p =>
    obtain ⟨b, o⟩ := p
    refine WP.seq ?_
    refine WP.run [] [0, 2] (fun _ => [(0, slcV (⟨some (b, o), c, s⟩ : SkL Unit) a0.length), (2, .slice none 0 0)]) (fun _ => []) (fun _ => []) (fun _ => by kernel_rfl) (fun _ => ?_)
    refine WP.seq ?_
    refine WP.seq ?_
    refine WP.run [] [0, 2, 4] (fun _ => [(0, slcV (⟨some (b, o), c, s⟩ : SkL Unit) a0.length), (2, .slice none 0 0), (4, .bool false)]) (fun _ => []) (fun _ => []) (fun _ => by kernel_rfl) (fun _ => ?_)
    refine WP.no rfl rfl ?_
    refine WP.skip ?_
    refine WP.seq ?_
    refine WP.region ?_
    refine WL.run 2 [] [2, 5, 6] (fun b1 => [(2, .slice none 0 0), (5, .slice (some ⟨b1, 0, none⟩) 0 0), (6, slcV (⟨some (b, o), c, s⟩ : SkL Unit) a0.length)]) (fun b1 => [(b1, .cells #[] 22 (0, 0))]) (fun b1 => []) (fun b1 => by kernel_rfl) (fun b1 => ?_)
    obtain ⟨u3, h2, hM⟩ := bind_some hM
    refine WL.appendCopy (A := (SkL.at b1 0 (fun _ => ()))) (B := (⟨some (b, o), c, s⟩ : SkL Unit)) (ys := a0) (n := 0) (m := 1) (by_ := 4) (e := 22) (z := .int .u32 0) (f := (pl (encI .u32))) (K := noK) (d := 7) rfl rfl (by kernel_rfl) (by kernel_rfl) (by kernel_rfl) (fun _ _ => rfl) (by kernel_rfl) (by kernel_rfl) rfl rfl (by kernel_rfl) (fact_at 0 rfl) h2 (by kernel_rfl) (fun A4 => ?_)
    refine WL.less (Φ' := [Row 1 (pl (encI .u32)) noK A4 a0, Row 1 (pl (encI .u32)) noK (⟨some (b, o), c, s⟩ : SkL Unit) a0] ++ Glob) (fun _ h => h) ?_
    refine WL.run 1 [] [2] (fun _ => [(2, slcV A4 a0.length)]) (fun _ => [(b1, .cells #[] 22 (0, 0))]) (fun _ => []) (fun _ => by kernel_rfl) (fun _ => ?_)
    refine WP.done ?_
    refine WP.keep [false] (by kernel_rfl : _ = []) ?_
    obtain rfl := Option.some.inj hM
    exact WP.ret [] [] (slcV A4 a0.length) (by kernel_rfl) (fun w' hw => ⟨A4, rfl, (hw.pick [] (by kernel_rfl)).less (sub_ret [0] [1] (by kernel_rfl) (by kernel_rfl))⟩)

end Go.Proofs.YtbodofjnfmjbpaaGreatDoor

namespace Go.Proofs.YtbodofjnfmjbpaaGreatDoor
open Go Eng
set_option linter.unusedVariables false
set_option linter.unusedSimpArgs false

/-! ### gangway/vni.first: function 79 -/
def vni_first.f (k : Nat) (a0 : (List api_Seg)) (a1 : Int) : Option (api_Seg × Bool) :=
  (api_Seg.f k a0 a1).bind fun r2 =>
  bif decide (r2 < 0) then
    some ((api_Seg.mk 0 0 ([] : List Int)), false)
  else
    (getL a0.length a0 r2).bind fun t5 =>
    (slices_Clone_uint32_uint32.f t5.Peers).bind fun r8 =>
    some ((api_Seg.mk t5.Vid t5.Vni r8), true)

set_option maxRecDepth 100000 in
theorem vni_first_calls (k : Nat) (b_0 : Nat) (A00 : SkL (SkL Unit)) (a0 : (List api_Seg)) (a1 : Int) (r : api_Seg × Bool) (h : vni_first.f k a0 a1 = some r) : Does Tryz.prog 79 #[slcV A00 a0.length, .func (.func 80) #[] #[.pointer (some ⟨b_0, 0, none⟩)]] [(b_0, .cells #[.int .i64 a1] 3 (0, 0))] ([Row 3 api_Seg.encS api_Seg.inK A00 a0] ++ Glob) (fun x : (SkL Unit) => .tuple #[.agg #[.int .i64 r.1.Vid, .int .i64 r.1.Vni, slcV x r.1.Peers.length], .bool r.2]) (fun x => [(b_0, .cells #[.int .i64 a1] 3 (0, 0))]) (fun _ => []) (fun x => [Row 1 (pl (encI .u32)) noK x r.1.Peers] ++ ([Row 3 api_Seg.encS api_Seg.inK A00 a0] ++ Glob)) := by
  intro w Z hS
  refine calls_of (args := [slcV A00 a0.length, .func (.func 80) #[] #[.pointer (some ⟨b_0, 0, none⟩)]]) (L := [(0, slcV A00 a0.length), (1, .func (.func 80) #[] #[.pointer (some ⟨b_0, 0, none⟩)])]) (N := 23) (S := Sat w Z [(b_0, .cells #[.int .i64 a1] 3 (0, 0))] [] ([Row 3 api_Seg.encS api_Seg.inK A00 a0] ++ Glob)) Tryz.func79 rfl rfl (Nat.le_of_ble_eq_true rfl) rfl hS ?_
  have hM := h
  clear h hS
  unfold vni_first.f at hM
  refine WP.seq ?_
  refine WP.run [] [0, 1, 4, 5] (fun b1 => [(0, slcV A00 a0.length), (1, .func (.func 80) #[] #[.pointer (some ⟨b_0, 0, none⟩)]), (4, .pointer (some ⟨b1, 0, none⟩)), (5, .bool false)]) (fun b1 => [(b_0, .cells #[.int .i64 a1] 3 (0, 0)), (b1, .cells #[.int .i64 0, .int .i64 0, .slice none 0 0] 35 (0, 0))]) (fun b1 => []) (fun b1 => by kernel_rfl) (fun b1 => ?_)
  refine WP.seq ?_
  refine WP.region ?_
  refine WL.run 2 [] [0, 4, 5, 8, 9] (fun _ => [(0, slcV A00 a0.length), (4, .pointer (some ⟨b1, 0, none⟩)), (5, .bool false), (8, slcV A00 a0.length), (9, .func (.func 80) #[] #[.pointer (some ⟨b_0, 0, none⟩)])]) (fun _ => [(b_0, .cells #[.int .i64 a1] 3 (0, 0)), (b1, .cells #[.int .i64 0, .int .i64 0, .slice none 0 0] 35 (0, 0))]) (fun _ => []) (fun _ => by kernel_rfl) (fun _ => ?_)
  obtain ⟨r2, h3, hM⟩ := bind_some hM
  refine WL.callE (X := Unit) [] [] [true, false] (fun _ => _) (api_Seg_calls k b_0 A00 a0 a1 _ h3) rfl rfl (sub_pick [0] (by kernel_rfl)) (by kernel_rfl) (by kernel_rfl) (fun _ => rfl) (fun _ => ?_)
  refine WL.run 1 [] [0, 4, 5, 6] (fun _ => [(0, slcV A00 a0.length), (4, .pointer (some ⟨b1, 0, none⟩)), (5, .bool false), (6, .int .i64 r2)]) (fun _ => [(b_0, .cells #[.int .i64 a1] 3 (0, 0)), (b1, .cells #[.int .i64 0, .int .i64 0, .slice none 0 0] 35 (0, 0))]) (fun _ => []) (fun _ => by kernel_rfl) (fun _ => ?_)
  refine WP.done ?_
  refine WP.seq ?_
  refine WP.seq ?_
  refine WP.run [] [0, 4, 5, 6, 12] (fun _ => [(0, slcV A00 a0.length), (4, .pointer (some ⟨b1, 0, none⟩)), (5, .bool false), (6, .int .i64 r2), (12, .bool (decide (r2 < 0)))]) (fun _ => [(b_0, .cells #[.int .i64 a1] 3 (0, 0)), (b1, .cells #[.int .i64 0, .int .i64 0, .slice none 0 0] 35 (0, 0))]) (fun _ => []) (fun _ => by kernel_rfl) (fun _ => ?_)
  refine WP.cond (decide (r2 < 0)) rfl rfl (fun c4 => ?_) (fun c4 => ?_)
  · replace hM := cond_t hM c4
    refine WP.seq ?_
    refine WP.run [1, 1, 1] [0, 4, 5, 6] (fun _ => [(0, slcV A00 a0.length), (4, .pointer (some ⟨b1, 0, none⟩)), (5, .bool false), (6, .int .i64 r2)]) (fun _ => [(b_0, .cells #[.int .i64 a1] 3 (0, 0)), (b1, .cells #[.int .i64 0, .int .i64 0, .slice none 0 0] 35 (0, 0))]) (fun _ => [b1, b1, b1]) (fun _ => by kernel_rfl) (fun _ => ?_)
    refine WP.know (Row 1 (pl (encI .u32)) noK (SkL.nil (fun _ => ())) ([] : List Int)) [] [] (by kernel_rfl) (fun w _ => RowP.empty (fun _ => rfl)) ?_
    obtain rfl := Option.some.inj hM
    exact WP.ret [1, 1, 1] [b1, b1, b1] (.tuple #[.agg #[.int .i64 0, .int .i64 0, slcV (SkL.nil (fun _ => ())) ([] : List Int).length], .bool false]) (by kernel_rfl) (fun w' hw => ⟨(SkL.nil (fun _ => ())), rfl, (hw.pick [0] (by kernel_rfl)).less (sub_ret [0] [1] (by kernel_rfl) (by kernel_rfl))⟩)
  · replace hM := cond_f hM c4
    refine WP.skip ?_
    refine WP.seq ?_
    refine WP.region ?_
    refine WL.run 2 [] [4, 5, 14, 15] (fun _ => [(4, .pointer (some ⟨b1, 0, none⟩)), (5, .bool false), (14, slcV A00 a0.length), (15, .int .i64 r2)]) (fun _ => [(b_0, .cells #[.int .i64 a1] 3 (0, 0)), (b1, .cells #[.int .i64 0, .int .i64 0, .slice none 0 0] 35 (0, 0))]) (fun _ => []) (fun _ => by kernel_rfl) (fun _ => ?_)
    obtain ⟨t5, h6, hM⟩ := bind_some hM
    refine WL.valF (φ := Row 3 api_Seg.encS api_Seg.inK A00 a0) (fact_at 0 rfl) (fun w hR => run_indexRowF (A := A00) (xs := a0) (i := r2) (k := .i64) (e := 35) (m := 3) (by kernel_rfl) (by kernel_rfl) h6 (by kernel_rfl) (by kernel_rfl) hR) (by kernel_rfl) (by kernel_rfl) rfl ?_
    refine WL.valF (φ := Row 3 api_Seg.encS api_Seg.inK A00 a0) (fact_at 0 rfl) (fun w hR => run_loadRowFA (A := A00) (xs := a0) (i := r2) (j := 0) (n := 3) (vs := [.int .i64 t5.Vid, .int .i64 t5.Vni, slcV (A00.s (Int.toNat r2)) t5.Peers.length]) h6 (fun _ => by kernel_rfl) (by kernel_rfl) (by kernel_rfl) (by kernel_rfl) rfl hR) (by kernel_rfl) (by kernel_rfl) rfl ?_
    refine WL.know (Row 1 (pl (encI .u32)) noK (A00.s (Int.toNat r2)) t5.Peers) [0] [Row 3 api_Seg.encS api_Seg.inK A00 a0] (by kernel_rfl) (fun w hψ => ((hψ _ (List.mem_singleton.2 rfl)).inner _ _ (getL_parts h6).2)) ?_
    refine WL.run 2 [2, 2, 2] [4, 5, 7] (fun b7 => [(4, .pointer (some ⟨b1, 0, none⟩)), (5, .bool false), (7, .pointer (some ⟨b7, 0, none⟩))]) (fun b7 => [(b_0, .cells #[.int .i64 a1] 3 (0, 0)), (b1, .cells #[.int .i64 0, .int .i64 0, .slice none 0 0] 35 (0, 0)), (b7, .cells #[.int .i64 t5.Vid, .int .i64 t5.Vni, slcV (A00.s (Int.toNat r2)) t5.Peers.length] 35 (0, 0))]) (fun b7 => [b7, b7, b7]) (fun b7 => by kernel_rfl) (fun b7 => ?_)
    refine WP.done ?_
    refine WP.seq ?_
    refine WP.region ?_
    refine WL.run 2 [2] [4, 5, 7, 19] (fun _ => [(4, .pointer (some ⟨b1, 0, none⟩)), (5, .bool false), (7, .pointer (some ⟨b7, 0, none⟩)), (19, slcV (A00.s (Int.toNat r2)) t5.Peers.length)]) (fun _ => [(b_0, .cells #[.int .i64 a1] 3 (0, 0)), (b1, .cells #[.int .i64 0, .int .i64 0, .slice none 0 0] 35 (0, 0)), (b7, .cells #[.int .i64 t5.Vid, .int .i64 t5.Vni, slcV (A00.s (Int.toNat r2)) t5.Peers.length] 35 (0, 0))]) (fun _ => [b7]) (fun _ => by kernel_rfl) (fun _ => ?_)
    obtain ⟨r8, h9, hM⟩ := bind_some hM
    refine WL.callX (F0 := [Row 1 (pl (encI .u32)) noK (A00.s (Int.toNat r2)) t5.Peers]) [] [] [false, false, false] (fun _ => _) [0] (by kernel_rfl) (slices_Clone_uint32_uint32_calls (A00.s (Int.toNat r2)) t5.Peers _ h9) rfl rfl (by kernel_rfl) (by kernel_rfl) (fun _ => rfl) (fun A10 => ?_)
    refine WL.run 2 [2] [4, 5, 7] (fun _ => [(4, .pointer (some ⟨b1, 0, none⟩)), (5, .bool false), (7, .pointer (some ⟨b7, 0, none⟩))]) (fun _ => [(b_0, .cells #[.int .i64 a1] 3 (0, 0)), (b1, .cells #[.int .i64 0, .int .i64 0, .slice none 0 0] 35 (0, 0)), (b7, .cells #[.int .i64 t5.Vid, .int .i64 t5.Vni, slcV A10 r8.length] 35 (0, 0))]) (fun _ => [b7]) (fun _ => by kernel_rfl) (fun _ => ?_)
    refine WP.done ?_
    refine WP.seq ?_
    refine WP.run [2, 2, 2, 1, 1, 1] [4, 5] (fun _ => [(4, .pointer (some ⟨b1, 0, none⟩)), (5, .bool true)]) (fun _ => [(b_0, .cells #[.int .i64 a1] 3 (0, 0)), (b1, .cells #[.int .i64 t5.Vid, .int .i64 t5.Vni, slcV A10 r8.length] 35 (0, 0)), (b7, .cells #[.int .i64 t5.Vid, .int .i64 t5.Vni, slcV A10 r8.length] 35 (0, 0))]) (fun _ => [b1, b1, b1, b7, b7, b7]) (fun _ => by kernel_rfl) (fun _ => ?_)
    refine WP.keep [true, true, false] (by kernel_rfl : _ = [(b_0, .cells #[.int .i64 a1] 3 (0, 0)), (b1, .cells #[.int .i64 t5.Vid, .int .i64 t5.Vni, slcV A10 r8.length] 35 (0, 0))]) ?_
    obtain rfl := Option.some.inj hM
    exact WP.ret [1, 1, 1] [b1, b1, b1] (.tuple #[.agg #[.int .i64 t5.Vid, .int .i64 t5.Vni, slcV A10 r8.length], .bool true]) (by kernel_rfl) (fun w' hw => ⟨A10, rfl, (hw.pick [0] (by kernel_rfl)).less (sub_ret [0] [2] (by kernel_rfl) (by kernel_rfl))⟩)

end Go.Proofs.YtbodofjnfmjbpaaGreatDoor

namespace Go.Proofs.YtbodofjnfmjbpaaGreatDoor
open Go Eng
set_option linter.unusedVariables false
set_option linter.unusedSimpArgs false

/-! ### gangway/vni.By: function 48 -/
def vni_By.f (k : Nat) (a0 : (List api_Seg)) (a1 : Int) : Option (api_Seg × Bool) :=
  (vni_first.f k a0 a1).bind fun (r2, r3) =>
  some (r2, r3)

set_option maxRecDepth 100000 in
theorem vni_By_calls (k : Nat) (A00 : SkL (SkL Unit)) (a0 : (List api_Seg)) (a1 : Int) (r : api_Seg × Bool) (h : vni_By.f k a0 a1 = some r) : Does Tryz.prog 48 #[slcV A00 a0.length, .int .i64 a1] [] ([Row 3 api_Seg.encS api_Seg.inK A00 a0] ++ Glob) (fun x : (SkL Unit) => .tuple #[.agg #[.int .i64 r.1.Vid, .int .i64 r.1.Vni, slcV x r.1.Peers.length], .bool r.2]) (fun x => []) (fun _ => []) (fun x => [Row 1 (pl (encI .u32)) noK x r.1.Peers] ++ ([Row 3 api_Seg.encS api_Seg.inK A00 a0] ++ Glob)) := by
  intro w Z hS
  refine calls_of (args := [slcV A00 a0.length, .int .i64 a1]) (L := [(0, slcV A00 a0.length), (1, .int .i64 a1)]) (N := 11) (S := Sat w Z [] [] ([Row 3 api_Seg.encS api_Seg.inK A00 a0] ++ Glob)) Tryz.func48 rfl rfl (Nat.le_of_ble_eq_true rfl) rfl hS ?_
  have hM := h
  clear h hS
  unfold vni_By.f at hM
  refine WP.seq ?_
  refine WP.run [] [0, 3, 4, 5] (fun b1 => [(0, slcV A00 a0.length), (3, .pointer (some ⟨b1, 0, none⟩)), (4, .pointer (some ⟨(b1 + 1), 0, none⟩)), (5, .bool false)]) (fun b1 => [(b1, .cells #[.int .i64 a1] 3 (0, 0)), ((b1 + 1), .cells #[.int .i64 0, .int .i64 0, .slice none 0 0] 35 (0, 0))]) (fun b1 => []) (fun b1 => by kernel_rfl) (fun b1 => ?_)
  refine WP.seq ?_
  refine WP.region ?_
  refine WL.run 2 [] [4, 5, 6, 7] (fun _ => [(4, .pointer (some ⟨(b1 + 1), 0, none⟩)), (5, .bool false), (6, slcV A00 a0.length), (7, .func (.func 80) #[] #[.pointer (some ⟨b1, 0, none⟩)])]) (fun _ => [(b1, .cells #[.int .i64 a1] 3 (0, 0)), ((b1 + 1), .cells #[.int .i64 0, .int .i64 0, .slice none 0 0] 35 (0, 0))]) (fun _ => []) (fun _ => by kernel_rfl) (fun _ => ?_)
  obtain ⟨⟨r2, r3⟩, h4, hM⟩ := bind_some hM
  dsimp only at hM
  refine WL.callX (F0 := [Row 3 api_Seg.encS api_Seg.inK A00 a0]) [] [] [true, false] (fun _ => _) [0] (by kernel_rfl) (vni_first_calls k b1 A00 a0 a1 _ h4) rfl rfl (by kernel_rfl) (by kernel_rfl) (fun _ => rfl) (fun A5 => ?_)
  refine WL.run 4 [1, 1, 1] [4, 5] (fun _ => [(4, .pointer (some ⟨(b1 + 1), 0, none⟩)), (5, .bool r3)]) (fun _ => [(b1, .cells #[.int .i64 a1] 3 (0, 0)), ((b1 + 1), .cells #[.int .i64 r2.Vid, .int .i64 r2.Vni, slcV A5 r2.Peers.length] 35 (0, 0))]) (fun _ => [(b1 + 1), (b1 + 1), (b1 + 1)]) (fun _ => by kernel_rfl) (fun _ => ?_)
  refine WP.done ?_
  refine WP.keep [false, true] (by kernel_rfl : _ = [((b1 + 1), .cells #[.int .i64 r2.Vid, .int .i64 r2.Vni, slcV A5 r2.Peers.length] 35 (0, 0))]) ?_
  obtain rfl := Option.some.inj hM
  exact WP.ret [0, 0, 0] [(b1 + 1), (b1 + 1), (b1 + 1)] (.tuple #[.agg #[.int .i64 r2.Vid, .int .i64 r2.Vni, slcV A5 r2.Peers.length], .bool r3]) (by kernel_rfl) (fun w' hw => ⟨A5, rfl, (hw.pick [] (by kernel_rfl)).less (sub_ret [0] [1] (by kernel_rfl) (by kernel_rfl))⟩)

end Go.Proofs.YtbodofjnfmjbpaaGreatDoor

namespace Go.Proofs.YtbodofjnfmjbpaaGreatDoor
open Go Eng
set_option linter.unusedVariables false
set_option linter.unusedSimpArgs false

/-! ### slices.Index[[]uint32,uint32]: function 105 -/
def slices_Index_uint32_uint32.l1 (a0 : (List Int)) (a1 : Int) : Nat → Int → Int → Option (Int)
  | 0, _, _ => none
  | n + 1, x1, x2 =>
    bif decide (x2 < (a0.length : Int)) then
      (getL a0.length a0 x2).bind fun t4 =>
      bif (a1 == t4) then
        some x2
      else
        slices_Index_uint32_uint32.l1 a0 a1 n x1 (i64 (x2 + 1))
    else
      some (-1)

def slices_Index_uint32_uint32.f (k : Nat) (a0 : (List Int)) (a1 : Int) : Option (Int) :=
  slices_Index_uint32_uint32.l1 a0 a1 k 0 0

set_option maxRecDepth 100000 in
theorem slices_Index_uint32_uint32_calls (k : Nat) (A00 : SkL Unit) (a0 : (List Int)) (a1 : Int) (r : Int) (h : slices_Index_uint32_uint32.f k a0 a1 = some r) : Pure Tryz.prog ([Row 1 (pl (encI .u32)) noK A00 a0] ++ Glob) 105 #[slcV A00 a0.length, .int .u32 a1] (.int .i64 r) := by
  intro w Z hS
  refine calls_of (args := [slcV A00 a0.length, .int .u32 a1]) (L := [(0, slcV A00 a0.length), (1, .int .u32 a1)]) (N := 19) (S := Sat w Z [] [] ([Row 1 (pl (encI .u32)) noK A00 a0] ++ Glob)) Tryz.func105 rfl rfl (Nat.le_of_ble_eq_true rfl) rfl hS ?_
  have hM := h
  clear h hS
  unfold slices_Index_uint32_uint32.f at hM
  refine WP.seq ?_
  refine WP.run [] [0, 1, 4] (fun _ => [(0, slcV A00 a0.length), (1, .int .u32 a1), (4, .int .i64 0)]) (fun _ => []) (fun _ => []) (fun _ => by kernel_rfl) (fun _ => ?_)
  refine WP.seq ?_
  refine WP.seq ?_
  refine WP.run [] [0, 1, 4, 7, 8] (fun _ => [(0, slcV A00 a0.length), (1, .int .u32 a1), (4, .int .i64 0), (7, .int .i64 (a0.length : Int)), (8, .int .i64 0)]) (fun _ => []) (fun _ => []) (fun _ => by kernel_rfl) (fun _ => ?_)
  refine WP.block ?_
  refine WP.sub [0, 1, 4, 7, 8] (L' := [(0, slcV A00 a0.length), (1, .int .u32 a1), (4, .int .i64 0), (7, .int .i64 (a0.length : Int)), (8, .int .i64 0)]) (by kernel_rfl) ?_
  refine WP.lessF [0] (F' := [Row 1 (pl (encI .u32)) noK A00 a0]) (by kernel_rfl) ?_
  refine WP.loop (σ := Int × Int) (fun n st => slices_Index_uint32_uint32.l1 a0 a1 n st.1 st.2) r (fun st => [(0, slcV A00 a0.length), (1, .int .u32 a1), (4, .int .i64 st.1), (7, .int .i64 (a0.length : Int)), (8, .int .i64 st.2)]) (fun st => Sat w Z [] [] ([Row 1 (pl (encI .u32)) noK A00 a0] ++ Glob)) (st := (0, 0)) (fun n st hM => ?_) hM
  rcases n with _ | n
  · exact nomatch (show (none : Option _) = some r from hM)
  obtain ⟨x1, x2⟩ := st
  replace hM : slices_Index_uint32_uint32.l1 a0 a1 (n + 1) x1 x2 = some r := hM
  rw [slices_Index_uint32_uint32.l1] at hM
  show WP _ _ _ _ _ [(0, slcV A00 a0.length), (1, .int .u32 a1), (4, .int .i64 x1), (7, .int .i64 (a0.length : Int)), (8, .int .i64 x2)] (Sat w Z [] [] ([Row 1 (pl (encI .u32)) noK A00 a0] ++ Glob))
  refine WP.seq ?_
  refine WP.run [] [0, 1, 4, 7, 8, 9] (fun _ => [(0, slcV A00 a0.length), (1, .int .u32 a1), (4, .int .i64 x1), (7, .int .i64 (a0.length : Int)), (8, .int .i64 x2), (9, .bool (decide (x2 < (a0.length : Int))))]) (fun _ => []) (fun _ => []) (fun _ => by kernel_rfl) (fun _ => ?_)
  refine WP.seq ?_
  refine WP.cond (decide (x2 < (a0.length : Int))) rfl rfl (fun c3 => ?_) (fun c3 => ?_)
  · replace hM := cond_t hM c3
    refine WP.skip ?_
    refine WP.seq ?_
    refine WP.block ?_
    refine WP.seq ?_
    refine WP.run [] [0, 1, 4, 5, 7, 8, 9, 10] (fun _ => [(0, slcV A00 a0.length), (1, .int .u32 a1), (4, .int .i64 x1), (5, .int .i64 x2), (7, .int .i64 (a0.length : Int)), (8, .int .i64 x2), (9, .bool (decide (x2 < (a0.length : Int)))), (10, .int .i64 x2)]) (fun _ => []) (fun _ => []) (fun _ => by kernel_rfl) (fun _ => ?_)
    refine WP.seq ?_
    refine WP.region ?_
    refine WL.run 3 [] [0, 1, 4, 5, 7, 8, 9, 10, 11, 12, 13] (fun _ => [(0, slcV A00 a0.length), (1, .int .u32 a1), (4, .int .i64 x1), (5, .int .i64 x2), (7, .int .i64 (a0.length : Int)), (8, .int .i64 x2), (9, .bool (decide (x2 < (a0.length : Int)))), (10, .int .i64 x2), (11, .int .u32 a1), (12, slcV A00 a0.length), (13, .int .i64 x2)]) (fun _ => []) (fun _ => []) (fun _ => by kernel_rfl) (fun _ => ?_)
    obtain ⟨t4, h5, hM⟩ := bind_some hM
    refine WL.valF (φ := Row 1 (pl (encI .u32)) noK A00 a0) (fact_at 0 rfl) (fun w hR => run_indexRowF (A := A00) (xs := a0) (i := x2) (k := .i64) (e := 22) (m := 1) (by kernel_rfl) (by kernel_rfl) h5 (by kernel_rfl) (by kernel_rfl) hR) (by kernel_rfl) (by kernel_rfl) rfl ?_
    refine WL.valF (φ := Row 1 (pl (encI .u32)) noK A00 a0) (fact_at 0 rfl) (fun w hR => run_loadRowF (A := A00) (xs := a0) (i := x2) (j := 0) (v := .int .u32 t4) h5 (fun _ => by kernel_rfl) (by kernel_rfl) (by kernel_rfl) hR) (by kernel_rfl) (by kernel_rfl) rfl ?_
    refine WL.run 1 [] [0, 1, 4, 5, 7, 8, 9, 10, 11, 12, 13, 14, 15, 16] (fun _ => [(0, slcV A00 a0.length), (1, .int .u32 a1), (4, .int .i64 x1), (5, .int .i64 x2), (7, .int .i64 (a0.length : Int)), (8, .int .i64 x2), (9, .bool (decide (x2 < (a0.length : Int)))), (10, .int .i64 x2), (11, .int .u32 a1), (12, slcV A00 a0.length), (13, .int .i64 x2), (14, ptrV A00 (Int.toNat x2 * 1 + 0)), (15, .int .u32 t4), (16, .bool (a1 == t4))]) (fun _ => []) (fun _ => []) (fun _ => by kernel_rfl) (fun _ => ?_)
    refine WP.done ?_
    refine WP.cond (a1 == t4) rfl rfl (fun c6 => ?_) (fun c6 => ?_)
    · replace hM := cond_t hM c6
      refine WP.seq ?_
      refine WP.run [] [0, 1, 4, 5, 7, 8, 9, 10, 11, 12, 13, 14, 15, 16, 17] (fun _ => [(0, slcV A00 a0.length), (1, .int .u32 a1), (4, .int .i64 x2), (5, .int .i64 x2), (7, .int .i64 (a0.length : Int)), (8, .int .i64 x2), (9, .bool (decide (x2 < (a0.length : Int)))), (10, .int .i64 x2), (11, .int .u32 a1), (12, slcV A00 a0.length), (13, .int .i64 x2), (14, ptrV A00 (Int.toNat x2 * 1 + 0)), (15, .int .u32 t4), (16, .bool (a1 == t4)), (17, .int .i64 x2)]) (fun _ => []) (fun _ => []) (fun _ => by kernel_rfl) (fun _ => ?_)
      obtain rfl := Option.some.inj hM
      exact WP.ret [] [] (.int .i64 x2) (by kernel_rfl) (fun w' hw => ⟨rfl, (hw.pick [] rfl).lessF [0] (by kernel_rfl)⟩)
    · replace hM := cond_f hM c6
      refine WP.skip ?_
      refine WP.leave ?_
      refine WP.run [] [0, 1, 4, 5, 7, 8, 9, 10, 11, 12, 13, 14, 15, 16, 18] (fun _ => [(0, slcV A00 a0.length), (1, .int .u32 a1), (4, .int .i64 x1), (5, .int .i64 x2), (7, .int .i64 (a0.length : Int)), (8, .int .i64 (i64 (x2 + 1))), (9, .bool (decide (x2 < (a0.length : Int)))), (10, .int .i64 x2), (11, .int .u32 a1), (12, slcV A00 a0.length), (13, .int .i64 x2), (14, ptrV A00 (Int.toNat x2 * 1 + 0)), (15, .int .u32 t4), (16, .bool (a1 == t4)), (18, .int .i64 (i64 (x2 + 1)))]) (fun _ => []) (fun _ => []) (fun _ => by kernel_rfl) (fun _ => ?_)
      exact WP.again' [0, 1, 4, 7, 8] (x1, i64 (x2 + 1)) hM (by kernel_rfl) (fun _ h => (h.pick [] (by kernel_rfl)).lessF [0] (by kernel_rfl))
  · replace hM := cond_f hM c3
    refine WP.exit rfl ?_
    refine WP.seq ?_
    refine WP.run [] [4] (fun _ => [(4, .int .i64 (-1))]) (fun _ => []) (fun _ => []) (fun _ => by kernel_rfl) (fun _ => ?_)
    obtain rfl := Option.some.inj hM
    exact WP.ret [] [] (.int .i64 (-1)) (by kernel_rfl) (fun w' hw => ⟨rfl, (hw.pick [] rfl).lessF [0] (by kernel_rfl)⟩)

end Go.Proofs.YtbodofjnfmjbpaaGreatDoor

namespace Go.Proofs.YtbodofjnfmjbpaaGreatDoor
open Go Eng
set_option linter.unusedVariables false
set_option linter.unusedSimpArgs false

/-! ### slices.Contains[[]uint32,uint32]: function 81 -/
def slices_Contains_uint32_uint32.f (k : Nat) (a0 : (List Int)) (a1 : Int) : Option (Bool) :=
  (slices_Index_uint32_uint32.f k a0 a1).bind fun r1 =>
  some (decide (r1 ≥ 0))

set_option maxRecDepth 100000 in
theorem slices_Contains_uint32_uint32_calls (k : Nat) (A00 : SkL Unit) (a0 : (List Int)) (a1 : Int) (r : Bool) (h : slices_Contains_uint32_uint32.f k a0 a1 = some r) : Pure Tryz.prog ([Row 1 (pl (encI .u32)) noK A00 a0] ++ Glob) 81 #[slcV A00 a0.length, .int .u32 a1] (.bool r) := by
  intro w Z hS
  refine calls_of (args := [slcV A00 a0.length, .int .u32 a1]) (L := [(0, slcV A00 a0.length), (1, .int .u32 a1)]) (N := 9) (S := Sat w Z [] [] ([Row 1 (pl (encI .u32)) noK A00 a0] ++ Glob)) Tryz.func81 rfl rfl (Nat.le_of_ble_eq_true rfl) rfl hS ?_
  have hM := h
  clear h hS
  unfold slices_Contains_uint32_uint32.f at hM
  refine WP.seq ?_
  refine WP.run [] [0, 1, 4] (fun _ => [(0, slcV A00 a0.length), (1, .int .u32 a1), (4, .bool false)]) (fun _ => []) (fun _ => []) (fun _ => by kernel_rfl) (fun _ => ?_)
  refine WP.seq ?_
  refine WP.region ?_
  refine WL.run 2 [] [4, 5, 6] (fun _ => [(4, .bool false), (5, slcV A00 a0.length), (6, .int .u32 a1)]) (fun _ => []) (fun _ => []) (fun _ => by kernel_rfl) (fun _ => ?_)
  obtain ⟨r1, h2, hM⟩ := bind_some hM
  refine WL.callP [] [] (slices_Index_uint32_uint32_calls k A00 a0 a1 _ h2) (sub_pick [0] (by kernel_rfl)) (by kernel_rfl) (by kernel_rfl) rfl ?_
  refine WL.run 2 [] [4] (fun _ => [(4, .bool (decide (r1 ≥ 0)))]) (fun _ => []) (fun _ => []) (fun _ => by kernel_rfl) (fun _ => ?_)
  refine WP.done ?_
  obtain rfl := Option.some.inj hM
  exact WP.ret [] [] (.bool (decide (r1 ≥ 0))) (by kernel_rfl) (fun w' hw => ⟨rfl, (hw.pick [] rfl).lessF [0] (by kernel_rfl)⟩)

end Go.Proofs.YtbodofjnfmjbpaaGreatDoor

namespace Go.Proofs.YtbodofjnfmjbpaaGreatDoor
open Go Eng
set_option linter.unusedVariables false
set_option linter.unusedSimpArgs false

/-! ### gangway/vni.Peer: function 49 -/
def vni_Peer.k1 (x9 : Bool) : Option (Bool) :=
  some x9

def vni_Peer.f (k : Nat) (a0 : (List api_Seg)) (a1 : Int) (a2 : Int) : Option (Bool) :=
  (vni_By.f k a0 a1).bind fun (r1, r2) =>
  bif r2 then
    (slices_Contains_uint32_uint32.f k r1.Peers a2).bind fun r7 =>
    vni_Peer.k1 r7
  else
    vni_Peer.k1 false

set_option maxRecDepth 100000 in
theorem vni_Peer_calls (k : Nat) (A00 : SkL (SkL Unit)) (a0 : (List api_Seg)) (a1 : Int) (a2 : Int) (r : Bool) (h : vni_Peer.f k a0 a1 a2 = some r) : Pure Tryz.prog ([Row 3 api_Seg.encS api_Seg.inK A00 a0] ++ Glob) 49 #[slcV A00 a0.length, .int .i64 a1, .int .u32 a2] (.bool r) := by
  intro w Z hS
  refine calls_of (args := [slcV A00 a0.length, .int .i64 a1, .int .u32 a2]) (L := [(0, slcV A00 a0.length), (1, .int .i64 a1), (2, .int .u32 a2)]) (N := 22) (S := Sat w Z [] [] ([Row 3 api_Seg.encS api_Seg.inK A00 a0] ++ Glob)) Tryz.func49 rfl rfl (Nat.le_of_ble_eq_true rfl) rfl hS ?_
  have hM := h
  clear h hS
  unfold vni_Peer.f at hM
  refine WP.seq ?_
  refine WP.run [] [0, 1, 2, 6] (fun _ => [(0, slcV A00 a0.length), (1, .int .i64 a1), (2, .int .u32 a2), (6, .bool false)]) (fun _ => []) (fun _ => []) (fun _ => by kernel_rfl) (fun _ => ?_)
  refine WP.seq ?_
  refine WP.region ?_
  refine WL.run 2 [] [2, 6, 10, 11] (fun _ => [(2, .int .u32 a2), (6, .bool false), (10, slcV A00 a0.length), (11, .int .i64 a1)]) (fun _ => []) (fun _ => []) (fun _ => by kernel_rfl) (fun _ => ?_)
  obtain ⟨⟨r1, r2⟩, h3, hM⟩ := bind_some hM
  dsimp only at hM
  refine WL.callX (F0 := [Row 3 api_Seg.encS api_Seg.inK A00 a0]) [] [] [] (fun _ => _) [0] (by kernel_rfl) (vni_By_calls k A00 a0 a1 _ h3) rfl rfl (by kernel_rfl) (by kernel_rfl) (fun _ => rfl) (fun A4 => ?_)
  refine WL.run 6 [0, 0, 0] [2, 6, 7, 8] (fun b5 => [(2, .int .u32 a2), (6, .bool false), (7, .pointer (some ⟨b5, 0, none⟩)), (8, .bool r2)]) (fun b5 => [(b5, .cells #[.int .i64 r1.Vid, .int .i64 r1.Vni, slcV A4 r1.Peers.length] 35 (0, 0))]) (fun b5 => [b5, b5, b5]) (fun b5 => by kernel_rfl) (fun b5 => ?_)
  refine WP.done ?_
  refine WP.seq ?_
  refine WP.region ?_
  refine WL.run 2 [] [2, 6, 7, 16] (fun _ => [(2, .int .u32 a2), (6, .bool false), (7, .pointer (some ⟨b5, 0, none⟩)), (16, .bool r2)]) (fun _ => [(b5, .cells #[.int .i64 r1.Vid, .int .i64 r1.Vni, slcV A4 r1.Peers.length] 35 (0, 0))]) (fun _ => []) (fun _ => by kernel_rfl) (fun _ => ?_)
  refine WL.sub [2, 6, 7, 16] (L' := [(2, .int .u32 a2), (6, .bool false), (7, .pointer (some ⟨b5, 0, none⟩)), (16, .bool r2)]) (by kernel_rfl) ?_
  refine WL.join (σ := Bool) 5 (fun st => vni_Peer.k1 st = some r) (fun st => [(6, .bool false), (21, .bool st)]) (fun st => Sat w Z [] [] ([Row 1 (pl (encI .u32)) noK A4 r1.Peers, Row 3 api_Seg.encS api_Seg.inK A00 a0] ++ Glob)) (fun st hM => ?_) (fun K1 => ?_)
  ·
    obtain ⟨x9, rfl⟩ : ∃ y, y = st := ⟨st, rfl⟩
    replace hM : vni_Peer.k1 x9 = some r := hM
    unfold vni_Peer.k1 at hM
    show WL _ _ _ _ _ [(6, .bool false), (21, .bool x9)] (Sat w Z [] [] ([Row 1 (pl (encI .u32)) noK A4 r1.Peers, Row 3 api_Seg.encS api_Seg.inK A00 a0] ++ Glob))
    refine WL.run 1 [] [6] (fun _ => [(6, .bool x9)]) (fun _ => []) (fun _ => []) (fun _ => by kernel_rfl) (fun _ => ?_)
    refine WP.done ?_
    obtain rfl := Option.some.inj hM
    exact WP.ret [] [] (.bool x9) (by kernel_rfl) (fun w' hw => ⟨rfl, (hw.pick [] rfl).lessF [1] (by kernel_rfl)⟩)
  ·
    refine WL.split (fun b' => [(2, .int .u32 a2), (6, .bool false), (7, .pointer (some ⟨b5, 0, none⟩)), (16, .bool b')]) r2 (fun c6 => ?_) (fun c6 => ?_)
    · replace hM := cond_t hM c6
      refine WL.run 3 [0] [6, 16, 18, 19] (fun _ => [(6, .bool false), (16, .bool true), (18, slcV A4 r1.Peers.length), (19, .int .u32 a2)]) (fun _ => [(b5, .cells #[.int .i64 r1.Vid, .int .i64 r1.Vni, slcV A4 r1.Peers.length] 35 (0, 0))]) (fun _ => [b5]) (fun _ => by kernel_rfl) (fun _ => ?_)
      obtain ⟨r7, h8, hM⟩ := bind_some hM
      refine WL.callP [] [] (slices_Contains_uint32_uint32_calls k A4 r1.Peers a2 _ h8) (sub_pick [0] (by kernel_rfl)) (by kernel_rfl) (by kernel_rfl) rfl ?_
      refine WL.run 1 [] [6, 21] (fun _ => [(6, .bool false), (21, .bool r7)]) (fun _ => [(b5, .cells #[.int .i64 r1.Vid, .int .i64 r1.Vni, slcV A4 r1.Peers.length] 35 (0, 0))]) (fun _ => []) (fun _ => by kernel_rfl) (fun _ => ?_)
      exact WL.sub [6, 21] (by kernel_rfl) (WL.pick [] (by kernel_rfl) (by kernel_rfl) (WL.lessF [0, 1] (by kernel_rfl) (K1 r7 hM)))
    · replace hM := cond_f hM c6
      refine WL.run 5 [] [6, 21] (fun _ => [(6, .bool false), (21, .bool false)]) (fun _ => [(b5, .cells #[.int .i64 r1.Vid, .int .i64 r1.Vni, slcV A4 r1.Peers.length] 35 (0, 0))]) (fun _ => []) (fun _ => by kernel_rfl) (fun _ => ?_)
      exact WL.sub [6, 21] (by kernel_rfl) (WL.pick [] (by kernel_rfl) (by kernel_rfl) (WL.lessF [0, 1] (by kernel_rfl) (K1 false hM)))

end Go.Proofs.YtbodofjnfmjbpaaGreatDoor

namespace Go.Proofs.YtbodofjnfmjbpaaGreatDoor
open Go Eng
set_option linter.unusedVariables false
set_option linter.unusedSimpArgs false

/-! ### (*gangway/tunnel.opener).step: function 26 -/
def tunnel_opener_step.f (k : Nat) (a0 : (List api_Seg)) (a0_1 : Int) (a0_2 : Int) (a0_3 : ByteArray) (a0_4 : Int) (a0_5 : Int) (a0_6 : (List Int)) (a0_7 : Int) (a0_8 : Int) (a0_9 : Bool) (a0_10 : Int) (a0_11 : Bool) (a0_12 : Int) (a0_13 : Int) (a0_14 : ByteArray) (a1 : Int) : Option (Bool × Int × ByteArray × Int × Int × (List Int) × Int × Int × Bool × Int × Bool × Int × Int × ByteArray) :=
  bif (a1 == 0) then
    (vxlan_Parse.f k a0_3).bind fun (r2, r3, r4) =>
    some ((r4 == 0), r2, r3, a0_4, a0_5, a0_6, a0_7, a0_8, a0_9, a0_10, a0_11, a0_12, a0_13, a0_14)
  else
    bif (a1 == 1) then
      (vni_By.f k a0 a0_2).bind fun (r8, r9) =>
      some (r9, a0_2, a0_3, r8.Vid, r8.Vni, r8.Peers, a0_7, a0_8, a0_9, a0_10, a0_11, a0_12, a0_13, a0_14)
    else
      bif (a1 == 2) then
        (vni_Peer.f k a0 a0_2 a0_1).bind fun r14 =>
        some (r14, a0_2, a0_3, a0_4, a0_5, a0_6, a0_7, a0_8, a0_9, a0_10, a0_11, a0_12, a0_13, a0_14)
      else
        (ether_Parse.f k a0_3).bind fun (r16, r17) =>
        some (((r17 == 0) && (!r16.Tag.Has)), a0_2, a0_3, a0_4, a0_5, a0_6, r16.Dst, r16.Src, r16.Tag.Has, r16.Tag.Pri, r16.Tag.Dei, r16.Tag.Vid, r16.Type_, r16.Body)

set_option maxRecDepth 100000 in
theorem tunnel_opener_step_calls (k : Nat) (b_0 : Nat) (A00 : SkL (SkL Unit)) (A01 : SkL Unit) (a0 : (List api_Seg)) (a0_1 : Int) (a0_2 : Int) (a0_3 : ByteArray) (a0_4 : Int) (a0_5 : Int) (a0_6 : (List Int)) (a0_7 : Int) (a0_8 : Int) (a0_9 : Bool) (a0_10 : Int) (a0_11 : Bool) (a0_12 : Int) (a0_13 : Int) (a0_14 : ByteArray) (a1 : Int) (r : Bool × Int × ByteArray × Int × Int × (List Int) × Int × Int × Bool × Int × Bool × Int × Int × ByteArray) (h : tunnel_opener_step.f k a0 a0_1 a0_2 a0_3 a0_4 a0_5 a0_6 a0_7 a0_8 a0_9 a0_10 a0_11 a0_12 a0_13 a0_14 a1 = some r) : Does Tryz.prog 26 #[.pointer (some ⟨b_0, 0, none⟩), .int .i64 a1] [(b_0, .cells #[slcV A00 a0.length, .int .u32 a0_1, .int .i64 a0_2, .string a0_3, .int .i64 a0_4, .int .i64 a0_5, slcV A01 a0_6.length, .int .u64 a0_7, .int .u64 a0_8, .bool a0_9, .int .i64 a0_10, .bool a0_11, .int .i64 a0_12, .int .i64 a0_13, .string a0_14] 62 (0, 0))] ([Row 3 api_Seg.encS api_Seg.inK A00 a0, Row 1 (pl (encI .u32)) noK A01 a0_6] ++ Glob) (fun x : (SkL Unit) => .bool r.1) (fun x => [(b_0, .cells #[slcV A00 a0.length, .int .u32 a0_1, .int .i64 r.2.1, .string r.2.2.1, .int .i64 r.2.2.2.1, .int .i64 r.2.2.2.2.1, slcV x r.2.2.2.2.2.1.length, .int .u64 r.2.2.2.2.2.2.1, .int .u64 r.2.2.2.2.2.2.2.1, .bool r.2.2.2.2.2.2.2.2.1, .int .i64 r.2.2.2.2.2.2.2.2.2.1, .bool r.2.2.2.2.2.2.2.2.2.2.1, .int .i64 r.2.2.2.2.2.2.2.2.2.2.2.1, .int .i64 r.2.2.2.2.2.2.2.2.2.2.2.2.1, .string r.2.2.2.2.2.2.2.2.2.2.2.2.2] 62 (0, 0))]) (fun _ => []) (fun x => [Row 1 (pl (encI .u32)) noK x r.2.2.2.2.2.1] ++ ([Row 3 api_Seg.encS api_Seg.inK A00 a0, Row 1 (pl (encI .u32)) noK A01 a0_6] ++ Glob)) := by
  intro w Z hS
  refine calls_of (args := [.pointer (some ⟨b_0, 0, none⟩), .int .i64 a1]) (L := [(0, .pointer (some ⟨b_0, 0, none⟩)), (1, .int .i64 a1)]) (N := 88) (S := Sat w Z [(b_0, .cells #[slcV A00 a0.length, .int .u32 a0_1, .int .i64 a0_2, .string a0_3, .int .i64 a0_4, .int .i64 a0_5, slcV A01 a0_6.length, .int .u64 a0_7, .int .u64 a0_8, .bool a0_9, .int .i64 a0_10, .bool a0_11, .int .i64 a0_12, .int .i64 a0_13, .string a0_14] 62 (0, 0))] [] ([Row 3 api_Seg.encS api_Seg.inK A00 a0, Row 1 (pl (encI .u32)) noK A01 a0_6] ++ Glob)) Tryz.func26 rfl rfl (Nat.le_of_ble_eq_true rfl) rfl hS ?_
  have hM := h
  clear h hS
  unfold tunnel_opener_step.f at hM
  refine WP.seq ?_
  refine WP.run [] [0, 1, 4] (fun _ => [(0, .pointer (some ⟨b_0, 0, none⟩)), (1, .int .i64 a1), (4, .bool false)]) (fun _ => [(b_0, .cells #[slcV A00 a0.length, .int .u32 a0_1, .int .i64 a0_2, .string a0_3, .int .i64 a0_4, .int .i64 a0_5, slcV A01 a0_6.length, .int .u64 a0_7, .int .u64 a0_8, .bool a0_9, .int .i64 a0_10, .bool a0_11, .int .i64 a0_12, .int .i64 a0_13, .string a0_14] 62 (0, 0))]) (fun _ => []) (fun _ => by kernel_rfl) (fun _ => ?_)
  refine WP.seq ?_
  refine WP.seq ?_
  refine WP.run [] [0, 4, 12] (fun _ => [(0, .pointer (some ⟨b_0, 0, none⟩)), (4, .bool false), (12, .int .i64 a1)]) (fun _ => [(b_0, .cells #[slcV A00 a0.length, .int .u32 a0_1, .int .i64 a0_2, .string a0_3, .int .i64 a0_4, .int .i64 a0_5, slcV A01 a0_6.length, .int .u64 a0_7, .int .u64 a0_8, .bool a0_9, .int .i64 a0_10, .bool a0_11, .int .i64 a0_12, .int .i64 a0_13, .string a0_14] 62 (0, 0))]) (fun _ => []) (fun _ => by kernel_rfl) (fun _ => ?_)
  refine WP.block ?_
  refine WP.seq ?_
  refine WP.run [] [0, 4, 12, 13] (fun _ => [(0, .pointer (some ⟨b_0, 0, none⟩)), (4, .bool false), (12, .int .i64 a1), (13, .bool (a1 == 0))]) (fun _ => [(b_0, .cells #[slcV A00 a0.length, .int .u32 a0_1, .int .i64 a0_2, .string a0_3, .int .i64 a0_4, .int .i64 a0_5, slcV A01 a0_6.length, .int .u64 a0_7, .int .u64 a0_8, .bool a0_9, .int .i64 a0_10, .bool a0_11, .int .i64 a0_12, .int .i64 a0_13, .string a0_14] 62 (0, 0))]) (fun _ => []) (fun _ => by kernel_rfl) (fun _ => ?_)
  refine WP.cond (a1 == 0) rfl rfl (fun c1 => ?_) (fun c1 => ?_)
  · replace hM := cond_t hM c1
    refine WP.seq ?_
    refine WP.region ?_
    refine WL.run 4 [0] [0, 4, 19] (fun _ => [(0, .pointer (some ⟨b_0, 0, none⟩)), (4, .bool false), (19, .string a0_3)]) (fun _ => [(b_0, .cells #[slcV A00 a0.length, .int .u32 a0_1, .int .i64 a0_2, .string a0_3, .int .i64 a0_4, .int .i64 a0_5, slcV A01 a0_6.length, .int .u64 a0_7, .int .u64 a0_8, .bool a0_9, .int .i64 a0_10, .bool a0_11, .int .i64 a0_12, .int .i64 a0_13, .string a0_14] 62 (0, 0))]) (fun _ => [b_0]) (fun _ => by kernel_rfl) (fun _ => ?_)
    obtain ⟨⟨r2, r3, r4⟩, h5, hM⟩ := bind_some hM
    dsimp only at hM
    refine WL.callP [] [] (vxlan_Parse_calls k a0_3 _ h5) (fun _ h => List.mem_append_right _ h) (by kernel_rfl) (by kernel_rfl) rfl ?_
    refine WL.run 7 [] [0, 4, 5, 6, 7] (fun _ => [(0, .pointer (some ⟨b_0, 0, none⟩)), (4, .bool false), (5, .int .i64 r2), (6, .string r3), (7, .int .i64 r4)]) (fun _ => [(b_0, .cells #[slcV A00 a0.length, .int .u32 a0_1, .int .i64 a0_2, .string a0_3, .int .i64 a0_4, .int .i64 a0_5, slcV A01 a0_6.length, .int .u64 a0_7, .int .u64 a0_8, .bool a0_9, .int .i64 a0_10, .bool a0_11, .int .i64 a0_12, .int .i64 a0_13, .string a0_14] 62 (0, 0))]) (fun _ => []) (fun _ => by kernel_rfl) (fun _ => ?_)
    refine WP.done ?_
    refine WP.seq ?_
    refine WP.run [0, 0] [0, 4, 7] (fun _ => [(0, .pointer (some ⟨b_0, 0, none⟩)), (4, .bool false), (7, .int .i64 r4)]) (fun _ => [(b_0, .cells #[slcV A00 a0.length, .int .u32 a0_1, .int .i64 r2, .string r3, .int .i64 a0_4, .int .i64 a0_5, slcV A01 a0_6.length, .int .u64 a0_7, .int .u64 a0_8, .bool a0_9, .int .i64 a0_10, .bool a0_11, .int .i64 a0_12, .int .i64 a0_13, .string a0_14] 62 (0, 0))]) (fun _ => [b_0, b_0]) (fun _ => by kernel_rfl) (fun _ => ?_)
    refine WP.seq ?_
    refine WP.run [] [0, 4] (fun _ => [(0, .pointer (some ⟨b_0, 0, none⟩)), (4, .bool (r4 == 0))]) (fun _ => [(b_0, .cells #[slcV A00 a0.length, .int .u32 a0_1, .int .i64 r2, .string r3, .int .i64 a0_4, .int .i64 a0_5, slcV A01 a0_6.length, .int .u64 a0_7, .int .u64 a0_8, .bool a0_9, .int .i64 a0_10, .bool a0_11, .int .i64 a0_12, .int .i64 a0_13, .string a0_14] 62 (0, 0))]) (fun _ => []) (fun _ => by kernel_rfl) (fun _ => ?_)
    obtain rfl := Option.some.inj hM
    exact WP.ret [] [] (.bool (r4 == 0)) (by kernel_rfl) (fun w' hw => ⟨A01, rfl, (hw.pick [0] (by kernel_rfl)).less (sub_ret [1] [0, 1] (by kernel_rfl) (by kernel_rfl))⟩)
  · replace hM := cond_f hM c1
    refine WP.seq ?_
    refine WP.run [] [0, 4, 12, 34] (fun _ => [(0, .pointer (some ⟨b_0, 0, none⟩)), (4, .bool false), (12, .int .i64 a1), (34, .bool (a1 == 1))]) (fun _ => [(b_0, .cells #[slcV A00 a0.length, .int .u32 a0_1, .int .i64 a0_2, .string a0_3, .int .i64 a0_4, .int .i64 a0_5, slcV A01 a0_6.length, .int .u64 a0_7, .int .u64 a0_8, .bool a0_9, .int .i64 a0_10, .bool a0_11, .int .i64 a0_12, .int .i64 a0_13, .string a0_14] 62 (0, 0))]) (fun _ => []) (fun _ => by kernel_rfl) (fun _ => ?_)
    refine WP.cond (a1 == 1) rfl rfl (fun c6 => ?_) (fun c6 => ?_)
    · replace hM := cond_t hM c6
      refine WP.seq ?_
      obtain ⟨⟨r8, r9⟩, h10, hM⟩ := bind_some hM
      dsimp only at hM
      refine WP.sub [0, 4] (L' := [(0, .pointer (some ⟨b_0, 0, none⟩)), (4, .bool false)]) (by kernel_rfl) ?_
      refine WP.mixed (X := (SkL Unit)) 14 [.val (.pointer (some ⟨b_0, 0, none⟩)), .val (.pointer (some ⟨b_0, 0, none⟩)), .val (.pointer (some ⟨b_0, 0, none⟩)), .val (slcV A00 a0.length), .val (.pointer (some ⟨b_0, 0, none⟩)), .val (.pointer (some ⟨b_0, 0, none⟩)), .val (.pointer (some ⟨b_0, 2, none⟩)), .val (.int .i64 a0_2), .ex [] (fun tt => .tuple #[.agg #[.int .i64 r8.Vid, .int .i64 r8.Vni, slcV (tt 8) r8.Peers.length], .bool r9]) (fun tt => [Row 1 (pl (encI .u32)) noK (tt 8) r8.Peers]), .valX [8] (fun tt => .tuple #[.agg #[.int .i64 r8.Vid, .int .i64 r8.Vni, slcV (tt 8) r8.Peers.length], .bool r9]), .valX [8] (fun tt => .agg #[.int .i64 r8.Vid, .int .i64 r8.Vni, slcV (tt 8) r8.Peers.length]), .val (.bool r9), .alloc (.cells #[.int .i64 0, .int .i64 0, .slice none 0 0] 35 (0, 0)) (fun b => .pointer (some ⟨b, 0, none⟩)), .fill 12 [8] (fun tt => .cells #[.int .i64 r8.Vid, .int .i64 r8.Vni, slcV (tt 8) r8.Peers.length] 35 (0, 0))] [(b_0, .cells #[slcV A00 a0.length, .int .u32 a0_1, .int .i64 a0_2, .string a0_3, .int .i64 a0_4, .int .i64 a0_5, slcV A01 a0_6.length, .int .u64 a0_7, .int .u64 a0_8, .bool a0_9, .int .i64 a0_10, .bool a0_11, .int .i64 a0_12, .int .i64 a0_13, .string a0_14] 62 (0, 0))] [] (by kernel_rfl) (by kernel_rfl) (by kernel_rfl) (by kernel_rfl) (Heads.val (fun tt Ψ => OpV.run [] [] (by kernel_rfl) (fun _ => by kernel_rfl)) (Heads.val (fun tt Ψ => OpV.run [] [] (by kernel_rfl) (fun _ => by kernel_rfl)) (Heads.val (fun tt Ψ => OpV.run [] [] (by kernel_rfl) (fun _ => by kernel_rfl)) (Heads.val (fun tt Ψ => OpV.run [0] [b_0] (by kernel_rfl) (fun _ => by kernel_rfl)) (Heads.val (fun tt Ψ => OpV.run [] [] (by kernel_rfl) (fun _ => by kernel_rfl)) (Heads.val (fun tt Ψ => OpV.run [] [] (by kernel_rfl) (fun _ => by kernel_rfl)) (Heads.val (fun tt Ψ => OpV.run [] [] (by kernel_rfl) (fun _ => by kernel_rfl)) (Heads.val (fun tt Ψ => OpV.run [0] [b_0] (by kernel_rfl) (fun _ => by kernel_rfl)) (Heads.ex (fun x x' h => ⟨(by first | rfl | simp only [h 8 (List.mem_cons_self ..)]), (by first | rfl | simp only [h 8 (List.mem_cons_self ..)])⟩) (fun tt Ψ hΨ => OpX.callX (F0 := [Row 3 api_Seg.encS api_Seg.inK A00 a0]) (fun u => u) [] [] (app2 (mem2 (List.mem_append_right _ (fact_at 0 rfl)) no_facts) (fun _ h => (List.mem_append_right _ (List.mem_append_right _ h)))) (fun _ h => h) (vni_By_calls k A00 a0 a0_2 _ h10) (fun x => ⟨x, rfl⟩) (fun _ => by kernel_rfl) (fun _ => by kernel_rfl) (fun _ => by kernel_rfl)) (Heads.valX (fun x x' h => (by first | rfl | simp only [h 8 (List.mem_of_getElem? (i := 0) rfl)])) (fun tt Ψ hΨ => OpV.run [] [] (by kernel_rfl) (fun _ => by kernel_rfl)) (Heads.valX (fun x x' h => (by first | rfl | simp only [h 8 (List.mem_of_getElem? (i := 0) rfl)])) (fun tt Ψ hΨ => OpV.run [] [] (by kernel_rfl) (fun _ => by kernel_rfl)) (Heads.val (fun tt Ψ => OpV.run [] [] (by kernel_rfl) (fun _ => by kernel_rfl)) (Heads.alloc (fun _ => by kernel_rfl) (fun _ _ => by kernel_rfl) (Heads.fill (fun x x' h => (by first | rfl | simp only [h 8 (List.mem_of_getElem? (i := 0) rfl)])) 8 (fun b => .pointer (some ⟨b, 0, none⟩)) (.cells #[.int .i64 0, .int .i64 0, .slice none 0 0] 35 (0, 0)) rfl rfl (fun tt Ψ => OpF.run [1, 1, 1] (fun b => [b, b, b]) (fun _ => by kernel_rfl) (fun _ _ _ => by kernel_rfl) (fun _ _ _ => by kernel_rfl)) Heads.nil)))))))))))))) (fun s7 tt => [(37, .pointer (some ⟨b_0, 0, none⟩)), (38, .pointer (some ⟨b_0, 0, none⟩)), (39, .pointer (some ⟨b_0, 0, none⟩)), (40, slcV A00 a0.length), (41, .pointer (some ⟨b_0, 0, none⟩)), (42, .pointer (some ⟨b_0, 0, none⟩)), (43, .pointer (some ⟨b_0, 2, none⟩)), (44, .int .i64 a0_2), (45, .tuple #[.agg #[.int .i64 r8.Vid, .int .i64 r8.Vni, slcV (tt 8) r8.Peers.length], .bool r9]), (36, .tuple #[.agg #[.int .i64 r8.Vid, .int .i64 r8.Vni, slcV (tt 8) r8.Peers.length], .bool r9]), (46, .agg #[.int .i64 r8.Vid, .int .i64 r8.Vni, slcV (tt 8) r8.Peers.length]), (47, .bool r9), (8, .pointer (some ⟨(s7 12), 0, none⟩)), (0, .pointer (some ⟨b_0, 0, none⟩)), (4, .bool false)]) (fun s7 tt => [(b_0, .cells #[slcV A00 a0.length, .int .u32 a0_1, .int .i64 a0_2, .string a0_3, .int .i64 a0_4, .int .i64 a0_5, slcV A01 a0_6.length, .int .u64 a0_7, .int .u64 a0_8, .bool a0_9, .int .i64 a0_10, .bool a0_11, .int .i64 a0_12, .int .i64 a0_13, .string a0_14] 62 (0, 0)), ((s7 12), .cells #[.int .i64 r8.Vid, .int .i64 r8.Vni, slcV (tt 8) r8.Peers.length] 35 (0, 0))]) (fun tt => ([Row 1 (pl (encI .u32)) noK (tt 8) r8.Peers] ++ [Row 3 api_Seg.encS api_Seg.inK A00 a0, Row 1 (pl (encI .u32)) noK A01 a0_6]) ++ Glob) (fun _ _ => by kernel_rfl) (fun _ _ => by kernel_rfl) (fun _ => by kernel_rfl) (fun s7 tt => ?_)
      generalize s7 12 = b12
      generalize (tt 8) = A11
      refine WL.run 1 [] [0, 4, 8, 9] (fun _ => [(0, .pointer (some ⟨b_0, 0, none⟩)), (4, .bool false), (8, .pointer (some ⟨b12, 0, none⟩)), (9, .bool r9)]) (fun _ => [(b_0, .cells #[slcV A00 a0.length, .int .u32 a0_1, .int .i64 a0_2, .string a0_3, .int .i64 a0_4, .int .i64 a0_5, slcV A01 a0_6.length, .int .u64 a0_7, .int .u64 a0_8, .bool a0_9, .int .i64 a0_10, .bool a0_11, .int .i64 a0_12, .int .i64 a0_13, .string a0_14] 62 (0, 0)), (b12, .cells #[.int .i64 r8.Vid, .int .i64 r8.Vni, slcV A11 r8.Peers.length] 35 (0, 0))]) (fun _ => []) (fun _ => by kernel_rfl) (fun _ => ?_)
      refine WP.done ?_
      refine WP.seq ?_
      refine WP.run [1, 1, 1, 0, 0, 0] [0, 4, 9] (fun _ => [(0, .pointer (some ⟨b_0, 0, none⟩)), (4, .bool false), (9, .bool r9)]) (fun _ => [(b_0, .cells #[slcV A00 a0.length, .int .u32 a0_1, .int .i64 a0_2, .string a0_3, .int .i64 r8.Vid, .int .i64 r8.Vni, slcV A11 r8.Peers.length, .int .u64 a0_7, .int .u64 a0_8, .bool a0_9, .int .i64 a0_10, .bool a0_11, .int .i64 a0_12, .int .i64 a0_13, .string a0_14] 62 (0, 0)), (b12, .cells #[.int .i64 r8.Vid, .int .i64 r8.Vni, slcV A11 r8.Peers.length] 35 (0, 0))]) (fun _ => [b_0, b_0, b_0, b12, b12, b12]) (fun _ => by kernel_rfl) (fun _ => ?_)
      refine WP.keep [true, false] (by kernel_rfl : _ = [(b_0, .cells #[slcV A00 a0.length, .int .u32 a0_1, .int .i64 a0_2, .string a0_3, .int .i64 r8.Vid, .int .i64 r8.Vni, slcV A11 r8.Peers.length, .int .u64 a0_7, .int .u64 a0_8, .bool a0_9, .int .i64 a0_10, .bool a0_11, .int .i64 a0_12, .int .i64 a0_13, .string a0_14] 62 (0, 0))]) ?_
      refine WP.seq ?_
      refine WP.run [] [0, 4] (fun _ => [(0, .pointer (some ⟨b_0, 0, none⟩)), (4, .bool r9)]) (fun _ => [(b_0, .cells #[slcV A00 a0.length, .int .u32 a0_1, .int .i64 a0_2, .string a0_3, .int .i64 r8.Vid, .int .i64 r8.Vni, slcV A11 r8.Peers.length, .int .u64 a0_7, .int .u64 a0_8, .bool a0_9, .int .i64 a0_10, .bool a0_11, .int .i64 a0_12, .int .i64 a0_13, .string a0_14] 62 (0, 0))]) (fun _ => []) (fun _ => by kernel_rfl) (fun _ => ?_)
      obtain rfl := Option.some.inj hM
      exact WP.ret [] [] (.bool r9) (by kernel_rfl) (fun w' hw => ⟨A11, rfl, (hw.pick [0] (by kernel_rfl)).less (sub_ret [0] [1, 2] (by kernel_rfl) (by kernel_rfl))⟩)
    · replace hM := cond_f hM c6
      refine WP.seq ?_
      refine WP.run [] [0, 4, 53] (fun _ => [(0, .pointer (some ⟨b_0, 0, none⟩)), (4, .bool false), (53, .bool (a1 == 2))]) (fun _ => [(b_0, .cells #[slcV A00 a0.length, .int .u32 a0_1, .int .i64 a0_2, .string a0_3, .int .i64 a0_4, .int .i64 a0_5, slcV A01 a0_6.length, .int .u64 a0_7, .int .u64 a0_8, .bool a0_9, .int .i64 a0_10, .bool a0_11, .int .i64 a0_12, .int .i64 a0_13, .string a0_14] 62 (0, 0))]) (fun _ => []) (fun _ => by kernel_rfl) (fun _ => ?_)
      refine WP.cond (a1 == 2) rfl rfl (fun c13 => ?_) (fun c13 => ?_)
      · replace hM := cond_t hM c13
        refine WP.seq ?_
        refine WP.quiet (by kernel_rfl) (by kernel_rfl) ?_
        refine QL.run 12 [0, 0, 0] [0, 4, 58, 62, 66] [b_0, b_0, b_0] [(0, .pointer (some ⟨b_0, 0, none⟩)), (4, .bool false), (58, slcV A00 a0.length), (62, .int .i64 a0_2), (66, .int .u32 a0_1)] (by kernel_rfl) ?_
        obtain ⟨r14, h15, hM⟩ := bind_some hM
        refine QL.callP [] [] (vni_Peer_calls k A00 a0 a0_2 a0_1 _ h15) (sub_pick [0] (by kernel_rfl)) (by kernel_rfl) (by kernel_rfl) rfl ?_
        refine QL.run 1 [] [0, 4] [] [(0, .pointer (some ⟨b_0, 0, none⟩)), (4, .bool r14)] (by kernel_rfl) ?_
        refine QL.done ?_
        obtain rfl := Option.some.inj hM
        exact WP.ret [] [] (.bool r14) (by kernel_rfl) (fun w' hw => ⟨A01, rfl, (hw.pick [0] (by kernel_rfl)).less (sub_ret [1] [0, 1] (by kernel_rfl) (by kernel_rfl))⟩)
      · replace hM := cond_f hM c13
        refine WP.skip ?_
        refine WP.leave ?_
        refine WP.seq ?_
        refine WP.region ?_
        refine WL.run 4 [0] [0, 4, 72] (fun _ => [(0, .pointer (some ⟨b_0, 0, none⟩)), (4, .bool false), (72, .string a0_3)]) (fun _ => [(b_0, .cells #[slcV A00 a0.length, .int .u32 a0_1, .int .i64 a0_2, .string a0_3, .int .i64 a0_4, .int .i64 a0_5, slcV A01 a0_6.length, .int .u64 a0_7, .int .u64 a0_8, .bool a0_9, .int .i64 a0_10, .bool a0_11, .int .i64 a0_12, .int .i64 a0_13, .string a0_14] 62 (0, 0))]) (fun _ => [b_0]) (fun _ => by kernel_rfl) (fun _ => ?_)
        obtain ⟨⟨r16, r17⟩, h18, hM⟩ := bind_some hM
        dsimp only at hM
        refine WL.callP [] [] (ether_Parse_calls k a0_3 _ h18) (fun _ h => List.mem_append_right _ h) (by kernel_rfl) (by kernel_rfl) rfl ?_
        refine WL.run 6 [1, 1, 1, 1, 1, 1, 1, 1] [0, 4, 10, 11] (fun b19 => [(0, .pointer (some ⟨b_0, 0, none⟩)), (4, .bool false), (10, .pointer (some ⟨b19, 0, none⟩)), (11, .int .i64 r17)]) (fun b19 => [(b_0, .cells #[slcV A00 a0.length, .int .u32 a0_1, .int .i64 a0_2, .string a0_3, .int .i64 a0_4, .int .i64 a0_5, slcV A01 a0_6.length, .int .u64 a0_7, .int .u64 a0_8, .bool a0_9, .int .i64 a0_10, .bool a0_11, .int .i64 a0_12, .int .i64 a0_13, .string a0_14] 62 (0, 0)), (b19, .cells #[.int .u64 r16.Dst, .int .u64 r16.Src, .bool r16.Tag.Has, .int .i64 r16.Tag.Pri, .bool r16.Tag.Dei, .int .i64 r16.Tag.Vid, .int .i64 r16.Type_, .string r16.Body] 29 (0, 0))]) (fun b19 => [b19, b19, b19, b19, b19, b19, b19, b19]) (fun b19 => by kernel_rfl) (fun b19 => ?_)
        refine WP.done ?_
        refine WP.seq ?_
        refine WP.run [1, 1, 1, 1, 1, 1, 1, 1, 0, 0, 0, 0, 0, 0, 0, 0] [4, 10, 11] (fun _ => [(4, .bool false), (10, .pointer (some ⟨b19, 0, none⟩)), (11, .int .i64 r17)]) (fun _ => [(b_0, .cells #[slcV A00 a0.length, .int .u32 a0_1, .int .i64 a0_2, .string a0_3, .int .i64 a0_4, .int .i64 a0_5, slcV A01 a0_6.length, .int .u64 r16.Dst, .int .u64 r16.Src, .bool r16.Tag.Has, .int .i64 r16.Tag.Pri, .bool r16.Tag.Dei, .int .i64 r16.Tag.Vid, .int .i64 r16.Type_, .string r16.Body] 62 (0, 0)), (b19, .cells #[.int .u64 r16.Dst, .int .u64 r16.Src, .bool r16.Tag.Has, .int .i64 r16.Tag.Pri, .bool r16.Tag.Dei, .int .i64 r16.Tag.Vid, .int .i64 r16.Type_, .string r16.Body] 29 (0, 0))]) (fun _ => [b_0, b_0, b_0, b_0, b_0, b_0, b_0, b_0, b19, b19, b19, b19, b19, b19, b19, b19]) (fun _ => by kernel_rfl) (fun _ => ?_)
        refine WP.seq ?_
        refine WP.region ?_
        refine WL.run 3 [] [4, 10, 82] (fun _ => [(4, .bool false), (10, .pointer (some ⟨b19, 0, none⟩)), (82, .bool (r17 == 0))]) (fun _ => [(b_0, .cells #[slcV A00 a0.length, .int .u32 a0_1, .int .i64 a0_2, .string a0_3, .int .i64 a0_4, .int .i64 a0_5, slcV A01 a0_6.length, .int .u64 r16.Dst, .int .u64 r16.Src, .bool r16.Tag.Has, .int .i64 r16.Tag.Pri, .bool r16.Tag.Dei, .int .i64 r16.Tag.Vid, .int .i64 r16.Type_, .string r16.Body] 62 (0, 0)), (b19, .cells #[.int .u64 r16.Dst, .int .u64 r16.Src, .bool r16.Tag.Has, .int .i64 r16.Tag.Pri, .bool r16.Tag.Dei, .int .i64 r16.Tag.Vid, .int .i64 r16.Type_, .string r16.Body] 29 (0, 0))]) (fun _ => []) (fun _ => by kernel_rfl) (fun _ => ?_)
        refine WL.sub [4, 10, 82] (L' := [(4, .bool false), (10, .pointer (some ⟨b19, 0, none⟩)), (82, .bool (r17 == 0))]) (by kernel_rfl) ?_
        refine WL.both (fun b' => [(4, .bool false), (10, .pointer (some ⟨b19, 0, none⟩)), (82, .bool b')]) (r17 == 0) 5 [1] [] [4, 87] (fun b' => [(4, .bool false), (87, .bool (b' && (!r16.Tag.Has)))]) [b19] [] (fun _ => by kernel_rfl) (fun _ => by kernel_rfl) ?_
        refine WL.run 1 [] [4] (fun _ => [(4, .bool ((r17 == 0) && (!r16.Tag.Has)))]) (fun _ => [(b_0, .cells #[slcV A00 a0.length, .int .u32 a0_1, .int .i64 a0_2, .string a0_3, .int .i64 a0_4, .int .i64 a0_5, slcV A01 a0_6.length, .int .u64 r16.Dst, .int .u64 r16.Src, .bool r16.Tag.Has, .int .i64 r16.Tag.Pri, .bool r16.Tag.Dei, .int .i64 r16.Tag.Vid, .int .i64 r16.Type_, .string r16.Body] 62 (0, 0)), (b19, .cells #[.int .u64 r16.Dst, .int .u64 r16.Src, .bool r16.Tag.Has, .int .i64 r16.Tag.Pri, .bool r16.Tag.Dei, .int .i64 r16.Tag.Vid, .int .i64 r16.Type_, .string r16.Body] 29 (0, 0))]) (fun _ => []) (fun _ => by kernel_rfl) (fun _ => ?_)
        refine WP.done ?_
        refine WP.keep [true, false] (by kernel_rfl : _ = [(b_0, .cells #[slcV A00 a0.length, .int .u32 a0_1, .int .i64 a0_2, .string a0_3, .int .i64 a0_4, .int .i64 a0_5, slcV A01 a0_6.length, .int .u64 r16.Dst, .int .u64 r16.Src, .bool r16.Tag.Has, .int .i64 r16.Tag.Pri, .bool r16.Tag.Dei, .int .i64 r16.Tag.Vid, .int .i64 r16.Type_, .string r16.Body] 62 (0, 0))]) ?_
        obtain rfl := Option.some.inj hM
        exact WP.ret [] [] (.bool ((r17 == 0) && (!r16.Tag.Has))) (by kernel_rfl) (fun w' hw => ⟨A01, rfl, (hw.pick [0] (by kernel_rfl)).less (sub_ret [1] [0, 1] (by kernel_rfl) (by kernel_rfl))⟩)

end Go.Proofs.YtbodofjnfmjbpaaGreatDoor

namespace Go.Proofs.YtbodofjnfmjbpaaGreatDoor
open Go Eng
set_option linter.unusedVariables false
set_option linter.unusedSimpArgs false

/-! ### gangway/tunnel.Unwrap: function 12 -/
def tunnel_Unwrap.k1 (x75 : Int) (x76 : Int) (x77 : ByteArray) (x78 : Int) (x79 : Int) (x80 : (List Int)) (x82 : Int) (x83 : Int) (x84 : Bool) (x85 : Int) (x86 : Bool) (x87 : Int) (x88 : Int) (x89 : ByteArray) : Option (api_Seg × api_Frame × Int) :=
  some ((api_Seg.mk x78 x79 x80), (api_Frame.mk x82 x83 (api_Tag.mk x84 x85 x86 x87) x88 x89), 0)

def tunnel_Unwrap.f (k : Nat) (a0 : (List api_Seg)) (a1 : Int) (a2 : api_Udp) : Option (api_Seg × api_Frame × Int) :=
  (tunnel_opener_step.f k a0 a1 0 a2.Body 0 0 ([] : List Int) 0 0 false 0 false 0 0 (⟨#[]⟩ : ByteArray) 0).bind fun (r7, r8, r9, r10, r11, r12, r13, r14, r15, r16, r17, r18, r19, r20) =>
  bif !r7 then
    some ((api_Seg.mk 0 0 ([] : List Int)), (api_Frame.mk 0 0 (api_Tag.mk false 0 false 0) 0 (⟨#[]⟩ : ByteArray)), 1)
  else
    (tunnel_opener_step.f k a0 a1 r8 r9 r10 r11 r12 r13 r14 r15 r16 r17 r18 r19 r20 1).bind fun (r24, r25, r26, r27, r28, r29, r30, r31, r32, r33, r34, r35, r36, r37) =>
    bif !r24 then
      some ((api_Seg.mk 0 0 ([] : List Int)), (api_Frame.mk 0 0 (api_Tag.mk false 0 false 0) 0 (⟨#[]⟩ : ByteArray)), 2)
    else
      (tunnel_opener_step.f k a0 a1 r25 r26 r27 r28 r29 r30 r31 r32 r33 r34 r35 r36 r37 2).bind fun (r41, r42, r43, r44, r45, r46, r47, r48, r49, r50, r51, r52, r53, r54) =>
      bif !r41 then
        some ((api_Seg.mk 0 0 ([] : List Int)), (api_Frame.mk 0 0 (api_Tag.mk false 0 false 0) 0 (⟨#[]⟩ : ByteArray)), 3)
      else
        (tunnel_opener_step.f k a0 a1 r42 r43 r44 r45 r46 r47 r48 r49 r50 r51 r52 r53 r54 3).bind fun (r58, r59, r60, r61, r62, r63, r64, r65, r66, r67, r68, r69, r70, r71) =>
        bif !r58 then
          some ((api_Seg.mk 0 0 ([] : List Int)), (api_Frame.mk 0 0 (api_Tag.mk false 0 false 0) 0 (⟨#[]⟩ : ByteArray)), 4)
        else
          tunnel_Unwrap.k1 0 r59 r60 r61 r62 r63 r64 r65 r66 r67 r68 r69 r70 r71

set_option maxRecDepth 100000 in
theorem tunnel_Unwrap_calls (k : Nat) (A00 : SkL (SkL Unit)) (a0 : (List api_Seg)) (a1 : Int) (a2 : api_Udp) (r : api_Seg × api_Frame × Int) (h : tunnel_Unwrap.f k a0 a1 a2 = some r) : Does Tryz.prog 12 #[slcV A00 a0.length, .int .u32 a1, .agg #[.int .i64 a2.Src, .int .i64 a2.Dst, .bool a2.NoSum, .string a2.Body]] [] ([Row 3 api_Seg.encS api_Seg.inK A00 a0] ++ Glob) (fun x : (SkL Unit) => .tuple #[.agg #[.int .i64 r.1.Vid, .int .i64 r.1.Vni, slcV x r.1.Peers.length], .agg #[.int .u64 r.2.1.Dst, .int .u64 r.2.1.Src, .bool r.2.1.Tag.Has, .int .i64 r.2.1.Tag.Pri, .bool r.2.1.Tag.Dei, .int .i64 r.2.1.Tag.Vid, .int .i64 r.2.1.Type_, .string r.2.1.Body], .int .i64 r.2.2]) (fun x => []) (fun _ => []) (fun x => [Row 1 (pl (encI .u32)) noK x r.1.Peers] ++ ([Row 3 api_Seg.encS api_Seg.inK A00 a0] ++ Glob)) := by
  intro w Z hS
  refine calls_of (args := [slcV A00 a0.length, .int .u32 a1, .agg #[.int .i64 a2.Src, .int .i64 a2.Dst, .bool a2.NoSum, .string a2.Body]]) (L := [(0, slcV A00 a0.length), (1, .int .u32 a1), (2, .agg #[.int .i64 a2.Src, .int .i64 a2.Dst, .bool a2.NoSum, .string a2.Body])]) (N := 41) (S := Sat w Z [] [] ([Row 3 api_Seg.encS api_Seg.inK A00 a0] ++ Glob)) Tryz.func12 rfl rfl (Nat.le_of_ble_eq_true rfl) rfl hS ?_
  have hM := h
  clear h hS
  unfold tunnel_Unwrap.f at hM
  refine WP.seq ?_
  refine WP.run [] [0, 1, 5, 6, 7, 8] (fun b1 => [(0, slcV A00 a0.length), (1, .int .u32 a1), (5, .pointer (some ⟨b1, 0, none⟩)), (6, .pointer (some ⟨(b1 + 1), 0, none⟩)), (7, .pointer (some ⟨(b1 + 2), 0, none⟩)), (8, .int .i64 0)]) (fun b1 => [(b1, .cells #[.int .i64 a2.Src, .int .i64 a2.Dst, .bool a2.NoSum, .string a2.Body] 40 (0, 0)), ((b1 + 1), .cells #[.int .i64 0, .int .i64 0, .slice none 0 0] 35 (0, 0)), ((b1 + 2), .cells #[.int .u64 0, .int .u64 0, .bool false, .int .i64 0, .bool false, .int .i64 0, .int .i64 0, .string (⟨#[]⟩ : ByteArray)] 29 (0, 0))]) (fun b1 => []) (fun b1 => by kernel_rfl) (fun b1 => ?_)
  refine WP.seq ?_
  refine WP.run [0] [6, 7, 8, 9] (fun b2 => [(6, .pointer (some ⟨(b1 + 1), 0, none⟩)), (7, .pointer (some ⟨(b1 + 2), 0, none⟩)), (8, .int .i64 0), (9, .pointer (some ⟨b2, 0, none⟩))]) (fun b2 => [(b1, .cells #[.int .i64 a2.Src, .int .i64 a2.Dst, .bool a2.NoSum, .string a2.Body] 40 (0, 0)), ((b1 + 1), .cells #[.int .i64 0, .int .i64 0, .slice none 0 0] 35 (0, 0)), ((b1 + 2), .cells #[.int .u64 0, .int .u64 0, .bool false, .int .i64 0, .bool false, .int .i64 0, .int .i64 0, .string (⟨#[]⟩ : ByteArray)] 29 (0, 0)), (b2, .cells #[slcV A00 a0.length, .int .u32 a1, .int .i64 0, .string a2.Body, .int .i64 0, .int .i64 0, .slice none 0 0, .int .u64 0, .int .u64 0, .bool false, .int .i64 0, .bool false, .int .i64 0, .int .i64 0, .string (⟨#[]⟩ : ByteArray)] 62 (0, 0))]) (fun b2 => [b1]) (fun b2 => by kernel_rfl) (fun b2 => ?_)
  refine WP.keep [false, true, true, true] (by kernel_rfl : _ = [((b1 + 1), .cells #[.int .i64 0, .int .i64 0, .slice none 0 0] 35 (0, 0)), ((b1 + 2), .cells #[.int .u64 0, .int .u64 0, .bool false, .int .i64 0, .bool false, .int .i64 0, .int .i64 0, .string (⟨#[]⟩ : ByteArray)] 29 (0, 0)), (b2, .cells #[slcV A00 a0.length, .int .u32 a1, .int .i64 0, .string a2.Body, .int .i64 0, .int .i64 0, .slice none 0 0, .int .u64 0, .int .u64 0, .bool false, .int .i64 0, .bool false, .int .i64 0, .int .i64 0, .string (⟨#[]⟩ : ByteArray)] 62 (0, 0))]) ?_
  refine WP.seq ?_
  refine WP.run [3, 3, 3, 3] [6, 7, 8, 9, 10] (fun b3 => [(6, .pointer (some ⟨(b1 + 1), 0, none⟩)), (7, .pointer (some ⟨(b1 + 2), 0, none⟩)), (8, .int .i64 0), (9, .pointer (some ⟨b2, 0, none⟩)), (10, .pointer (some ⟨b3, 0, none⟩))]) (fun b3 => [((b1 + 1), .cells #[.int .i64 0, .int .i64 0, .slice none 0 0] 35 (0, 0)), ((b1 + 2), .cells #[.int .u64 0, .int .u64 0, .bool false, .int .i64 0, .bool false, .int .i64 0, .int .i64 0, .string (⟨#[]⟩ : ByteArray)] 29 (0, 0)), (b2, .cells #[slcV A00 a0.length, .int .u32 a1, .int .i64 0, .string a2.Body, .int .i64 0, .int .i64 0, .slice none 0 0, .int .u64 0, .int .u64 0, .bool false, .int .i64 0, .bool false, .int .i64 0, .int .i64 0, .string (⟨#[]⟩ : ByteArray)] 62 (0, 0)), (b3, .cells #[.int .i64 1, .int .i64 2, .int .i64 3, .int .i64 4] 63 (0, 0))]) (fun b3 => [b3, b3, b3, b3]) (fun b3 => by kernel_rfl) (fun b3 => ?_)
  refine WP.seq ?_
  refine WP.seq ?_
  refine WP.run [3, 3, 3, 3] [6, 7, 8, 9, 20, 21] (fun _ => [(6, .pointer (some ⟨(b1 + 1), 0, none⟩)), (7, .pointer (some ⟨(b1 + 2), 0, none⟩)), (8, .int .i64 0), (9, .pointer (some ⟨b2, 0, none⟩)), (20, .agg #[.int .i64 1, .int .i64 2, .int .i64 3, .int .i64 4]), (21, .int .i64 0)]) (fun _ => [((b1 + 1), .cells #[.int .i64 0, .int .i64 0, .slice none 0 0] 35 (0, 0)), ((b1 + 2), .cells #[.int .u64 0, .int .u64 0, .bool false, .int .i64 0, .bool false, .int .i64 0, .int .i64 0, .string (⟨#[]⟩ : ByteArray)] 29 (0, 0)), (b2, .cells #[slcV A00 a0.length, .int .u32 a1, .int .i64 0, .string a2.Body, .int .i64 0, .int .i64 0, .slice none 0 0, .int .u64 0, .int .u64 0, .bool false, .int .i64 0, .bool false, .int .i64 0, .int .i64 0, .string (⟨#[]⟩ : ByteArray)] 62 (0, 0)), (b3, .cells #[.int .i64 1, .int .i64 2, .int .i64 3, .int .i64 4] 63 (0, 0))]) (fun _ => [b3, b3, b3, b3]) (fun _ => by kernel_rfl) (fun _ => ?_)
  refine WP.keep [true, true, true, false] (by kernel_rfl : _ = [((b1 + 1), .cells #[.int .i64 0, .int .i64 0, .slice none 0 0] 35 (0, 0)), ((b1 + 2), .cells #[.int .u64 0, .int .u64 0, .bool false, .int .i64 0, .bool false, .int .i64 0, .int .i64 0, .string (⟨#[]⟩ : ByteArray)] 29 (0, 0)), (b2, .cells #[slcV A00 a0.length, .int .u32 a1, .int .i64 0, .string a2.Body, .int .i64 0, .int .i64 0, .slice none 0 0, .int .u64 0, .int .u64 0, .bool false, .int .i64 0, .bool false, .int .i64 0, .int .i64 0, .string (⟨#[]⟩ : ByteArray)] 62 (0, 0))]) ?_
  refine WP.blockJoin (σ := Int × Int × ByteArray × Int × Int × (List Int) × SkL Unit × Int × Int × Bool × Int × Bool × Int × Int × ByteArray) (fun st => tunnel_Unwrap.k1 st.1 st.2.1 st.2.2.1 st.2.2.2.1 st.2.2.2.2.1 st.2.2.2.2.2.1 st.2.2.2.2.2.2.2.1 st.2.2.2.2.2.2.2.2.1 st.2.2.2.2.2.2.2.2.2.1 st.2.2.2.2.2.2.2.2.2.2.1 st.2.2.2.2.2.2.2.2.2.2.2.1 st.2.2.2.2.2.2.2.2.2.2.2.2.1 st.2.2.2.2.2.2.2.2.2.2.2.2.2.1 st.2.2.2.2.2.2.2.2.2.2.2.2.2.2 = some r) (fun st => [(6, .pointer (some ⟨(b1 + 1), 0, none⟩)), (7, .pointer (some ⟨(b1 + 2), 0, none⟩)), (8, .int .i64 st.1), (9, .pointer (some ⟨b2, 0, none⟩))]) (fun st => Sat w Z [((b1 + 1), .cells #[.int .i64 0, .int .i64 0, .slice none 0 0] 35 (0, 0)), ((b1 + 2), .cells #[.int .u64 0, .int .u64 0, .bool false, .int .i64 0, .bool false, .int .i64 0, .int .i64 0, .string (⟨#[]⟩ : ByteArray)] 29 (0, 0)), (b2, .cells #[slcV A00 a0.length, .int .u32 a1, .int .i64 st.2.1, .string st.2.2.1, .int .i64 st.2.2.2.1, .int .i64 st.2.2.2.2.1, slcV st.2.2.2.2.2.2.1 st.2.2.2.2.2.1.length, .int .u64 st.2.2.2.2.2.2.2.1, .int .u64 st.2.2.2.2.2.2.2.2.1, .bool st.2.2.2.2.2.2.2.2.2.1, .int .i64 st.2.2.2.2.2.2.2.2.2.2.1, .bool st.2.2.2.2.2.2.2.2.2.2.2.1, .int .i64 st.2.2.2.2.2.2.2.2.2.2.2.2.1, .int .i64 st.2.2.2.2.2.2.2.2.2.2.2.2.2.1, .string st.2.2.2.2.2.2.2.2.2.2.2.2.2.2] 62 (0, 0))] [] ([Row 1 (pl (encI .u32)) noK st.2.2.2.2.2.2.1 st.2.2.2.2.2.1, Row 1 (pl (encI .u32)) noK (SkL.nil (fun _ => ())) ([] : List Int), Row 3 api_Seg.encS api_Seg.inK A00 a0] ++ Glob)) (fun st hM => ?_) (fun K1 => ?_)
  ·
    obtain ⟨x75, x76, x77, x78, x79, x80, A81, x82, x83, x84, x85, x86, x87, x88, x89⟩ := st
    replace hM : tunnel_Unwrap.k1 x75 x76 x77 x78 x79 x80 x82 x83 x84 x85 x86 x87 x88 x89 = some r := hM
    unfold tunnel_Unwrap.k1 at hM
    show WP _ _ _ _ _ [(6, .pointer (some ⟨(b1 + 1), 0, none⟩)), (7, .pointer (some ⟨(b1 + 2), 0, none⟩)), (8, .int .i64 x75), (9, .pointer (some ⟨b2, 0, none⟩))] (Sat w Z [((b1 + 1), .cells #[.int .i64 0, .int .i64 0, .slice none 0 0] 35 (0, 0)), ((b1 + 2), .cells #[.int .u64 0, .int .u64 0, .bool false, .int .i64 0, .bool false, .int .i64 0, .int .i64 0, .string (⟨#[]⟩ : ByteArray)] 29 (0, 0)), (b2, .cells #[slcV A00 a0.length, .int .u32 a1, .int .i64 x76, .string x77, .int .i64 x78, .int .i64 x79, slcV A81 x80.length, .int .u64 x82, .int .u64 x83, .bool x84, .int .i64 x85, .bool x86, .int .i64 x87, .int .i64 x88, .string x89] 62 (0, 0))] [] ([Row 1 (pl (encI .u32)) noK A81 x80, Row 1 (pl (encI .u32)) noK (SkL.nil (fun _ => ())) ([] : List Int), Row 3 api_Seg.encS api_Seg.inK A00 a0] ++ Glob))
    refine WP.seq ?_
    refine WP.sub [6, 7, 8, 9] (L' := [(6, .pointer (some ⟨(b1 + 1), 0, none⟩)), (7, .pointer (some ⟨(b1 + 2), 0, none⟩)), (8, .int .i64 x75), (9, .pointer (some ⟨b2, 0, none⟩))]) (by kernel_rfl) ?_
    refine WP.pick [1, 2, 0] (by kernel_rfl) (by kernel_rfl : _ = [((b1 + 2), .cells #[.int .u64 0, .int .u64 0, .bool false, .int .i64 0, .bool false, .int .i64 0, .int .i64 0, .string (⟨#[]⟩ : ByteArray)] 29 (0, 0)), (b2, .cells #[slcV A00 a0.length, .int .u32 a1, .int .i64 x76, .string x77, .int .i64 x78, .int .i64 x79, slcV A81 x80.length, .int .u64 x82, .int .u64 x83, .bool x84, .int .i64 x85, .bool x86, .int .i64 x87, .int .i64 x88, .string x89] 62 (0, 0)), ((b1 + 1), .cells #[.int .i64 0, .int .i64 0, .slice none 0 0] 35 (0, 0))]) ?_
    refine WP.mixed (X := Unit) 9 [.val (.pointer (some ⟨b2, 0, none⟩)), .val (.pointer (some ⟨b2, 0, none⟩)), .val (.pointer (some ⟨b2, 4, none⟩)), .val (.agg #[.int .i64 x78, .int .i64 x79, slcV A81 x80.length]), .val (.pointer (some ⟨b2, 0, none⟩)), .val (.pointer (some ⟨b2, 0, none⟩)), .val (.pointer (some ⟨b2, 7, none⟩)), .val (.agg #[.int .u64 x82, .int .u64 x83, .bool x84, .int .i64 x85, .bool x86, .int .i64 x87, .int .i64 x88, .string x89]), .put 9 [] (fun tt => .cells #[.int .i64 x78, .int .i64 x79, slcV A81 x80.length] 35 (0, 0))] [((b1 + 2), .cells #[.int .u64 0, .int .u64 0, .bool false, .int .i64 0, .bool false, .int .i64 0, .int .i64 0, .string (⟨#[]⟩ : ByteArray)] 29 (0, 0)), (b2, .cells #[slcV A00 a0.length, .int .u32 a1, .int .i64 x76, .string x77, .int .i64 x78, .int .i64 x79, slcV A81 x80.length, .int .u64 x82, .int .u64 x83, .bool x84, .int .i64 x85, .bool x86, .int .i64 x87, .int .i64 x88, .string x89] 62 (0, 0))] [((b1 + 1), .cells #[.int .i64 0, .int .i64 0, .slice none 0 0] 35 (0, 0))] (by kernel_rfl) (by kernel_rfl) (by kernel_rfl) (by kernel_rfl) (Heads.val (fun tt Ψ => OpV.run [] [] (by kernel_rfl) (fun _ => by kernel_rfl)) (Heads.val (fun tt Ψ => OpV.run [] [] (by kernel_rfl) (fun _ => by kernel_rfl)) (Heads.val (fun tt Ψ => OpV.run [] [] (by kernel_rfl) (fun _ => by kernel_rfl)) (Heads.val (fun tt Ψ => OpV.run [1, 1, 1] [b2, b2, b2] (by kernel_rfl) (fun _ => by kernel_rfl)) (Heads.val (fun tt Ψ => OpV.run [] [] (by kernel_rfl) (fun _ => by kernel_rfl)) (Heads.val (fun tt Ψ => OpV.run [] [] (by kernel_rfl) (fun _ => by kernel_rfl)) (Heads.val (fun tt Ψ => OpV.run [] [] (by kernel_rfl) (fun _ => by kernel_rfl)) (Heads.val (fun tt Ψ => OpV.run [1, 1, 1, 1, 1, 1, 1, 1] [b2, b2, b2, b2, b2, b2, b2, b2] (by kernel_rfl) (fun _ => by kernel_rfl)) (Heads.put (fun x x' h => rfl) 0 (b1 + 1) (.cells #[.int .i64 0, .int .i64 0, .slice none 0 0] 35 (0, 0)) (fun tt => .cells #[.int .i64 0, .int .i64 0, .slice none 0 0] 35 (0, 0)) (by kernel_rfl) rfl (fun _ => by kernel_rfl) (fun tt Ψ => OpP.run [2, 2, 2] [(b1 + 1), (b1 + 1), (b1 + 1)] (by kernel_rfl) (fun _ _ => by kernel_rfl) (fun _ _ => by kernel_rfl)) Heads.nil))))))))) (fun s90 tt => [(33, .pointer (some ⟨b2, 0, none⟩)), (34, .pointer (some ⟨b2, 0, none⟩)), (35, .pointer (some ⟨b2, 4, none⟩)), (36, .agg #[.int .i64 x78, .int .i64 x79, slcV A81 x80.length]), (37, .pointer (some ⟨b2, 0, none⟩)), (38, .pointer (some ⟨b2, 0, none⟩)), (39, .pointer (some ⟨b2, 7, none⟩)), (40, .agg #[.int .u64 x82, .int .u64 x83, .bool x84, .int .i64 x85, .bool x86, .int .i64 x87, .int .i64 x88, .string x89]), (6, .pointer (some ⟨(b1 + 1), 0, none⟩)), (7, .pointer (some ⟨(b1 + 2), 0, none⟩)), (8, .int .i64 x75), (9, .pointer (some ⟨b2, 0, none⟩))]) (fun s90 tt => [((b1 + 2), .cells #[.int .u64 0, .int .u64 0, .bool false, .int .i64 0, .bool false, .int .i64 0, .int .i64 0, .string (⟨#[]⟩ : ByteArray)] 29 (0, 0)), (b2, .cells #[slcV A00 a0.length, .int .u32 a1, .int .i64 x76, .string x77, .int .i64 x78, .int .i64 x79, slcV A81 x80.length, .int .u64 x82, .int .u64 x83, .bool x84, .int .i64 x85, .bool x86, .int .i64 x87, .int .i64 x88, .string x89] 62 (0, 0)), ((b1 + 1), .cells #[.int .i64 x78, .int .i64 x79, slcV A81 x80.length] 35 (0, 0))]) (fun tt => ([] ++ [Row 1 (pl (encI .u32)) noK A81 x80, Row 1 (pl (encI .u32)) noK (SkL.nil (fun _ => ())) ([] : List Int), Row 3 api_Seg.encS api_Seg.inK A00 a0]) ++ Glob) (fun _ _ => by kernel_rfl) (fun _ _ => by kernel_rfl) (fun _ => by kernel_rfl) (fun s90 tt => ?_)
    refine WL.run 2 [0, 0, 0, 0, 0, 0, 0, 0] [6, 7, 8] (fun _ => [(6, .pointer (some ⟨(b1 + 1), 0, none⟩)), (7, .pointer (some ⟨(b1 + 2), 0, none⟩)), (8, .int .i64 0)]) (fun _ => [((b1 + 2), .cells #[.int .u64 x82, .int .u64 x83, .bool x84, .int .i64 x85, .bool x86, .int .i64 x87, .int .i64 x88, .string x89] 29 (0, 0)), (b2, .cells #[slcV A00 a0.length, .int .u32 a1, .int .i64 x76, .string x77, .int .i64 x78, .int .i64 x79, slcV A81 x80.length, .int .u64 x82, .int .u64 x83, .bool x84, .int .i64 x85, .bool x86, .int .i64 x87, .int .i64 x88, .string x89] 62 (0, 0)), ((b1 + 1), .cells #[.int .i64 x78, .int .i64 x79, slcV A81 x80.length] 35 (0, 0))]) (fun _ => [(b1 + 2), (b1 + 2), (b1 + 2), (b1 + 2), (b1 + 2), (b1 + 2), (b1 + 2), (b1 + 2)]) (fun _ => by kernel_rfl) (fun _ => ?_)
    refine WP.done ?_
    refine WP.keep [true, false, true] (by kernel_rfl : _ = [((b1 + 2), .cells #[.int .u64 x82, .int .u64 x83, .bool x84, .int .i64 x85, .bool x86, .int .i64 x87, .int .i64 x88, .string x89] 29 (0, 0)), ((b1 + 1), .cells #[.int .i64 x78, .int .i64 x79, slcV A81 x80.length] 35 (0, 0))]) ?_
    obtain rfl := Option.some.inj hM
    exact WP.ret [1, 1, 1, 0, 0, 0, 0, 0, 0, 0, 0] [(b1 + 1), (b1 + 1), (b1 + 1), (b1 + 2), (b1 + 2), (b1 + 2), (b1 + 2), (b1 + 2), (b1 + 2), (b1 + 2), (b1 + 2)] (.tuple #[.agg #[.int .i64 x78, .int .i64 x79, slcV A81 x80.length], .agg #[.int .u64 x82, .int .u64 x83, .bool x84, .int .i64 x85, .bool x86, .int .i64 x87, .int .i64 x88, .string x89], .int .i64 0]) (by kernel_rfl) (fun w' hw => ⟨A81, rfl, (hw.pick [] (by kernel_rfl)).less (sub_ret [0] [2] (by kernel_rfl) (by kernel_rfl))⟩)
  ·
    refine WP.unroll 40 ?_
    refine WP.seq ?_
    refine WP.run [] [6, 7, 8, 9, 20, 21, 22] (fun _ => [(6, .pointer (some ⟨(b1 + 1), 0, none⟩)), (7, .pointer (some ⟨(b1 + 2), 0, none⟩)), (8, .int .i64 0), (9, .pointer (some ⟨b2, 0, none⟩)), (20, .agg #[.int .i64 1, .int .i64 2, .int .i64 3, .int .i64 4]), (21, .int .i64 0), (22, .bool true)]) (fun _ => [((b1 + 1), .cells #[.int .i64 0, .int .i64 0, .slice none 0 0] 35 (0, 0)), ((b1 + 2), .cells #[.int .u64 0, .int .u64 0, .bool false, .int .i64 0, .bool false, .int .i64 0, .int .i64 0, .string (⟨#[]⟩ : ByteArray)] 29 (0, 0)), (b2, .cells #[slcV A00 a0.length, .int .u32 a1, .int .i64 0, .string a2.Body, .int .i64 0, .int .i64 0, .slice none 0 0, .int .u64 0, .int .u64 0, .bool false, .int .i64 0, .bool false, .int .i64 0, .int .i64 0, .string (⟨#[]⟩ : ByteArray)] 62 (0, 0))]) (fun _ => []) (fun _ => by kernel_rfl) (fun _ => ?_)
    refine WP.seq ?_
    refine WP.yes rfl rfl ?_
    refine WP.skip ?_
    refine WP.seq ?_
    refine WP.block ?_
    refine WP.seq ?_
    refine WP.run [] [6, 7, 8, 9, 11, 12, 20, 21, 22, 23, 24] (fun _ => [(6, .pointer (some ⟨(b1 + 1), 0, none⟩)), (7, .pointer (some ⟨(b1 + 2), 0, none⟩)), (8, .int .i64 0), (9, .pointer (some ⟨b2, 0, none⟩)), (11, .int .i64 0), (12, .int .i64 1), (20, .agg #[.int .i64 1, .int .i64 2, .int .i64 3, .int .i64 4]), (21, .int .i64 0), (22, .bool true), (23, .int .i64 0), (24, .int .i64 1)]) (fun _ => [((b1 + 1), .cells #[.int .i64 0, .int .i64 0, .slice none 0 0] 35 (0, 0)), ((b1 + 2), .cells #[.int .u64 0, .int .u64 0, .bool false, .int .i64 0, .bool false, .int .i64 0, .int .i64 0, .string (⟨#[]⟩ : ByteArray)] 29 (0, 0)), (b2, .cells #[slcV A00 a0.length, .int .u32 a1, .int .i64 0, .string a2.Body, .int .i64 0, .int .i64 0, .slice none 0 0, .int .u64 0, .int .u64 0, .bool false, .int .i64 0, .bool false, .int .i64 0, .int .i64 0, .string (⟨#[]⟩ : ByteArray)] 62 (0, 0))]) (fun _ => []) (fun _ => by kernel_rfl) (fun _ => ?_)
    refine WP.seq ?_
    refine WP.region ?_
    refine WL.run 2 [] [6, 7, 8, 9, 11, 12, 20, 21, 22, 23, 24, 25, 26] (fun _ => [(6, .pointer (some ⟨(b1 + 1), 0, none⟩)), (7, .pointer (some ⟨(b1 + 2), 0, none⟩)), (8, .int .i64 0), (9, .pointer (some ⟨b2, 0, none⟩)), (11, .int .i64 0), (12, .int .i64 1), (20, .agg #[.int .i64 1, .int .i64 2, .int .i64 3, .int .i64 4]), (21, .int .i64 0), (22, .bool true), (23, .int .i64 0), (24, .int .i64 1), (25, .pointer (some ⟨b2, 0, none⟩)), (26, .int .i64 0)]) (fun _ => [((b1 + 1), .cells #[.int .i64 0, .int .i64 0, .slice none 0 0] 35 (0, 0)), ((b1 + 2), .cells #[.int .u64 0, .int .u64 0, .bool false, .int .i64 0, .bool false, .int .i64 0, .int .i64 0, .string (⟨#[]⟩ : ByteArray)] 29 (0, 0)), (b2, .cells #[slcV A00 a0.length, .int .u32 a1, .int .i64 0, .string a2.Body, .int .i64 0, .int .i64 0, .slice none 0 0, .int .u64 0, .int .u64 0, .bool false, .int .i64 0, .bool false, .int .i64 0, .int .i64 0, .string (⟨#[]⟩ : ByteArray)] 62 (0, 0))]) (fun _ => []) (fun _ => by kernel_rfl) (fun _ => ?_)
    refine WL.know (Row 1 (pl (encI .u32)) noK (SkL.nil (fun _ => ())) ([] : List Int)) [] [] (by kernel_rfl) (fun w _ => RowP.empty (fun _ => rfl)) ?_
    obtain ⟨⟨r7, r8, r9, r10, r11, r12, r13, r14, r15, r16, r17, r18, r19, r20⟩, h21, hM⟩ := bind_some hM
    dsimp only at hM
    refine WL.callX (F0 := [Row 3 api_Seg.encS api_Seg.inK A00 a0, Row 1 (pl (encI .u32)) noK (SkL.nil (fun _ => ())) ([] : List Int)]) [] [] [false, false, true] (fun _ => _) [1, 0] (by kernel_rfl) (tunnel_opener_step_calls k b2 A00 (SkL.nil (fun _ => ())) a0 a1 0 a2.Body 0 0 ([] : List Int) 0 0 false 0 false 0 0 (⟨#[]⟩ : ByteArray) 0 _ h21) rfl rfl (by kernel_rfl) (by kernel_rfl) (fun _ => rfl) (fun A22 => ?_)
    refine WL.run 1 [] [6, 7, 8, 9, 11, 12, 20, 21, 22, 23, 24, 25, 26, 27, 28] (fun _ => [(6, .pointer (some ⟨(b1 + 1), 0, none⟩)), (7, .pointer (some ⟨(b1 + 2), 0, none⟩)), (8, .int .i64 0), (9, .pointer (some ⟨b2, 0, none⟩)), (11, .int .i64 0), (12, .int .i64 1), (20, .agg #[.int .i64 1, .int .i64 2, .int .i64 3, .int .i64 4]), (21, .int .i64 0), (22, .bool true), (23, .int .i64 0), (24, .int .i64 1), (25, .pointer (some ⟨b2, 0, none⟩)), (26, .int .i64 0), (27, .bool r7), (28, .bool (!r7))]) (fun _ => [(b2, .cells #[slcV A00 a0.length, .int .u32 a1, .int .i64 r8, .string r9, .int .i64 r10, .int .i64 r11, slcV A22 r12.length, .int .u64 r13, .int .u64 r14, .bool r15, .int .i64 r16, .bool r17, .int .i64 r18, .int .i64 r19, .string r20] 62 (0, 0)), ((b1 + 1), .cells #[.int .i64 0, .int .i64 0, .slice none 0 0] 35 (0, 0)), ((b1 + 2), .cells #[.int .u64 0, .int .u64 0, .bool false, .int .i64 0, .bool false, .int .i64 0, .int .i64 0, .string (⟨#[]⟩ : ByteArray)] 29 (0, 0))]) (fun _ => []) (fun _ => by kernel_rfl) (fun _ => ?_)
    refine WP.done ?_
    refine WP.cond (!r7) rfl rfl (fun c23 => ?_) (fun c23 => ?_)
    · replace hM := cond_t hM c23
      refine WP.seq ?_
      refine WP.run [1, 1, 1, 2, 2, 2, 2, 2, 2, 2, 2] [6, 7, 8, 9, 11, 12, 20, 21, 22, 23, 24, 25, 26, 27, 28, 29, 30, 31] (fun _ => [(6, .pointer (some ⟨(b1 + 1), 0, none⟩)), (7, .pointer (some ⟨(b1 + 2), 0, none⟩)), (8, .int .i64 1), (9, .pointer (some ⟨b2, 0, none⟩)), (11, .int .i64 0), (12, .int .i64 1), (20, .agg #[.int .i64 1, .int .i64 2, .int .i64 3, .int .i64 4]), (21, .int .i64 0), (22, .bool true), (23, .int .i64 0), (24, .int .i64 1), (25, .pointer (some ⟨b2, 0, none⟩)), (26, .int .i64 0), (27, .bool r7), (28, .bool (!r7)), (29, .agg #[.int .i64 0, .int .i64 0, .slice none 0 0]), (30, .agg #[.int .u64 0, .int .u64 0, .bool false, .int .i64 0, .bool false, .int .i64 0, .int .i64 0, .string (⟨#[]⟩ : ByteArray)]), (31, .int .i64 1)]) (fun _ => [(b2, .cells #[slcV A00 a0.length, .int .u32 a1, .int .i64 r8, .string r9, .int .i64 r10, .int .i64 r11, slcV A22 r12.length, .int .u64 r13, .int .u64 r14, .bool r15, .int .i64 r16, .bool r17, .int .i64 r18, .int .i64 r19, .string r20] 62 (0, 0)), ((b1 + 1), .cells #[.int .i64 0, .int .i64 0, .slice none 0 0] 35 (0, 0)), ((b1 + 2), .cells #[.int .u64 0, .int .u64 0, .bool false, .int .i64 0, .bool false, .int .i64 0, .int .i64 0, .string (⟨#[]⟩ : ByteArray)] 29 (0, 0))]) (fun _ => [(b1 + 2), (b1 + 2), (b1 + 2), (b1 + 2), (b1 + 2), (b1 + 2), (b1 + 2), (b1 + 2), (b1 + 1), (b1 + 1), (b1 + 1)]) (fun _ => by kernel_rfl) (fun _ => ?_)
      obtain rfl := Option.some.inj hM
      exact WP.ret [1, 1, 1, 2, 2, 2, 2, 2, 2, 2, 2] [(b1 + 1), (b1 + 1), (b1 + 1), (b1 + 2), (b1 + 2), (b1 + 2), (b1 + 2), (b1 + 2), (b1 + 2), (b1 + 2), (b1 + 2)] (.tuple #[.agg #[.int .i64 0, .int .i64 0, slcV (SkL.nil (fun _ => ())) ([] : List Int).length], .agg #[.int .u64 0, .int .u64 0, .bool false, .int .i64 0, .bool false, .int .i64 0, .int .i64 0, .string (⟨#[]⟩ : ByteArray)], .int .i64 1]) (by kernel_rfl) (fun w' hw => ⟨(SkL.nil (fun _ => ())), rfl, (hw.pick [] (by kernel_rfl)).less (sub_ret [1] [2] (by kernel_rfl) (by kernel_rfl))⟩)
    · replace hM := cond_f hM c23
      refine WP.skip ?_
      refine WP.leave ?_
      refine WP.run [] [6, 7, 8, 9, 11, 12, 20, 21, 22, 23, 24, 25, 26, 27, 28, 32] (fun _ => [(6, .pointer (some ⟨(b1 + 1), 0, none⟩)), (7, .pointer (some ⟨(b1 + 2), 0, none⟩)), (8, .int .i64 0), (9, .pointer (some ⟨b2, 0, none⟩)), (11, .int .i64 0), (12, .int .i64 1), (20, .agg #[.int .i64 1, .int .i64 2, .int .i64 3, .int .i64 4]), (21, .int .i64 1), (22, .bool true), (23, .int .i64 0), (24, .int .i64 1), (25, .pointer (some ⟨b2, 0, none⟩)), (26, .int .i64 0), (27, .bool r7), (28, .bool (!r7)), (32, .int .i64 1)]) (fun _ => [(b2, .cells #[slcV A00 a0.length, .int .u32 a1, .int .i64 r8, .string r9, .int .i64 r10, .int .i64 r11, slcV A22 r12.length, .int .u64 r13, .int .u64 r14, .bool r15, .int .i64 r16, .bool r17, .int .i64 r18, .int .i64 r19, .string r20] 62 (0, 0)), ((b1 + 1), .cells #[.int .i64 0, .int .i64 0, .slice none 0 0] 35 (0, 0)), ((b1 + 2), .cells #[.int .u64 0, .int .u64 0, .bool false, .int .i64 0, .bool false, .int .i64 0, .int .i64 0, .string (⟨#[]⟩ : ByteArray)] 29 (0, 0))]) (fun _ => []) (fun _ => by kernel_rfl) (fun _ => ?_)
      refine WP.round ?_
      refine WP.seq ?_
      refine WP.run [] [6, 7, 8, 9, 11, 12, 20, 21, 22, 23, 24, 25, 26, 27, 28, 32] (fun _ => [(6, .pointer (some ⟨(b1 + 1), 0, none⟩)), (7, .pointer (some ⟨(b1 + 2), 0, none⟩)), (8, .int .i64 0), (9, .pointer (some ⟨b2, 0, none⟩)), (11, .int .i64 0), (12, .int .i64 1), (20, .agg #[.int .i64 1, .int .i64 2, .int .i64 3, .int .i64 4]), (21, .int .i64 1), (22, .bool true), (23, .int .i64 0), (24, .int .i64 1), (25, .pointer (some ⟨b2, 0, none⟩)), (26, .int .i64 0), (27, .bool r7), (28, .bool (!r7)), (32, .int .i64 1)]) (fun _ => [(b2, .cells #[slcV A00 a0.length, .int .u32 a1, .int .i64 r8, .string r9, .int .i64 r10, .int .i64 r11, slcV A22 r12.length, .int .u64 r13, .int .u64 r14, .bool r15, .int .i64 r16, .bool r17, .int .i64 r18, .int .i64 r19, .string r20] 62 (0, 0)), ((b1 + 1), .cells #[.int .i64 0, .int .i64 0, .slice none 0 0] 35 (0, 0)), ((b1 + 2), .cells #[.int .u64 0, .int .u64 0, .bool false, .int .i64 0, .bool false, .int .i64 0, .int .i64 0, .string (⟨#[]⟩ : ByteArray)] 29 (0, 0))]) (fun _ => []) (fun _ => by kernel_rfl) (fun _ => ?_)
      refine WP.seq ?_
      refine WP.yes rfl rfl ?_
      refine WP.skip ?_
      refine WP.seq ?_
      refine WP.block ?_
      refine WP.seq ?_
      refine WP.run [] [6, 7, 8, 9, 11, 12, 20, 21, 22, 23, 24, 25, 26, 27, 28, 32] (fun _ => [(6, .pointer (some ⟨(b1 + 1), 0, none⟩)), (7, .pointer (some ⟨(b1 + 2), 0, none⟩)), (8, .int .i64 0), (9, .pointer (some ⟨b2, 0, none⟩)), (11, .int .i64 1), (12, .int .i64 2), (20, .agg #[.int .i64 1, .int .i64 2, .int .i64 3, .int .i64 4]), (21, .int .i64 1), (22, .bool true), (23, .int .i64 1), (24, .int .i64 2), (25, .pointer (some ⟨b2, 0, none⟩)), (26, .int .i64 0), (27, .bool r7), (28, .bool (!r7)), (32, .int .i64 1)]) (fun _ => [(b2, .cells #[slcV A00 a0.length, .int .u32 a1, .int .i64 r8, .string r9, .int .i64 r10, .int .i64 r11, slcV A22 r12.length, .int .u64 r13, .int .u64 r14, .bool r15, .int .i64 r16, .bool r17, .int .i64 r18, .int .i64 r19, .string r20] 62 (0, 0)), ((b1 + 1), .cells #[.int .i64 0, .int .i64 0, .slice none 0 0] 35 (0, 0)), ((b1 + 2), .cells #[.int .u64 0, .int .u64 0, .bool false, .int .i64 0, .bool false, .int .i64 0, .int .i64 0, .string (⟨#[]⟩ : ByteArray)] 29 (0, 0))]) (fun _ => []) (fun _ => by kernel_rfl) (fun _ => ?_)
      refine WP.seq ?_
      refine WP.region ?_
      refine WL.run 2 [] [6, 7, 8, 9, 11, 12, 20, 21, 22, 23, 24, 25, 26, 27, 28, 32] (fun _ => [(6, .pointer (some ⟨(b1 + 1), 0, none⟩)), (7, .pointer (some ⟨(b1 + 2), 0, none⟩)), (8, .int .i64 0), (9, .pointer (some ⟨b2, 0, none⟩)), (11, .int .i64 1), (12, .int .i64 2), (20, .agg #[.int .i64 1, .int .i64 2, .int .i64 3, .int .i64 4]), (21, .int .i64 1), (22, .bool true), (23, .int .i64 1), (24, .int .i64 2), (25, .pointer (some ⟨b2, 0, none⟩)), (26, .int .i64 1), (27, .bool r7), (28, .bool (!r7)), (32, .int .i64 1)]) (fun _ => [(b2, .cells #[slcV A00 a0.length, .int .u32 a1, .int .i64 r8, .string r9, .int .i64 r10, .int .i64 r11, slcV A22 r12.length, .int .u64 r13, .int .u64 r14, .bool r15, .int .i64 r16, .bool r17, .int .i64 r18, .int .i64 r19, .string r20] 62 (0, 0)), ((b1 + 1), .cells #[.int .i64 0, .int .i64 0, .slice none 0 0] 35 (0, 0)), ((b1 + 2), .cells #[.int .u64 0, .int .u64 0, .bool false, .int .i64 0, .bool false, .int .i64 0, .int .i64 0, .string (⟨#[]⟩ : ByteArray)] 29 (0, 0))]) (fun _ => []) (fun _ => by kernel_rfl) (fun _ => ?_)
      obtain ⟨⟨r24, r25, r26, r27, r28, r29, r30, r31, r32, r33, r34, r35, r36, r37⟩, h38, hM⟩ := bind_some hM
      dsimp only at hM
      refine WL.callX (F0 := [Row 3 api_Seg.encS api_Seg.inK A00 a0, Row 1 (pl (encI .u32)) noK A22 r12]) [] [] [true, false, false] (fun _ => _) [2, 0] (by kernel_rfl) (tunnel_opener_step_calls k b2 A00 A22 a0 a1 r8 r9 r10 r11 r12 r13 r14 r15 r16 r17 r18 r19 r20 1 _ h38) rfl rfl (by kernel_rfl) (by kernel_rfl) (fun _ => rfl) (fun A39 => ?_)
      refine WL.run 1 [] [6, 7, 8, 9, 11, 12, 20, 21, 22, 23, 24, 25, 26, 27, 28, 32] (fun _ => [(6, .pointer (some ⟨(b1 + 1), 0, none⟩)), (7, .pointer (some ⟨(b1 + 2), 0, none⟩)), (8, .int .i64 0), (9, .pointer (some ⟨b2, 0, none⟩)), (11, .int .i64 1), (12, .int .i64 2), (20, .agg #[.int .i64 1, .int .i64 2, .int .i64 3, .int .i64 4]), (21, .int .i64 1), (22, .bool true), (23, .int .i64 1), (24, .int .i64 2), (25, .pointer (some ⟨b2, 0, none⟩)), (26, .int .i64 1), (27, .bool r24), (28, .bool (!r24)), (32, .int .i64 1)]) (fun _ => [(b2, .cells #[slcV A00 a0.length, .int .u32 a1, .int .i64 r25, .string r26, .int .i64 r27, .int .i64 r28, slcV A39 r29.length, .int .u64 r30, .int .u64 r31, .bool r32, .int .i64 r33, .bool r34, .int .i64 r35, .int .i64 r36, .string r37] 62 (0, 0)), ((b1 + 1), .cells #[.int .i64 0, .int .i64 0, .slice none 0 0] 35 (0, 0)), ((b1 + 2), .cells #[.int .u64 0, .int .u64 0, .bool false, .int .i64 0, .bool false, .int .i64 0, .int .i64 0, .string (⟨#[]⟩ : ByteArray)] 29 (0, 0))]) (fun _ => []) (fun _ => by kernel_rfl) (fun _ => ?_)
      refine WP.done ?_
      refine WP.cond (!r24) rfl rfl (fun c40 => ?_) (fun c40 => ?_)
      · replace hM := cond_t hM c40
        refine WP.seq ?_
        refine WP.run [1, 1, 1, 2, 2, 2, 2, 2, 2, 2, 2] [6, 7, 8, 9, 11, 12, 20, 21, 22, 23, 24, 25, 26, 27, 28, 29, 30, 31, 32] (fun _ => [(6, .pointer (some ⟨(b1 + 1), 0, none⟩)), (7, .pointer (some ⟨(b1 + 2), 0, none⟩)), (8, .int .i64 2), (9, .pointer (some ⟨b2, 0, none⟩)), (11, .int .i64 1), (12, .int .i64 2), (20, .agg #[.int .i64 1, .int .i64 2, .int .i64 3, .int .i64 4]), (21, .int .i64 1), (22, .bool true), (23, .int .i64 1), (24, .int .i64 2), (25, .pointer (some ⟨b2, 0, none⟩)), (26, .int .i64 1), (27, .bool r24), (28, .bool (!r24)), (29, .agg #[.int .i64 0, .int .i64 0, .slice none 0 0]), (30, .agg #[.int .u64 0, .int .u64 0, .bool false, .int .i64 0, .bool false, .int .i64 0, .int .i64 0, .string (⟨#[]⟩ : ByteArray)]), (31, .int .i64 2), (32, .int .i64 1)]) (fun _ => [(b2, .cells #[slcV A00 a0.length, .int .u32 a1, .int .i64 r25, .string r26, .int .i64 r27, .int .i64 r28, slcV A39 r29.length, .int .u64 r30, .int .u64 r31, .bool r32, .int .i64 r33, .bool r34, .int .i64 r35, .int .i64 r36, .string r37] 62 (0, 0)), ((b1 + 1), .cells #[.int .i64 0, .int .i64 0, .slice none 0 0] 35 (0, 0)), ((b1 + 2), .cells #[.int .u64 0, .int .u64 0, .bool false, .int .i64 0, .bool false, .int .i64 0, .int .i64 0, .string (⟨#[]⟩ : ByteArray)] 29 (0, 0))]) (fun _ => [(b1 + 2), (b1 + 2), (b1 + 2), (b1 + 2), (b1 + 2), (b1 + 2), (b1 + 2), (b1 + 2), (b1 + 1), (b1 + 1), (b1 + 1)]) (fun _ => by kernel_rfl) (fun _ => ?_)
        obtain rfl := Option.some.inj hM
        exact WP.ret [1, 1, 1, 2, 2, 2, 2, 2, 2, 2, 2] [(b1 + 1), (b1 + 1), (b1 + 1), (b1 + 2), (b1 + 2), (b1 + 2), (b1 + 2), (b1 + 2), (b1 + 2), (b1 + 2), (b1 + 2)] (.tuple #[.agg #[.int .i64 0, .int .i64 0, slcV (SkL.nil (fun _ => ())) ([] : List Int).length], .agg #[.int .u64 0, .int .u64 0, .bool false, .int .i64 0, .bool false, .int .i64 0, .int .i64 0, .string (⟨#[]⟩ : ByteArray)], .int .i64 2]) (by kernel_rfl) (fun w' hw => ⟨(SkL.nil (fun _ => ())), rfl, (hw.pick [] (by kernel_rfl)).less (sub_ret [2] [3] (by kernel_rfl) (by kernel_rfl))⟩)
      · replace hM := cond_f hM c40
        refine WP.skip ?_
        refine WP.leave ?_
        refine WP.run [] [6, 7, 8, 9, 11, 12, 20, 21, 22, 23, 24, 25, 26, 27, 28, 32] (fun _ => [(6, .pointer (some ⟨(b1 + 1), 0, none⟩)), (7, .pointer (some ⟨(b1 + 2), 0, none⟩)), (8, .int .i64 0), (9, .pointer (some ⟨b2, 0, none⟩)), (11, .int .i64 1), (12, .int .i64 2), (20, .agg #[.int .i64 1, .int .i64 2, .int .i64 3, .int .i64 4]), (21, .int .i64 2), (22, .bool true), (23, .int .i64 1), (24, .int .i64 2), (25, .pointer (some ⟨b2, 0, none⟩)), (26, .int .i64 1), (27, .bool r24), (28, .bool (!r24)), (32, .int .i64 2)]) (fun _ => [(b2, .cells #[slcV A00 a0.length, .int .u32 a1, .int .i64 r25, .string r26, .int .i64 r27, .int .i64 r28, slcV A39 r29.length, .int .u64 r30, .int .u64 r31, .bool r32, .int .i64 r33, .bool r34, .int .i64 r35, .int .i64 r36, .string r37] 62 (0, 0)), ((b1 + 1), .cells #[.int .i64 0, .int .i64 0, .slice none 0 0] 35 (0, 0)), ((b1 + 2), .cells #[.int .u64 0, .int .u64 0, .bool false, .int .i64 0, .bool false, .int .i64 0, .int .i64 0, .string (⟨#[]⟩ : ByteArray)] 29 (0, 0))]) (fun _ => []) (fun _ => by kernel_rfl) (fun _ => ?_)
        refine WP.round ?_
        refine WP.seq ?_
        refine WP.run [] [6, 7, 8, 9, 11, 12, 20, 21, 22, 23, 24, 25, 26, 27, 28, 32] (fun _ => [(6, .pointer (some ⟨(b1 + 1), 0, none⟩)), (7, .pointer (some ⟨(b1 + 2), 0, none⟩)), (8, .int .i64 0), (9, .pointer (some ⟨b2, 0, none⟩)), (11, .int .i64 1), (12, .int .i64 2), (20, .agg #[.int .i64 1, .int .i64 2, .int .i64 3, .int .i64 4]), (21, .int .i64 2), (22, .bool true), (23, .int .i64 1), (24, .int .i64 2), (25, .pointer (some ⟨b2, 0, none⟩)), (26, .int .i64 1), (27, .bool r24), (28, .bool (!r24)), (32, .int .i64 2)]) (fun _ => [(b2, .cells #[slcV A00 a0.length, .int .u32 a1, .int .i64 r25, .string r26, .int .i64 r27, .int .i64 r28, slcV A39 r29.length, .int .u64 r30, .int .u64 r31, .bool r32, .int .i64 r33, .bool r34, .int .i64 r35, .int .i64 r36, .string r37] 62 (0, 0)), ((b1 + 1), .cells #[.int .i64 0, .int .i64 0, .slice none 0 0] 35 (0, 0)), ((b1 + 2), .cells #[.int .u64 0, .int .u64 0, .bool false, .int .i64 0, .bool false, .int .i64 0, .int .i64 0, .string (⟨#[]⟩ : ByteArray)] 29 (0, 0))]) (fun _ => []) (fun _ => by kernel_rfl) (fun _ => ?_)
        refine WP.seq ?_
        refine WP.yes rfl rfl ?_
        refine WP.skip ?_
        refine WP.seq ?_
        refine WP.block ?_
        refine WP.seq ?_
        refine WP.run [] [6, 7, 8, 9, 11, 12, 20, 21, 22, 23, 24, 25, 26, 27, 28, 32] (fun _ => [(6, .pointer (some ⟨(b1 + 1), 0, none⟩)), (7, .pointer (some ⟨(b1 + 2), 0, none⟩)), (8, .int .i64 0), (9, .pointer (some ⟨b2, 0, none⟩)), (11, .int .i64 2), (12, .int .i64 3), (20, .agg #[.int .i64 1, .int .i64 2, .int .i64 3, .int .i64 4]), (21, .int .i64 2), (22, .bool true), (23, .int .i64 2), (24, .int .i64 3), (25, .pointer (some ⟨b2, 0, none⟩)), (26, .int .i64 1), (27, .bool r24), (28, .bool (!r24)), (32, .int .i64 2)]) (fun _ => [(b2, .cells #[slcV A00 a0.length, .int .u32 a1, .int .i64 r25, .string r26, .int .i64 r27, .int .i64 r28, slcV A39 r29.length, .int .u64 r30, .int .u64 r31, .bool r32, .int .i64 r33, .bool r34, .int .i64 r35, .int .i64 r36, .string r37] 62 (0, 0)), ((b1 + 1), .cells #[.int .i64 0, .int .i64 0, .slice none 0 0] 35 (0, 0)), ((b1 + 2), .cells #[.int .u64 0, .int .u64 0, .bool false, .int .i64 0, .bool false, .int .i64 0, .int .i64 0, .string (⟨#[]⟩ : ByteArray)] 29 (0, 0))]) (fun _ => []) (fun _ => by kernel_rfl) (fun _ => ?_)
        refine WP.seq ?_
        refine WP.region ?_
        refine WL.run 2 [] [6, 7, 8, 9, 11, 12, 20, 21, 22, 23, 24, 25, 26, 27, 28, 32] (fun _ => [(6, .pointer (some ⟨(b1 + 1), 0, none⟩)), (7, .pointer (some ⟨(b1 + 2), 0, none⟩)), (8, .int .i64 0), (9, .pointer (some ⟨b2, 0, none⟩)), (11, .int .i64 2), (12, .int .i64 3), (20, .agg #[.int .i64 1, .int .i64 2, .int .i64 3, .int .i64 4]), (21, .int .i64 2), (22, .bool true), (23, .int .i64 2), (24, .int .i64 3), (25, .pointer (some ⟨b2, 0, none⟩)), (26, .int .i64 2), (27, .bool r24), (28, .bool (!r24)), (32, .int .i64 2)]) (fun _ => [(b2, .cells #[slcV A00 a0.length, .int .u32 a1, .int .i64 r25, .string r26, .int .i64 r27, .int .i64 r28, slcV A39 r29.length, .int .u64 r30, .int .u64 r31, .bool r32, .int .i64 r33, .bool r34, .int .i64 r35, .int .i64 r36, .string r37] 62 (0, 0)), ((b1 + 1), .cells #[.int .i64 0, .int .i64 0, .slice none 0 0] 35 (0, 0)), ((b1 + 2), .cells #[.int .u64 0, .int .u64 0, .bool false, .int .i64 0, .bool false, .int .i64 0, .int .i64 0, .string (⟨#[]⟩ : ByteArray)] 29 (0, 0))]) (fun _ => []) (fun _ => by kernel_rfl) (fun _ => ?_)
        obtain ⟨⟨r41, r42, r43, r44, r45, r46, r47, r48, r49, r50, r51, r52, r53, r54⟩, h55, hM⟩ := bind_some hM
        dsimp only at hM
        refine WL.callX (F0 := [Row 3 api_Seg.encS api_Seg.inK A00 a0, Row 1 (pl (encI .u32)) noK A39 r29]) [] [] [true, false, false] (fun _ => _) [3, 0] (by kernel_rfl) (tunnel_opener_step_calls k b2 A00 A39 a0 a1 r25 r26 r27 r28 r29 r30 r31 r32 r33 r34 r35 r36 r37 2 _ h55) rfl rfl (by kernel_rfl) (by kernel_rfl) (fun _ => rfl) (fun A56 => ?_)
        refine WL.run 1 [] [6, 7, 8, 9, 11, 12, 20, 21, 22, 23, 24, 25, 26, 27, 28, 32] (fun _ => [(6, .pointer (some ⟨(b1 + 1), 0, none⟩)), (7, .pointer (some ⟨(b1 + 2), 0, none⟩)), (8, .int .i64 0), (9, .pointer (some ⟨b2, 0, none⟩)), (11, .int .i64 2), (12, .int .i64 3), (20, .agg #[.int .i64 1, .int .i64 2, .int .i64 3, .int .i64 4]), (21, .int .i64 2), (22, .bool true), (23, .int .i64 2), (24, .int .i64 3), (25, .pointer (some ⟨b2, 0, none⟩)), (26, .int .i64 2), (27, .bool r41), (28, .bool (!r41)), (32, .int .i64 2)]) (fun _ => [(b2, .cells #[slcV A00 a0.length, .int .u32 a1, .int .i64 r42, .string r43, .int .i64 r44, .int .i64 r45, slcV A56 r46.length, .int .u64 r47, .int .u64 r48, .bool r49, .int .i64 r50, .bool r51, .int .i64 r52, .int .i64 r53, .string r54] 62 (0, 0)), ((b1 + 1), .cells #[.int .i64 0, .int .i64 0, .slice none 0 0] 35 (0, 0)), ((b1 + 2), .cells #[.int .u64 0, .int .u64 0, .bool false, .int .i64 0, .bool false, .int .i64 0, .int .i64 0, .string (⟨#[]⟩ : ByteArray)] 29 (0, 0))]) (fun _ => []) (fun _ => by kernel_rfl) (fun _ => ?_)
        refine WP.done ?_
        refine WP.cond (!r41) rfl rfl (fun c57 => ?_) (fun c57 => ?_)
        · replace hM := cond_t hM c57
          refine WP.seq ?_
          refine WP.run [1, 1, 1, 2, 2, 2, 2, 2, 2, 2, 2] [6, 7, 8, 9, 11, 12, 20, 21, 22, 23, 24, 25, 26, 27, 28, 29, 30, 31, 32] (fun _ => [(6, .pointer (some ⟨(b1 + 1), 0, none⟩)), (7, .pointer (some ⟨(b1 + 2), 0, none⟩)), (8, .int .i64 3), (9, .pointer (some ⟨b2, 0, none⟩)), (11, .int .i64 2), (12, .int .i64 3), (20, .agg #[.int .i64 1, .int .i64 2, .int .i64 3, .int .i64 4]), (21, .int .i64 2), (22, .bool true), (23, .int .i64 2), (24, .int .i64 3), (25, .pointer (some ⟨b2, 0, none⟩)), (26, .int .i64 2), (27, .bool r41), (28, .bool (!r41)), (29, .agg #[.int .i64 0, .int .i64 0, .slice none 0 0]), (30, .agg #[.int .u64 0, .int .u64 0, .bool false, .int .i64 0, .bool false, .int .i64 0, .int .i64 0, .string (⟨#[]⟩ : ByteArray)]), (31, .int .i64 3), (32, .int .i64 2)]) (fun _ => [(b2, .cells #[slcV A00 a0.length, .int .u32 a1, .int .i64 r42, .string r43, .int .i64 r44, .int .i64 r45, slcV A56 r46.length, .int .u64 r47, .int .u64 r48, .bool r49, .int .i64 r50, .bool r51, .int .i64 r52, .int .i64 r53, .string r54] 62 (0, 0)), ((b1 + 1), .cells #[.int .i64 0, .int .i64 0, .slice none 0 0] 35 (0, 0)), ((b1 + 2), .cells #[.int .u64 0, .int .u64 0, .bool false, .int .i64 0, .bool false, .int .i64 0, .int .i64 0, .string (⟨#[]⟩ : ByteArray)] 29 (0, 0))]) (fun _ => [(b1 + 2), (b1 + 2), (b1 + 2), (b1 + 2), (b1 + 2), (b1 + 2), (b1 + 2), (b1 + 2), (b1 + 1), (b1 + 1), (b1 + 1)]) (fun _ => by kernel_rfl) (fun _ => ?_)
          obtain rfl := Option.some.inj hM
          exact WP.ret [1, 1, 1, 2, 2, 2, 2, 2, 2, 2, 2] [(b1 + 1), (b1 + 1), (b1 + 1), (b1 + 2), (b1 + 2), (b1 + 2), (b1 + 2), (b1 + 2), (b1 + 2), (b1 + 2), (b1 + 2)] (.tuple #[.agg #[.int .i64 0, .int .i64 0, slcV (SkL.nil (fun _ => ())) ([] : List Int).length], .agg #[.int .u64 0, .int .u64 0, .bool false, .int .i64 0, .bool false, .int .i64 0, .int .i64 0, .string (⟨#[]⟩ : ByteArray)], .int .i64 3]) (by kernel_rfl) (fun w' hw => ⟨(SkL.nil (fun _ => ())), rfl, (hw.pick [] (by kernel_rfl)).less (sub_ret [3] [4] (by kernel_rfl) (by kernel_rfl))⟩)
        · replace hM := cond_f hM c57
          refine WP.skip ?_
          refine WP.leave ?_
          refine WP.run [] [6, 7, 8, 9, 11, 12, 20, 21, 22, 23, 24, 25, 26, 27, 28, 32] (fun _ => [(6, .pointer (some ⟨(b1 + 1), 0, none⟩)), (7, .pointer (some ⟨(b1 + 2), 0, none⟩)), (8, .int .i64 0), (9, .pointer (some ⟨b2, 0, none⟩)), (11, .int .i64 2), (12, .int .i64 3), (20, .agg #[.int .i64 1, .int .i64 2, .int .i64 3, .int .i64 4]), (21, .int .i64 3), (22, .bool true), (23, .int .i64 2), (24, .int .i64 3), (25, .pointer (some ⟨b2, 0, none⟩)), (26, .int .i64 2), (27, .bool r41), (28, .bool (!r41)), (32, .int .i64 3)]) (fun _ => [(b2, .cells #[slcV A00 a0.length, .int .u32 a1, .int .i64 r42, .string r43, .int .i64 r44, .int .i64 r45, slcV A56 r46.length, .int .u64 r47, .int .u64 r48, .bool r49, .int .i64 r50, .bool r51, .int .i64 r52, .int .i64 r53, .string r54] 62 (0, 0)), ((b1 + 1), .cells #[.int .i64 0, .int .i64 0, .slice none 0 0] 35 (0, 0)), ((b1 + 2), .cells #[.int .u64 0, .int .u64 0, .bool false, .int .i64 0, .bool false, .int .i64 0, .int .i64 0, .string (⟨#[]⟩ : ByteArray)] 29 (0, 0))]) (fun _ => []) (fun _ => by kernel_rfl) (fun _ => ?_)
          refine WP.round ?_
          refine WP.seq ?_
          refine WP.run [] [6, 7, 8, 9, 11, 12, 20, 21, 22, 23, 24, 25, 26, 27, 28, 32] (fun _ => [(6, .pointer (some ⟨(b1 + 1), 0, none⟩)), (7, .pointer (some ⟨(b1 + 2), 0, none⟩)), (8, .int .i64 0), (9, .pointer (some ⟨b2, 0, none⟩)), (11, .int .i64 2), (12, .int .i64 3), (20, .agg #[.int .i64 1, .int .i64 2, .int .i64 3, .int .i64 4]), (21, .int .i64 3), (22, .bool true), (23, .int .i64 2), (24, .int .i64 3), (25, .pointer (some ⟨b2, 0, none⟩)), (26, .int .i64 2), (27, .bool r41), (28, .bool (!r41)), (32, .int .i64 3)]) (fun _ => [(b2, .cells #[slcV A00 a0.length, .int .u32 a1, .int .i64 r42, .string r43, .int .i64 r44, .int .i64 r45, slcV A56 r46.length, .int .u64 r47, .int .u64 r48, .bool r49, .int .i64 r50, .bool r51, .int .i64 r52, .int .i64 r53, .string r54] 62 (0, 0)), ((b1 + 1), .cells #[.int .i64 0, .int .i64 0, .slice none 0 0] 35 (0, 0)), ((b1 + 2), .cells #[.int .u64 0, .int .u64 0, .bool false, .int .i64 0, .bool false, .int .i64 0, .int .i64 0, .string (⟨#[]⟩ : ByteArray)] 29 (0, 0))]) (fun _ => []) (fun _ => by kernel_rfl) (fun _ => ?_)
          refine WP.seq ?_
          refine WP.yes rfl rfl ?_
          refine WP.skip ?_
          refine WP.seq ?_
          refine WP.block ?_
          refine WP.seq ?_
          refine WP.run [] [6, 7, 8, 9, 11, 12, 20, 21, 22, 23, 24, 25, 26, 27, 28, 32] (fun _ => [(6, .pointer (some ⟨(b1 + 1), 0, none⟩)), (7, .pointer (some ⟨(b1 + 2), 0, none⟩)), (8, .int .i64 0), (9, .pointer (some ⟨b2, 0, none⟩)), (11, .int .i64 3), (12, .int .i64 4), (20, .agg #[.int .i64 1, .int .i64 2, .int .i64 3, .int .i64 4]), (21, .int .i64 3), (22, .bool true), (23, .int .i64 3), (24, .int .i64 4), (25, .pointer (some ⟨b2, 0, none⟩)), (26, .int .i64 2), (27, .bool r41), (28, .bool (!r41)), (32, .int .i64 3)]) (fun _ => [(b2, .cells #[slcV A00 a0.length, .int .u32 a1, .int .i64 r42, .string r43, .int .i64 r44, .int .i64 r45, slcV A56 r46.length, .int .u64 r47, .int .u64 r48, .bool r49, .int .i64 r50, .bool r51, .int .i64 r52, .int .i64 r53, .string r54] 62 (0, 0)), ((b1 + 1), .cells #[.int .i64 0, .int .i64 0, .slice none 0 0] 35 (0, 0)), ((b1 + 2), .cells #[.int .u64 0, .int .u64 0, .bool false, .int .i64 0, .bool false, .int .i64 0, .int .i64 0, .string (⟨#[]⟩ : ByteArray)] 29 (0, 0))]) (fun _ => []) (fun _ => by kernel_rfl) (fun _ => ?_)
          refine WP.seq ?_
          refine WP.region ?_
          refine WL.run 2 [] [6, 7, 8, 9, 11, 12, 20, 21, 22, 23, 24, 25, 26, 27, 28, 32] (fun _ => [(6, .pointer (some ⟨(b1 + 1), 0, none⟩)), (7, .pointer (some ⟨(b1 + 2), 0, none⟩)), (8, .int .i64 0), (9, .pointer (some ⟨b2, 0, none⟩)), (11, .int .i64 3), (12, .int .i64 4), (20, .agg #[.int .i64 1, .int .i64 2, .int .i64 3, .int .i64 4]), (21, .int .i64 3), (22, .bool true), (23, .int .i64 3), (24, .int .i64 4), (25, .pointer (some ⟨b2, 0, none⟩)), (26, .int .i64 3), (27, .bool r41), (28, .bool (!r41)), (32, .int .i64 3)]) (fun _ => [(b2, .cells #[slcV A00 a0.length, .int .u32 a1, .int .i64 r42, .string r43, .int .i64 r44, .int .i64 r45, slcV A56 r46.length, .int .u64 r47, .int .u64 r48, .bool r49, .int .i64 r50, .bool r51, .int .i64 r52, .int .i64 r53, .string r54] 62 (0, 0)), ((b1 + 1), .cells #[.int .i64 0, .int .i64 0, .slice none 0 0] 35 (0, 0)), ((b1 + 2), .cells #[.int .u64 0, .int .u64 0, .bool false, .int .i64 0, .bool false, .int .i64 0, .int .i64 0, .string (⟨#[]⟩ : ByteArray)] 29 (0, 0))]) (fun _ => []) (fun _ => by kernel_rfl) (fun _ => ?_)
          obtain ⟨⟨r58, r59, r60, r61, r62, r63, r64, r65, r66, r67, r68, r69, r70, r71⟩, h72, hM⟩ := bind_some hM
          dsimp only at hM
          refine WL.callX (F0 := [Row 3 api_Seg.encS api_Seg.inK A00 a0, Row 1 (pl (encI .u32)) noK A56 r46]) [] [] [true, false, false] (fun _ => _) [4, 0] (by kernel_rfl) (tunnel_opener_step_calls k b2 A00 A56 a0 a1 r42 r43 r44 r45 r46 r47 r48 r49 r50 r51 r52 r53 r54 3 _ h72) rfl rfl (by kernel_rfl) (by kernel_rfl) (fun _ => rfl) (fun A73 => ?_)
          refine WL.run 1 [] [6, 7, 8, 9, 11, 12, 20, 21, 22, 23, 24, 25, 26, 27, 28, 32] (fun _ => [(6, .pointer (some ⟨(b1 + 1), 0, none⟩)), (7, .pointer (some ⟨(b1 + 2), 0, none⟩)), (8, .int .i64 0), (9, .pointer (some ⟨b2, 0, none⟩)), (11, .int .i64 3), (12, .int .i64 4), (20, .agg #[.int .i64 1, .int .i64 2, .int .i64 3, .int .i64 4]), (21, .int .i64 3), (22, .bool true), (23, .int .i64 3), (24, .int .i64 4), (25, .pointer (some ⟨b2, 0, none⟩)), (26, .int .i64 3), (27, .bool r58), (28, .bool (!r58)), (32, .int .i64 3)]) (fun _ => [(b2, .cells #[slcV A00 a0.length, .int .u32 a1, .int .i64 r59, .string r60, .int .i64 r61, .int .i64 r62, slcV A73 r63.length, .int .u64 r64, .int .u64 r65, .bool r66, .int .i64 r67, .bool r68, .int .i64 r69, .int .i64 r70, .string r71] 62 (0, 0)), ((b1 + 1), .cells #[.int .i64 0, .int .i64 0, .slice none 0 0] 35 (0, 0)), ((b1 + 2), .cells #[.int .u64 0, .int .u64 0, .bool false, .int .i64 0, .bool false, .int .i64 0, .int .i64 0, .string (⟨#[]⟩ : ByteArray)] 29 (0, 0))]) (fun _ => []) (fun _ => by kernel_rfl) (fun _ => ?_)
          refine WP.done ?_
          refine WP.cond (!r58) rfl rfl (fun c74 => ?_) (fun c74 => ?_)
          · replace hM := cond_t hM c74
            refine WP.seq ?_
            refine WP.run [1, 1, 1, 2, 2, 2, 2, 2, 2, 2, 2] [6, 7, 8, 9, 11, 12, 20, 21, 22, 23, 24, 25, 26, 27, 28, 29, 30, 31, 32] (fun _ => [(6, .pointer (some ⟨(b1 + 1), 0, none⟩)), (7, .pointer (some ⟨(b1 + 2), 0, none⟩)), (8, .int .i64 4), (9, .pointer (some ⟨b2, 0, none⟩)), (11, .int .i64 3), (12, .int .i64 4), (20, .agg #[.int .i64 1, .int .i64 2, .int .i64 3, .int .i64 4]), (21, .int .i64 3), (22, .bool true), (23, .int .i64 3), (24, .int .i64 4), (25, .pointer (some ⟨b2, 0, none⟩)), (26, .int .i64 3), (27, .bool r58), (28, .bool (!r58)), (29, .agg #[.int .i64 0, .int .i64 0, .slice none 0 0]), (30, .agg #[.int .u64 0, .int .u64 0, .bool false, .int .i64 0, .bool false, .int .i64 0, .int .i64 0, .string (⟨#[]⟩ : ByteArray)]), (31, .int .i64 4), (32, .int .i64 3)]) (fun _ => [(b2, .cells #[slcV A00 a0.length, .int .u32 a1, .int .i64 r59, .string r60, .int .i64 r61, .int .i64 r62, slcV A73 r63.length, .int .u64 r64, .int .u64 r65, .bool r66, .int .i64 r67, .bool r68, .int .i64 r69, .int .i64 r70, .string r71] 62 (0, 0)), ((b1 + 1), .cells #[.int .i64 0, .int .i64 0, .slice none 0 0] 35 (0, 0)), ((b1 + 2), .cells #[.int .u64 0, .int .u64 0, .bool false, .int .i64 0, .bool false, .int .i64 0, .int .i64 0, .string (⟨#[]⟩ : ByteArray)] 29 (0, 0))]) (fun _ => [(b1 + 2), (b1 + 2), (b1 + 2), (b1 + 2), (b1 + 2), (b1 + 2), (b1 + 2), (b1 + 2), (b1 + 1), (b1 + 1), (b1 + 1)]) (fun _ => by kernel_rfl) (fun _ => ?_)
            obtain rfl := Option.some.inj hM
            exact WP.ret [1, 1, 1, 2, 2, 2, 2, 2, 2, 2, 2] [(b1 + 1), (b1 + 1), (b1 + 1), (b1 + 2), (b1 + 2), (b1 + 2), (b1 + 2), (b1 + 2), (b1 + 2), (b1 + 2), (b1 + 2)] (.tuple #[.agg #[.int .i64 0, .int .i64 0, slcV (SkL.nil (fun _ => ())) ([] : List Int).length], .agg #[.int .u64 0, .int .u64 0, .bool false, .int .i64 0, .bool false, .int .i64 0, .int .i64 0, .string (⟨#[]⟩ : ByteArray)], .int .i64 4]) (by kernel_rfl) (fun w' hw => ⟨(SkL.nil (fun _ => ())), rfl, (hw.pick [] (by kernel_rfl)).less (sub_ret [4] [5] (by kernel_rfl) (by kernel_rfl))⟩)
          · replace hM := cond_f hM c74
            refine WP.skip ?_
            refine WP.leave ?_
            refine WP.run [] [6, 7, 8, 9, 11, 12, 20, 21, 22, 23, 24, 25, 26, 27, 28, 32] (fun _ => [(6, .pointer (some ⟨(b1 + 1), 0, none⟩)), (7, .pointer (some ⟨(b1 + 2), 0, none⟩)), (8, .int .i64 0), (9, .pointer (some ⟨b2, 0, none⟩)), (11, .int .i64 3), (12, .int .i64 4), (20, .agg #[.int .i64 1, .int .i64 2, .int .i64 3, .int .i64 4]), (21, .int .i64 4), (22, .bool true), (23, .int .i64 3), (24, .int .i64 4), (25, .pointer (some ⟨b2, 0, none⟩)), (26, .int .i64 3), (27, .bool r58), (28, .bool (!r58)), (32, .int .i64 4)]) (fun _ => [(b2, .cells #[slcV A00 a0.length, .int .u32 a1, .int .i64 r59, .string r60, .int .i64 r61, .int .i64 r62, slcV A73 r63.length, .int .u64 r64, .int .u64 r65, .bool r66, .int .i64 r67, .bool r68, .int .i64 r69, .int .i64 r70, .string r71] 62 (0, 0)), ((b1 + 1), .cells #[.int .i64 0, .int .i64 0, .slice none 0 0] 35 (0, 0)), ((b1 + 2), .cells #[.int .u64 0, .int .u64 0, .bool false, .int .i64 0, .bool false, .int .i64 0, .int .i64 0, .string (⟨#[]⟩ : ByteArray)] 29 (0, 0))]) (fun _ => []) (fun _ => by kernel_rfl) (fun _ => ?_)
            refine WP.round ?_
            refine WP.seq ?_
            refine WP.run [] [6, 7, 8, 9, 11, 12, 20, 21, 22, 23, 24, 25, 26, 27, 28, 32] (fun _ => [(6, .pointer (some ⟨(b1 + 1), 0, none⟩)), (7, .pointer (some ⟨(b1 + 2), 0, none⟩)), (8, .int .i64 0), (9, .pointer (some ⟨b2, 0, none⟩)), (11, .int .i64 3), (12, .int .i64 4), (20, .agg #[.int .i64 1, .int .i64 2, .int .i64 3, .int .i64 4]), (21, .int .i64 4), (22, .bool false), (23, .int .i64 3), (24, .int .i64 4), (25, .pointer (some ⟨b2, 0, none⟩)), (26, .int .i64 3), (27, .bool r58), (28, .bool (!r58)), (32, .int .i64 4)]) (fun _ => [(b2, .cells #[slcV A00 a0.length, .int .u32 a1, .int .i64 r59, .string r60, .int .i64 r61, .int .i64 r62, slcV A73 r63.length, .int .u64 r64, .int .u64 r65, .bool r66, .int .i64 r67, .bool r68, .int .i64 r69, .int .i64 r70, .string r71] 62 (0, 0)), ((b1 + 1), .cells #[.int .i64 0, .int .i64 0, .slice none 0 0] 35 (0, 0)), ((b1 + 2), .cells #[.int .u64 0, .int .u64 0, .bool false, .int .i64 0, .bool false, .int .i64 0, .int .i64 0, .string (⟨#[]⟩ : ByteArray)] 29 (0, 0))]) (fun _ => []) (fun _ => by kernel_rfl) (fun _ => ?_)
            refine WP.seq ?_
            refine WP.no rfl rfl ?_
            refine WP.exit rfl ?_
            exact WP.sub [6, 7, 8, 9] (by kernel_rfl) (WP.pick [1, 2, 0] (by kernel_rfl) (by kernel_rfl) (WP.lessF [0, 4, 5] (by kernel_rfl) (K1 (0, r59, r60, r61, r62, r63, A73, r64, r65, r66, r67, r68, r69, r70, r71) hM)))

end Go.Proofs.YtbodofjnfmjbpaaGreatDoor

namespace Go.Proofs.YtbodofjnfmjbpaaGreatDoor
open Go Eng
set_option linter.unusedVariables false
set_option linter.unusedSimpArgs false

/-! ### gangway/gangwaylaw22.five: function 25 -/
def gangwaylaw22_five.f : Option ((List api_Seg)) :=
  some ([(api_Seg.mk 5 1000 ([7, 8] : List Int))] : List api_Seg)

set_option maxRecDepth 100000 in
theorem gangwaylaw22_five_calls (r : (List api_Seg)) (h : gangwaylaw22_five.f = some r) : Does Tryz.prog 25 #[] [] ([] ++ Glob) (fun x : (SkL (SkL Unit)) => slcV x r.length) (fun x => []) (fun _ => []) (fun x => [Row 3 api_Seg.encS api_Seg.inK x r] ++ ([] ++ Glob)) := by
  intro w Z hS
  refine calls_of (args := []) (L := []) (N := 4) (S := Sat w Z [] [] ([] ++ Glob)) Tryz.func25 rfl rfl (Nat.le_of_ble_eq_true rfl) rfl hS ?_
  have hM := h
  clear h hS
  unfold gangwaylaw22_five.f at hM
  refine WP.seq ?_
  refine WP.run [] [0] (fun _ => [(0, .slice none 0 0)]) (fun _ => []) (fun _ => []) (fun _ => by kernel_rfl) (fun _ => ?_)
  refine WP.seq ?_
  refine WP.run [] [0] (fun b1 => [(0, .slice (some ⟨(b1 + 1), 0, none⟩) 1 1)]) (fun b1 => [(b1, .cells #[.int .u32 7, .int .u32 8] 22 (0, 0)), ((b1 + 1), .cells #[.int .i64 5, .int .i64 1000, .slice (some ⟨b1, 0, none⟩) 2 2] 35 (0, 0))]) (fun b1 => []) (fun b1 => by kernel_rfl) (fun b1 => ?_)
  refine WP.ice (H' := [((b1 + 1), .cells #[.int .i64 5, .int .i64 1000, slcV (SkL.at b1 2 (fun _ => ())) ([7, 8] : List Int).length] 35 (0, 0))]) (Row 1 (pl (encI .u32)) noK (SkL.at b1 2 (fun _ => ())) ([7, 8] : List Int)) 0 (b := b1) (ob := .cells #[.int .u32 7, .int .u32 8] 22 (0, 0)) (by kernel_rfl) [] [] (by kernel_rfl) (fun w hb hψ => row_of_block hb (fun _ _ => rfl) ⟨[], by kernel_rfl⟩ (Nat.le_of_ble_eq_true rfl) (InK.no _ _)) (by kernel_rfl) ?_
  refine WP.ice (H' := []) (Row 3 api_Seg.encS api_Seg.inK (SkL.at (b1 + 1) 1 (skF [(SkL.at b1 2 (fun _ => ()))] (SkL.nil (fun _ => ())))) ([(api_Seg.mk 5 1000 ([7, 8] : List Int))] : List api_Seg)) 0 (b := (b1 + 1)) (ob := .cells #[.int .i64 5, .int .i64 1000, slcV (SkL.at b1 2 (fun _ => ())) ([7, 8] : List Int).length] 35 (0, 0)) (by kernel_rfl) [0] [Row 1 (pl (encI .u32)) noK (SkL.at b1 2 (fun _ => ())) ([7, 8] : List Int)] (by kernel_rfl) (fun w hb hψ => row_of_block hb (fun _ _ => rfl) ⟨[], by kernel_rfl⟩ (Nat.le_of_ble_eq_true rfl) (And.intro (hψ _ (List.mem_of_getElem? (i := 0) rfl)) trivial)) (by kernel_rfl) ?_
  obtain rfl := Option.some.inj hM
  exact WP.ret [] [] (slcV (SkL.at (b1 + 1) 1 (skF [(SkL.at b1 2 (fun _ => ()))] (SkL.nil (fun _ => ())))) ([(api_Seg.mk 5 1000 ([7, 8] : List Int))] : List api_Seg).length) (by kernel_rfl) (fun w' hw => ⟨(SkL.at (b1 + 1) 1 (skF [(SkL.at b1 2 (fun _ => ()))] (SkL.nil (fun _ => ())))), rfl, (hw.pick [] (by kernel_rfl)).less (sub_ret [0] [] (by kernel_rfl) (by kernel_rfl))⟩)

end Go.Proofs.YtbodofjnfmjbpaaGreatDoor

namespace Go.Proofs.YtbodofjnfmjbpaaGreatDoor
open Go Eng
set_option linter.unusedVariables false
set_option linter.unusedSimpArgs false

/-! ### gangway/gangwaylaw22.fixed: function 10 -/
def gangwaylaw22_fixed.k1 (r35 : Int) (r42 : Int) (r51 : Int) (r61 : Int) (x64 : Bool) : Option (Bool) :=
  some ((((x64 && (r35 == 3)) && (r42 == 2)) && (r51 == 1)) && (r61 == 220))

def gangwaylaw22_fixed.f (k : Nat) : Option (Bool) :=
  (gangwaylaw22_five.f).bind fun r6 =>
  (getL r6.length r6 0).bind fun t9 =>
  (tunnel_Wrap.f k 7 1 t9.Vid t9.Vni t9.Peers (api_Frame.mk 281474976710655 2 (api_Tag.mk true 0 false 5) 2048 (⟨#[104, 105]⟩ : ByteArray)) 3 1500).bind fun (r11, r12) =>
  (station_Take.f k 6 1 (api_Frame.mk 6 10 (api_Tag.mk false 0 false 0) 2048 r11)).bind fun (r14, r15) =>
  (gangwaylaw22_five.f).bind fun r19 =>
  (tunnel_Unwrap.f k r19 7 r14.U).bind fun (r22, r23, r24) =>
  (gangwaylaw22_five.f).bind fun r30 =>
  (tunnel_Unwrap.f k r30 9 r14.U).bind fun (r33, r34, r35) =>
  (tunnel_Unwrap.f k ([] : List api_Seg) 7 r14.U).bind fun (r40, r41, r42) =>
  (gangwaylaw22_five.f).bind fun r46 =>
  (tunnel_Unwrap.f k r46 7 (api_Udp.mk 0 0 false (⟨#[120]⟩ : ByteArray))).bind fun (r49, r50, r51) =>
  (gangwaylaw22_five.f).bind fun r55 =>
  (getL r55.length r55 0).bind fun t58 =>
  (tunnel_Wrap.f k 7 1 t58.Vid t58.Vni t58.Peers (api_Frame.mk 0 0 (api_Tag.mk false 0 false 0) 7 (⟨#[]⟩ : ByteArray)) 3 1500).bind fun (r60, r61) =>
  bif (((((r12 == 0) && ((r11.size : Int) == 52)) && (r14.Why == 0)) && (r22.Vid == 5)) && (r24 == 0)) then
    gangwaylaw22_fixed.k1 r35 r42 r51 r61 ((r23.Dst == 281474976710655) && ((r23.Src == 2) && (((r23.Tag.Has == false) && ((r23.Tag.Pri == 0) && ((r23.Tag.Dei == false) && ((r23.Tag.Vid == 0) && true)))) && ((r23.Type_ == 2048) && ((r23.Body == (⟨#[104, 105]⟩ : ByteArray)) && true)))))
  else
    gangwaylaw22_fixed.k1 r35 r42 r51 r61 false

set_option maxRecDepth 100000 in
theorem gangwaylaw22_fixed_calls (k : Nat) (r : Bool) (h : gangwaylaw22_fixed.f k = some r) : Pure Tryz.prog Glob 10 #[] (.bool r) := by
  intro w Z hS
  refine calls_of (args := []) (L := []) (N := 116) (S := Sat w Z [] [] Glob) Tryz.func10 rfl rfl (Nat.le_of_ble_eq_true rfl) rfl hS ?_
  have hM := h
  clear h hS
  unfold gangwaylaw22_fixed.f at hM
  refine WP.less (Φ' := [] ++ Glob) (fun _ h => h) ?_
  refine WP.seq ?_
  refine WP.run [] [0] (fun _ => [(0, .bool false)]) (fun _ => []) (fun _ => []) (fun _ => by kernel_rfl) (fun _ => ?_)
  refine WP.seq ?_
  refine WP.run [0, 0, 0, 0, 0, 0, 0, 0] [0, 1] (fun b1 => [(0, .bool false), (1, .pointer (some ⟨b1, 0, none⟩))]) (fun b1 => [(b1, .cells #[.int .u64 281474976710655, .int .u64 2, .bool true, .int .i64 0, .bool false, .int .i64 5, .int .i64 2048, .string (⟨#[104, 105]⟩ : ByteArray)] 29 (0, 0))]) (fun b1 => [b1, b1, b1, b1, b1, b1, b1, b1]) (fun b1 => by kernel_rfl) (fun b1 => ?_)
  refine WP.seq ?_
  obtain ⟨r6, h7, hM⟩ := bind_some hM
  obtain ⟨t9, h10, hM⟩ := bind_some hM
  obtain ⟨⟨r11, r12⟩, h13, hM⟩ := bind_some hM
  dsimp only at hM
  refine WP.sub [0, 1] (L' := [(0, .bool false), (1, .pointer (some ⟨b1, 0, none⟩))]) (by kernel_rfl) ?_
  refine WP.mixed (X := (SkL (SkL Unit))) 9 [.ex [] (fun tt => slcV (tt 0) r6.length) (fun tt => [Row 3 api_Seg.encS api_Seg.inK (tt 0) r6]), .valX [0] (fun tt => ptrV (tt 0) (Int.toNat 0 * 3 + 0)), .valX [0] (fun tt => .agg #[.int .i64 t9.Vid, .int .i64 t9.Vni, slcV ((tt 0).s (Int.toNat 0)) t9.Peers.length]), .val (.agg #[.int .u64 281474976710655, .int .u64 2, .bool true, .int .i64 0, .bool false, .int .i64 5, .int .i64 2048, .string (⟨#[104, 105]⟩ : ByteArray)]), .valX [0] (fun tt => .tuple #[.string r11, .int .i64 r12]), .val (.tuple #[.string r11, .int .i64 r12]), .val (.string r11), .val (.int .i64 r12), .val (.string r11)] [(b1, .cells #[.int .u64 281474976710655, .int .u64 2, .bool true, .int .i64 0, .bool false, .int .i64 5, .int .i64 2048, .string (⟨#[104, 105]⟩ : ByteArray)] 29 (0, 0))] [] (by kernel_rfl) (by kernel_rfl) (by kernel_rfl) (by kernel_rfl) (Heads.ex (fun x x' h => ⟨(by first | rfl | simp only [h 0 (List.mem_cons_self ..)]), (by first | rfl | simp only [h 0 (List.mem_cons_self ..)])⟩) (fun tt Ψ hΨ => OpX.callX (F0 := []) (fun u => u) [] [] (app2 no_facts (fun _ h => (List.mem_append_right _ (List.mem_append_right _ h)))) (fun _ h => h) (gangwaylaw22_five_calls _ h7) (fun x => ⟨x, rfl⟩) (fun _ => by kernel_rfl) (fun _ => by kernel_rfl) (fun _ => by kernel_rfl)) (Heads.valX (fun x x' h => (by first | rfl | simp only [h 0 (List.mem_of_getElem? (i := 0) rfl)])) (fun tt Ψ hΨ => OpV.valF (φ := Row 3 api_Seg.encS api_Seg.inK (tt 0) r6) (List.mem_append_left _ (hΨ 0 (List.mem_of_getElem? (i := 0) rfl) _ (List.mem_of_getElem? (i := 0) rfl))) (fun w hR => run_indexRowF (A := (tt 0)) (xs := r6) (i := 0) (k := .i64) (e := 35) (m := 3) (by kernel_rfl) (by kernel_rfl) h10 (by kernel_rfl) (by kernel_rfl) hR) (by kernel_rfl)) (Heads.valX (fun x x' h => (by first | rfl | simp only [h 0 (List.mem_of_getElem? (i := 0) rfl)])) (fun tt Ψ hΨ => OpV.valF (φ := Row 3 api_Seg.encS api_Seg.inK (tt 0) r6) (List.mem_append_left _ (hΨ 0 (List.mem_of_getElem? (i := 0) rfl) _ (List.mem_of_getElem? (i := 0) rfl))) (fun w hR => run_loadRowFA (A := (tt 0)) (xs := r6) (i := 0) (j := 0) (n := 3) (vs := [.int .i64 t9.Vid, .int .i64 t9.Vni, slcV ((tt 0).s (Int.toNat 0)) t9.Peers.length]) h10 (fun _ => by kernel_rfl) (by kernel_rfl) (by kernel_rfl) (by kernel_rfl) rfl hR) (by kernel_rfl)) (Heads.val (fun tt Ψ => OpV.run [0, 0, 0, 0, 0, 0, 0, 0] [b1, b1, b1, b1, b1, b1, b1, b1] (by kernel_rfl) (fun _ => by kernel_rfl)) (Heads.valX (fun x x' h => (by first | rfl | simp only [h 0 (List.mem_of_getElem? (i := 0) rfl)])) (fun tt Ψ hΨ => OpV.know (φ := Row 1 (pl (encI .u32)) noK ((tt 0).s (Int.toNat 0)) t9.Peers) [Row 3 api_Seg.encS api_Seg.inK (tt 0) r6] (one_fact (List.mem_append_left _ (hΨ 0 (List.mem_of_getElem? (i := 0) rfl) _ (List.mem_of_getElem? (i := 0) rfl)))) (fun w hψ => ((hψ _ (List.mem_singleton.2 rfl)).inner _ _ (getL_parts h10).2)) (OpV.callF [] [] (app2 (mem2 (List.mem_cons_self ..) no_facts) (fun _ h => (List.mem_cons_of_mem _ (List.mem_append_right _ (List.mem_append_right _ h))))) (tunnel_Wrap_calls k ((tt 0).s (Int.toNat 0)) 7 1 t9.Vid t9.Vni t9.Peers (api_Frame.mk 281474976710655 2 (api_Tag.mk true 0 false 5) 2048 (⟨#[104, 105]⟩ : ByteArray)) 3 1500 _ h13)  (fun _ => by kernel_rfl))) (Heads.val (fun tt Ψ => OpV.run [] [] (by kernel_rfl) (fun _ => by kernel_rfl)) (Heads.val (fun tt Ψ => OpV.run [] [] (by kernel_rfl) (fun _ => by kernel_rfl)) (Heads.val (fun tt Ψ => OpV.run [] [] (by kernel_rfl) (fun _ => by kernel_rfl)) (Heads.val (fun tt Ψ => OpV.run [] [] (by kernel_rfl) (fun _ => by kernel_rfl)) Heads.nil))))))))) (fun s5 tt => [(23, slcV (tt 0) r6.length), (24, ptrV (tt 0) (Int.toNat 0 * 3 + 0)), (25, .agg #[.int .i64 t9.Vid, .int .i64 t9.Vni, slcV ((tt 0).s (Int.toNat 0)) t9.Peers.length]), (26, .agg #[.int .u64 281474976710655, .int .u64 2, .bool true, .int .i64 0, .bool false, .int .i64 5, .int .i64 2048, .string (⟨#[104, 105]⟩ : ByteArray)]), (27, .tuple #[.string r11, .int .i64 r12]), (22, .tuple #[.string r11, .int .i64 r12]), (28, .string r11), (29, .int .i64 r12), (2, .string r11), (0, .bool false), (1, .pointer (some ⟨b1, 0, none⟩))]) (fun s5 tt => [(b1, .cells #[.int .u64 281474976710655, .int .u64 2, .bool true, .int .i64 0, .bool false, .int .i64 5, .int .i64 2048, .string (⟨#[104, 105]⟩ : ByteArray)] 29 (0, 0))]) (fun tt => ([Row 3 api_Seg.encS api_Seg.inK (tt 0) r6] ++ []) ++ Glob) (fun _ _ => by kernel_rfl) (fun _ _ => by kernel_rfl) (fun _ => by kernel_rfl) (fun s5 tt => ?_)
  generalize (tt 0) = A8
  refine WL.run 1 [] [0, 2, 3] (fun _ => [(0, .bool false), (2, .string r11), (3, .int .i64 r12)]) (fun _ => [(b1, .cells #[.int .u64 281474976710655, .int .u64 2, .bool true, .int .i64 0, .bool false, .int .i64 5, .int .i64 2048, .string (⟨#[104, 105]⟩ : ByteArray)] 29 (0, 0))]) (fun _ => []) (fun _ => by kernel_rfl) (fun _ => ?_)
  refine WP.done ?_
  refine WP.keep [false] (by kernel_rfl : _ = []) ?_
  refine WP.seq ?_
  refine WP.region ?_
  refine WL.run 2 [] [0, 2, 3, 32] (fun _ => [(0, .bool false), (2, .string r11), (3, .int .i64 r12), (32, .agg #[.int .u64 6, .int .u64 10, .bool false, .int .i64 0, .bool false, .int .i64 0, .int .i64 2048, .string r11])]) (fun _ => []) (fun _ => []) (fun _ => by kernel_rfl) (fun _ => ?_)
  obtain ⟨⟨r14, r15⟩, h16, hM⟩ := bind_some hM
  dsimp only at hM
  refine WL.callP [] [] (station_Take_calls k 6 1 (api_Frame.mk 6 10 (api_Tag.mk false 0 false 0) 2048 r11) _ h16) (fun _ h => List.mem_append_right _ h) (by kernel_rfl) (by kernel_rfl) rfl ?_
  refine WL.run 7 [0, 0, 0, 0, 0, 0, 1, 1, 1, 1, 1] [0, 2, 3, 4] (fun b17 => [(0, .bool false), (2, .string r11), (3, .int .i64 r12), (4, .pointer (some ⟨b17, 0, none⟩))]) (fun b17 => [(b17, .cells #[.int .i64 r14.Why, .int .u32 r14.Src, .int .i64 r14.U.Src, .int .i64 r14.U.Dst, .bool r14.U.NoSum, .string r14.U.Body] 47 (0, 0)), ((b17 + 1), .cells #[.int .i64 r15.Op, .int .u64 r15.SMac, .int .u32 r15.SIp, .int .u64 r15.TMac, .int .u32 r15.TIp] 49 (0, 0))]) (fun b17 => [(b17 + 1), (b17 + 1), (b17 + 1), (b17 + 1), (b17 + 1), b17, b17, b17, b17, b17, b17]) (fun b17 => by kernel_rfl) (fun b17 => ?_)
  refine WP.done ?_
  refine WP.keep [true, false] (by kernel_rfl : _ = [(b17, .cells #[.int .i64 r14.Why, .int .u32 r14.Src, .int .i64 r14.U.Src, .int .i64 r14.U.Dst, .bool r14.U.NoSum, .string r14.U.Body] 47 (0, 0))]) ?_
  refine WP.seq ?_
  obtain ⟨r19, h20, hM⟩ := bind_some hM
  obtain ⟨⟨r22, r23, r24⟩, h25, hM⟩ := bind_some hM
  dsimp only at hM
  refine WP.sub [0, 2, 3, 4] (L' := [(0, .bool false), (2, .string r11), (3, .int .i64 r12), (4, .pointer (some ⟨b17, 0, none⟩))]) (by kernel_rfl) ?_
  refine WP.mixed (X := ((SkL (SkL Unit)) × (SkL Unit))) 12 [.ex [] (fun tt => slcV (tt 0).1 r19.length) (fun tt => [Row 3 api_Seg.encS api_Seg.inK (tt 0).1 r19]), .val (.pointer (some ⟨b17, 2, none⟩)), .val (.agg #[.int .i64 r14.U.Src, .int .i64 r14.U.Dst, .bool r14.U.NoSum, .string r14.U.Body]), .ex [0] (fun tt => .tuple #[.agg #[.int .i64 r22.Vid, .int .i64 r22.Vni, slcV (tt 3).2 r22.Peers.length], .agg #[.int .u64 r23.Dst, .int .u64 r23.Src, .bool r23.Tag.Has, .int .i64 r23.Tag.Pri, .bool r23.Tag.Dei, .int .i64 r23.Tag.Vid, .int .i64 r23.Type_, .string r23.Body], .int .i64 r24]) (fun tt => [Row 1 (pl (encI .u32)) noK (tt 3).2 r22.Peers]), .valX [3] (fun tt => .tuple #[.agg #[.int .i64 r22.Vid, .int .i64 r22.Vni, slcV (tt 3).2 r22.Peers.length], .agg #[.int .u64 r23.Dst, .int .u64 r23.Src, .bool r23.Tag.Has, .int .i64 r23.Tag.Pri, .bool r23.Tag.Dei, .int .i64 r23.Tag.Vid, .int .i64 r23.Type_, .string r23.Body], .int .i64 r24]), .valX [3] (fun tt => .agg #[.int .i64 r22.Vid, .int .i64 r22.Vni, slcV (tt 3).2 r22.Peers.length]), .val (.agg #[.int .u64 r23.Dst, .int .u64 r23.Src, .bool r23.Tag.Has, .int .i64 r23.Tag.Pri, .bool r23.Tag.Dei, .int .i64 r23.Tag.Vid, .int .i64 r23.Type_, .string r23.Body]), .val (.int .i64 r24), .alloc (.cells #[.int .i64 0, .int .i64 0, .slice none 0 0] 35 (0, 0)) (fun b => .pointer (some ⟨b, 0, none⟩)), .alloc (.cells #[.int .u64 0, .int .u64 0, .bool false, .int .i64 0, .bool false, .int .i64 0, .int .i64 0, .string (⟨#[]⟩ : ByteArray)] 29 (0, 0)) (fun b => .pointer (some ⟨b, 0, none⟩)), .fill 8 [3] (fun tt => .cells #[.int .i64 r22.Vid, .int .i64 r22.Vni, slcV (tt 3).2 r22.Peers.length] 35 (0, 0)), .fill 9 [] (fun tt => .cells #[.int .u64 r23.Dst, .int .u64 r23.Src, .bool r23.Tag.Has, .int .i64 r23.Tag.Pri, .bool r23.Tag.Dei, .int .i64 r23.Tag.Vid, .int .i64 r23.Type_, .string r23.Body] 29 (0, 0))] [(b17, .cells #[.int .i64 r14.Why, .int .u32 r14.Src, .int .i64 r14.U.Src, .int .i64 r14.U.Dst, .bool r14.U.NoSum, .string r14.U.Body] 47 (0, 0))] [] (by kernel_rfl) (by kernel_rfl) (by kernel_rfl) (by kernel_rfl) (Heads.ex (fun x x' h => ⟨(by first | rfl | simp only [h 0 (List.mem_cons_self ..)]), (by first | rfl | simp only [h 0 (List.mem_cons_self ..)])⟩) (fun tt Ψ hΨ => OpX.callX (F0 := []) (fun u => u.1) [] [] (app2 no_facts (fun _ h => (List.mem_append_right _ (List.mem_append_right _ h)))) (fun _ h => h) (gangwaylaw22_five_calls _ h20) (fun x => ⟨(x, default), rfl⟩) (fun _ => by kernel_rfl) (fun _ => by kernel_rfl) (fun _ => by kernel_rfl)) (Heads.val (fun tt Ψ => OpV.run [] [] (by kernel_rfl) (fun _ => by kernel_rfl)) (Heads.val (fun tt Ψ => OpV.run [0, 0, 0, 0] [b17, b17, b17, b17] (by kernel_rfl) (fun _ => by kernel_rfl)) (Heads.ex (fun x x' h => ⟨(by first | rfl | simp only [h 3 (List.mem_cons_self ..), h 0 (List.mem_of_getElem? (i := 1) rfl)]), (by first | rfl | simp only [h 3 (List.mem_cons_self ..), h 0 (List.mem_of_getElem? (i := 1) rfl)])⟩) (fun tt Ψ hΨ => OpX.callX (F0 := [Row 3 api_Seg.encS api_Seg.inK (tt 0).1 r19]) (fun u => u.2) [] [] (app2 (mem2 (List.mem_append_left _ (hΨ 0 (List.mem_of_getElem? (i := 0) rfl) _ (List.mem_of_getElem? (i := 0) rfl))) no_facts) (fun _ h => (List.mem_append_right _ (List.mem_append_right _ h)))) (fun _ h => h) (tunnel_Unwrap_calls k (tt 0).1 r19 7 r14.U _ h25) (fun x => ⟨(default, x), rfl⟩) (fun _ => by kernel_rfl) (fun _ => by kernel_rfl) (fun _ => by kernel_rfl)) (Heads.valX (fun x x' h => (by first | rfl | simp only [h 3 (List.mem_of_getElem? (i := 0) rfl)])) (fun tt Ψ hΨ => OpV.run [] [] (by kernel_rfl) (fun _ => by kernel_rfl)) (Heads.valX (fun x x' h => (by first | rfl | simp only [h 3 (List.mem_of_getElem? (i := 0) rfl)])) (fun tt Ψ hΨ => OpV.run [] [] (by kernel_rfl) (fun _ => by kernel_rfl)) (Heads.val (fun tt Ψ => OpV.run [] [] (by kernel_rfl) (fun _ => by kernel_rfl)) (Heads.val (fun tt Ψ => OpV.run [] [] (by kernel_rfl) (fun _ => by kernel_rfl)) (Heads.alloc (fun _ => by kernel_rfl) (fun _ _ => by kernel_rfl) (Heads.alloc (fun _ => by kernel_rfl) (fun _ _ => by kernel_rfl) (Heads.fill (fun x x' h => (by first | rfl | simp only [h 3 (List.mem_of_getElem? (i := 0) rfl)])) 6 (fun b => .pointer (some ⟨b, 0, none⟩)) (.cells #[.int .i64 0, .int .i64 0, .slice none 0 0] 35 (0, 0)) rfl rfl (fun tt Ψ => OpF.run [1, 1, 1] (fun b => [b, b, b]) (fun _ => by kernel_rfl) (fun _ _ _ => by kernel_rfl) (fun _ _ _ => by kernel_rfl)) (Heads.fill (fun x x' h => rfl) 7 (fun b => .pointer (some ⟨b, 0, none⟩)) (.cells #[.int .u64 0, .int .u64 0, .bool false, .int .i64 0, .bool false, .int .i64 0, .int .i64 0, .string (⟨#[]⟩ : ByteArray)] 29 (0, 0)) rfl rfl (fun tt Ψ => OpF.run [1, 1, 1, 1, 1, 1, 1, 1] (fun b => [b, b, b, b, b, b, b, b]) (fun _ => by kernel_rfl) (fun _ _ _ => by kernel_rfl) (fun _ _ _ => by kernel_rfl)) Heads.nil)))))))))))) (fun s18 tt => [(37, slcV (tt 0).1 r19.length), (38, .pointer (some ⟨b17, 2, none⟩)), (39, .agg #[.int .i64 r14.U.Src, .int .i64 r14.U.Dst, .bool r14.U.NoSum, .string r14.U.Body]), (40, .tuple #[.agg #[.int .i64 r22.Vid, .int .i64 r22.Vni, slcV (tt 3).2 r22.Peers.length], .agg #[.int .u64 r23.Dst, .int .u64 r23.Src, .bool r23.Tag.Has, .int .i64 r23.Tag.Pri, .bool r23.Tag.Dei, .int .i64 r23.Tag.Vid, .int .i64 r23.Type_, .string r23.Body], .int .i64 r24]), (36, .tuple #[.agg #[.int .i64 r22.Vid, .int .i64 r22.Vni, slcV (tt 3).2 r22.Peers.length], .agg #[.int .u64 r23.Dst, .int .u64 r23.Src, .bool r23.Tag.Has, .int .i64 r23.Tag.Pri, .bool r23.Tag.Dei, .int .i64 r23.Tag.Vid, .int .i64 r23.Type_, .string r23.Body], .int .i64 r24]), (41, .agg #[.int .i64 r22.Vid, .int .i64 r22.Vni, slcV (tt 3).2 r22.Peers.length]), (42, .agg #[.int .u64 r23.Dst, .int .u64 r23.Src, .bool r23.Tag.Has, .int .i64 r23.Tag.Pri, .bool r23.Tag.Dei, .int .i64 r23.Tag.Vid, .int .i64 r23.Type_, .string r23.Body]), (43, .int .i64 r24), (6, .pointer (some ⟨(s18 8), 0, none⟩)), (7, .pointer (some ⟨(s18 9), 0, none⟩)), (0, .bool false), (2, .string r11), (3, .int .i64 r12), (4, .pointer (some ⟨b17, 0, none⟩))]) (fun s18 tt => [(b17, .cells #[.int .i64 r14.Why, .int .u32 r14.Src, .int .i64 r14.U.Src, .int .i64 r14.U.Dst, .bool r14.U.NoSum, .string r14.U.Body] 47 (0, 0)), ((s18 8), .cells #[.int .i64 r22.Vid, .int .i64 r22.Vni, slcV (tt 3).2 r22.Peers.length] 35 (0, 0)), ((s18 9), .cells #[.int .u64 r23.Dst, .int .u64 r23.Src, .bool r23.Tag.Has, .int .i64 r23.Tag.Pri, .bool r23.Tag.Dei, .int .i64 r23.Tag.Vid, .int .i64 r23.Type_, .string r23.Body] 29 (0, 0))]) (fun tt => ([Row 3 api_Seg.encS api_Seg.inK (tt 0).1 r19, Row 1 (pl (encI .u32)) noK (tt 3).2 r22.Peers] ++ [Row 3 api_Seg.encS api_Seg.inK A8 r6]) ++ Glob) (fun _ _ => by kernel_rfl) (fun _ _ => by kernel_rfl) (fun _ => by kernel_rfl) (fun s18 tt => ?_)
  generalize s18 8 = b27
  generalize s18 9 = b28
  generalize (tt 0).1 = A21
  generalize (tt 3).2 = A26
  refine WL.run 1 [] [0, 2, 3, 4, 6, 7, 8] (fun _ => [(0, .bool false), (2, .string r11), (3, .int .i64 r12), (4, .pointer (some ⟨b17, 0, none⟩)), (6, .pointer (some ⟨b27, 0, none⟩)), (7, .pointer (some ⟨b28, 0, none⟩)), (8, .int .i64 r24)]) (fun _ => [(b17, .cells #[.int .i64 r14.Why, .int .u32 r14.Src, .int .i64 r14.U.Src, .int .i64 r14.U.Dst, .bool r14.U.NoSum, .string r14.U.Body] 47 (0, 0)), (b27, .cells #[.int .i64 r22.Vid, .int .i64 r22.Vni, slcV A26 r22.Peers.length] 35 (0, 0)), (b28, .cells #[.int .u64 r23.Dst, .int .u64 r23.Src, .bool r23.Tag.Has, .int .i64 r23.Tag.Pri, .bool r23.Tag.Dei, .int .i64 r23.Tag.Vid, .int .i64 r23.Type_, .string r23.Body] 29 (0, 0))]) (fun _ => []) (fun _ => by kernel_rfl) (fun _ => ?_)
  refine WP.done ?_
  refine WP.seq ?_
  obtain ⟨r30, h31, hM⟩ := bind_some hM
  obtain ⟨⟨r33, r34, r35⟩, h36, hM⟩ := bind_some hM
  dsimp only at hM
  refine WP.sub [0, 2, 3, 4, 6, 7, 8] (L' := [(0, .bool false), (2, .string r11), (3, .int .i64 r12), (4, .pointer (some ⟨b17, 0, none⟩)), (6, .pointer (some ⟨b27, 0, none⟩)), (7, .pointer (some ⟨b28, 0, none⟩)), (8, .int .i64 r24)]) (by kernel_rfl) ?_
  refine WP.mixed (X := ((SkL (SkL Unit)) × (SkL Unit))) 12 [.ex [] (fun tt => slcV (tt 0).1 r30.length) (fun tt => [Row 3 api_Seg.encS api_Seg.inK (tt 0).1 r30]), .val (.pointer (some ⟨b17, 2, none⟩)), .val (.agg #[.int .i64 r14.U.Src, .int .i64 r14.U.Dst, .bool r14.U.NoSum, .string r14.U.Body]), .ex [0] (fun tt => .tuple #[.agg #[.int .i64 r33.Vid, .int .i64 r33.Vni, slcV (tt 3).2 r33.Peers.length], .agg #[.int .u64 r34.Dst, .int .u64 r34.Src, .bool r34.Tag.Has, .int .i64 r34.Tag.Pri, .bool r34.Tag.Dei, .int .i64 r34.Tag.Vid, .int .i64 r34.Type_, .string r34.Body], .int .i64 r35]) (fun tt => [Row 1 (pl (encI .u32)) noK (tt 3).2 r33.Peers]), .valX [3] (fun tt => .tuple #[.agg #[.int .i64 r33.Vid, .int .i64 r33.Vni, slcV (tt 3).2 r33.Peers.length], .agg #[.int .u64 r34.Dst, .int .u64 r34.Src, .bool r34.Tag.Has, .int .i64 r34.Tag.Pri, .bool r34.Tag.Dei, .int .i64 r34.Tag.Vid, .int .i64 r34.Type_, .string r34.Body], .int .i64 r35]), .valX [3] (fun tt => .agg #[.int .i64 r33.Vid, .int .i64 r33.Vni, slcV (tt 3).2 r33.Peers.length]), .val (.agg #[.int .u64 r34.Dst, .int .u64 r34.Src, .bool r34.Tag.Has, .int .i64 r34.Tag.Pri, .bool r34.Tag.Dei, .int .i64 r34.Tag.Vid, .int .i64 r34.Type_, .string r34.Body]), .val (.int .i64 r35), .alloc (.cells #[.int .i64 0, .int .i64 0, .slice none 0 0] 35 (0, 0)) (fun b => .pointer (some ⟨b, 0, none⟩)), .alloc (.cells #[.int .u64 0, .int .u64 0, .bool false, .int .i64 0, .bool false, .int .i64 0, .int .i64 0, .string (⟨#[]⟩ : ByteArray)] 29 (0, 0)) (fun b => .pointer (some ⟨b, 0, none⟩)), .fill 8 [3] (fun tt => .cells #[.int .i64 r33.Vid, .int .i64 r33.Vni, slcV (tt 3).2 r33.Peers.length] 35 (0, 0)), .fill 9 [] (fun tt => .cells #[.int .u64 r34.Dst, .int .u64 r34.Src, .bool r34.Tag.Has, .int .i64 r34.Tag.Pri, .bool r34.Tag.Dei, .int .i64 r34.Tag.Vid, .int .i64 r34.Type_, .string r34.Body] 29 (0, 0))] [(b17, .cells #[.int .i64 r14.Why, .int .u32 r14.Src, .int .i64 r14.U.Src, .int .i64 r14.U.Dst, .bool r14.U.NoSum, .string r14.U.Body] 47 (0, 0)), (b27, .cells #[.int .i64 r22.Vid, .int .i64 r22.Vni, slcV A26 r22.Peers.length] 35 (0, 0)), (b28, .cells #[.int .u64 r23.Dst, .int .u64 r23.Src, .bool r23.Tag.Has, .int .i64 r23.Tag.Pri, .bool r23.Tag.Dei, .int .i64 r23.Tag.Vid, .int .i64 r23.Type_, .string r23.Body] 29 (0, 0))] [] (by kernel_rfl) (by kernel_rfl) (by kernel_rfl) (by kernel_rfl) (Heads.ex (fun x x' h => ⟨(by first | rfl | simp only [h 0 (List.mem_cons_self ..)]), (by first | rfl | simp only [h 0 (List.mem_cons_self ..)])⟩) (fun tt Ψ hΨ => OpX.callX (F0 := []) (fun u => u.1) [] [] (app2 no_facts (fun _ h => (List.mem_append_right _ (List.mem_append_right _ h)))) (fun _ h => h) (gangwaylaw22_five_calls _ h31) (fun x => ⟨(x, default), rfl⟩) (fun _ => by kernel_rfl) (fun _ => by kernel_rfl) (fun _ => by kernel_rfl)) (Heads.val (fun tt Ψ => OpV.run [] [] (by kernel_rfl) (fun _ => by kernel_rfl)) (Heads.val (fun tt Ψ => OpV.run [0, 0, 0, 0] [b17, b17, b17, b17] (by kernel_rfl) (fun _ => by kernel_rfl)) (Heads.ex (fun x x' h => ⟨(by first | rfl | simp only [h 3 (List.mem_cons_self ..), h 0 (List.mem_of_getElem? (i := 1) rfl)]), (by first | rfl | simp only [h 3 (List.mem_cons_self ..), h 0 (List.mem_of_getElem? (i := 1) rfl)])⟩) (fun tt Ψ hΨ => OpX.callX (F0 := [Row 3 api_Seg.encS api_Seg.inK (tt 0).1 r30]) (fun u => u.2) [] [] (app2 (mem2 (List.mem_append_left _ (hΨ 0 (List.mem_of_getElem? (i := 0) rfl) _ (List.mem_of_getElem? (i := 0) rfl))) no_facts) (fun _ h => (List.mem_append_right _ (List.mem_append_right _ h)))) (fun _ h => h) (tunnel_Unwrap_calls k (tt 0).1 r30 9 r14.U _ h36) (fun x => ⟨(default, x), rfl⟩) (fun _ => by kernel_rfl) (fun _ => by kernel_rfl) (fun _ => by kernel_rfl)) (Heads.valX (fun x x' h => (by first | rfl | simp only [h 3 (List.mem_of_getElem? (i := 0) rfl)])) (fun tt Ψ hΨ => OpV.run [] [] (by kernel_rfl) (fun _ => by kernel_rfl)) (Heads.valX (fun x x' h => (by first | rfl | simp only [h 3 (List.mem_of_getElem? (i := 0) rfl)])) (fun tt Ψ hΨ => OpV.run [] [] (by kernel_rfl) (fun _ => by kernel_rfl)) (Heads.val (fun tt Ψ => OpV.run [] [] (by kernel_rfl) (fun _ => by kernel_rfl)) (Heads.val (fun tt Ψ => OpV.run [] [] (by kernel_rfl) (fun _ => by kernel_rfl)) (Heads.alloc (fun _ => by kernel_rfl) (fun _ _ => by kernel_rfl) (Heads.alloc (fun _ => by kernel_rfl) (fun _ _ => by kernel_rfl) (Heads.fill (fun x x' h => (by first | rfl | simp only [h 3 (List.mem_of_getElem? (i := 0) rfl)])) 9 (fun b => .pointer (some ⟨b, 0, none⟩)) (.cells #[.int .i64 0, .int .i64 0, .slice none 0 0] 35 (0, 0)) rfl rfl (fun tt Ψ => OpF.run [3, 3, 3] (fun b => [b, b, b]) (fun _ => by kernel_rfl) (fun _ _ _ => by kernel_rfl) (fun _ _ _ => by kernel_rfl)) (Heads.fill (fun x x' h => rfl) 10 (fun b => .pointer (some ⟨b, 0, none⟩)) (.cells #[.int .u64 0, .int .u64 0, .bool false, .int .i64 0, .bool false, .int .i64 0, .int .i64 0, .string (⟨#[]⟩ : ByteArray)] 29 (0, 0)) rfl rfl (fun tt Ψ => OpF.run [3, 3, 3, 3, 3, 3, 3, 3] (fun b => [b, b, b, b, b, b, b, b]) (fun _ => by kernel_rfl) (fun _ _ _ => by kernel_rfl) (fun _ _ _ => by kernel_rfl)) Heads.nil)))))))))))) (fun s29 tt => [(45, slcV (tt 0).1 r30.length), (46, .pointer (some ⟨b17, 2, none⟩)), (47, .agg #[.int .i64 r14.U.Src, .int .i64 r14.U.Dst, .bool r14.U.NoSum, .string r14.U.Body]), (48, .tuple #[.agg #[.int .i64 r33.Vid, .int .i64 r33.Vni, slcV (tt 3).2 r33.Peers.length], .agg #[.int .u64 r34.Dst, .int .u64 r34.Src, .bool r34.Tag.Has, .int .i64 r34.Tag.Pri, .bool r34.Tag.Dei, .int .i64 r34.Tag.Vid, .int .i64 r34.Type_, .string r34.Body], .int .i64 r35]), (44, .tuple #[.agg #[.int .i64 r33.Vid, .int .i64 r33.Vni, slcV (tt 3).2 r33.Peers.length], .agg #[.int .u64 r34.Dst, .int .u64 r34.Src, .bool r34.Tag.Has, .int .i64 r34.Tag.Pri, .bool r34.Tag.Dei, .int .i64 r34.Tag.Vid, .int .i64 r34.Type_, .string r34.Body], .int .i64 r35]), (49, .agg #[.int .i64 r33.Vid, .int .i64 r33.Vni, slcV (tt 3).2 r33.Peers.length]), (50, .agg #[.int .u64 r34.Dst, .int .u64 r34.Src, .bool r34.Tag.Has, .int .i64 r34.Tag.Pri, .bool r34.Tag.Dei, .int .i64 r34.Tag.Vid, .int .i64 r34.Type_, .string r34.Body]), (51, .int .i64 r35), (9, .pointer (some ⟨(s29 8), 0, none⟩)), (10, .pointer (some ⟨(s29 9), 0, none⟩)), (0, .bool false), (2, .string r11), (3, .int .i64 r12), (4, .pointer (some ⟨b17, 0, none⟩)), (6, .pointer (some ⟨b27, 0, none⟩)), (7, .pointer (some ⟨b28, 0, none⟩)), (8, .int .i64 r24)]) (fun s29 tt => [(b17, .cells #[.int .i64 r14.Why, .int .u32 r14.Src, .int .i64 r14.U.Src, .int .i64 r14.U.Dst, .bool r14.U.NoSum, .string r14.U.Body] 47 (0, 0)), (b27, .cells #[.int .i64 r22.Vid, .int .i64 r22.Vni, slcV A26 r22.Peers.length] 35 (0, 0)), (b28, .cells #[.int .u64 r23.Dst, .int .u64 r23.Src, .bool r23.Tag.Has, .int .i64 r23.Tag.Pri, .bool r23.Tag.Dei, .int .i64 r23.Tag.Vid, .int .i64 r23.Type_, .string r23.Body] 29 (0, 0)), ((s29 8), .cells #[.int .i64 r33.Vid, .int .i64 r33.Vni, slcV (tt 3).2 r33.Peers.length] 35 (0, 0)), ((s29 9), .cells #[.int .u64 r34.Dst, .int .u64 r34.Src, .bool r34.Tag.Has, .int .i64 r34.Tag.Pri, .bool r34.Tag.Dei, .int .i64 r34.Tag.Vid, .int .i64 r34.Type_, .string r34.Body] 29 (0, 0))]) (fun tt => ([Row 3 api_Seg.encS api_Seg.inK (tt 0).1 r30, Row 1 (pl (encI .u32)) noK (tt 3).2 r33.Peers] ++ [Row 3 api_Seg.encS api_Seg.inK A21 r19, Row 1 (pl (encI .u32)) noK A26 r22.Peers, Row 3 api_Seg.encS api_Seg.inK A8 r6]) ++ Glob) (fun _ _ => by kernel_rfl) (fun _ _ => by kernel_rfl) (fun _ => by kernel_rfl) (fun s29 tt => ?_)
  generalize s29 8 = b38
  generalize s29 9 = b39
  generalize (tt 0).1 = A32
  generalize (tt 3).2 = A37
  refine WL.run 1 [] [0, 2, 3, 4, 6, 7, 8, 11] (fun _ => [(0, .bool false), (2, .string r11), (3, .int .i64 r12), (4, .pointer (some ⟨b17, 0, none⟩)), (6, .pointer (some ⟨b27, 0, none⟩)), (7, .pointer (some ⟨b28, 0, none⟩)), (8, .int .i64 r24), (11, .int .i64 r35)]) (fun _ => [(b17, .cells #[.int .i64 r14.Why, .int .u32 r14.Src, .int .i64 r14.U.Src, .int .i64 r14.U.Dst, .bool r14.U.NoSum, .string r14.U.Body] 47 (0, 0)), (b27, .cells #[.int .i64 r22.Vid, .int .i64 r22.Vni, slcV A26 r22.Peers.length] 35 (0, 0)), (b28, .cells #[.int .u64 r23.Dst, .int .u64 r23.Src, .bool r23.Tag.Has, .int .i64 r23.Tag.Pri, .bool r23.Tag.Dei, .int .i64 r23.Tag.Vid, .int .i64 r23.Type_, .string r23.Body] 29 (0, 0)), (b38, .cells #[.int .i64 r33.Vid, .int .i64 r33.Vni, slcV A37 r33.Peers.length] 35 (0, 0)), (b39, .cells #[.int .u64 r34.Dst, .int .u64 r34.Src, .bool r34.Tag.Has, .int .i64 r34.Tag.Pri, .bool r34.Tag.Dei, .int .i64 r34.Tag.Vid, .int .i64 r34.Type_, .string r34.Body] 29 (0, 0))]) (fun _ => []) (fun _ => by kernel_rfl) (fun _ => ?_)
  refine WP.done ?_
  refine WP.keep [true, true, true, false, false] (by kernel_rfl : _ = [(b17, .cells #[.int .i64 r14.Why, .int .u32 r14.Src, .int .i64 r14.U.Src, .int .i64 r14.U.Dst, .bool r14.U.NoSum, .string r14.U.Body] 47 (0, 0)), (b27, .cells #[.int .i64 r22.Vid, .int .i64 r22.Vni, slcV A26 r22.Peers.length] 35 (0, 0)), (b28, .cells #[.int .u64 r23.Dst, .int .u64 r23.Src, .bool r23.Tag.Has, .int .i64 r23.Tag.Pri, .bool r23.Tag.Dei, .int .i64 r23.Tag.Vid, .int .i64 r23.Type_, .string r23.Body] 29 (0, 0))]) ?_
  refine WP.seq ?_
  refine WP.region ?_
  refine WL.run 2 [0, 0, 0, 0] [0, 2, 3, 4, 6, 7, 8, 11, 54] (fun _ => [(0, .bool false), (2, .string r11), (3, .int .i64 r12), (4, .pointer (some ⟨b17, 0, none⟩)), (6, .pointer (some ⟨b27, 0, none⟩)), (7, .pointer (some ⟨b28, 0, none⟩)), (8, .int .i64 r24), (11, .int .i64 r35), (54, .agg #[.int .i64 r14.U.Src, .int .i64 r14.U.Dst, .bool r14.U.NoSum, .string r14.U.Body])]) (fun _ => [(b17, .cells #[.int .i64 r14.Why, .int .u32 r14.Src, .int .i64 r14.U.Src, .int .i64 r14.U.Dst, .bool r14.U.NoSum, .string r14.U.Body] 47 (0, 0)), (b27, .cells #[.int .i64 r22.Vid, .int .i64 r22.Vni, slcV A26 r22.Peers.length] 35 (0, 0)), (b28, .cells #[.int .u64 r23.Dst, .int .u64 r23.Src, .bool r23.Tag.Has, .int .i64 r23.Tag.Pri, .bool r23.Tag.Dei, .int .i64 r23.Tag.Vid, .int .i64 r23.Type_, .string r23.Body] 29 (0, 0))]) (fun _ => [b17, b17, b17, b17]) (fun _ => by kernel_rfl) (fun _ => ?_)
  refine WL.know (Row 3 api_Seg.encS api_Seg.inK (SkL.nil (fun _ => (SkL.nil (fun _ => ())))) ([] : List api_Seg)) [] [] (by kernel_rfl) (fun w _ => RowP.empty (fun _ => rfl)) ?_
  obtain ⟨⟨r40, r41, r42⟩, h43, hM⟩ := bind_some hM
  dsimp only at hM
  refine WL.callX (F0 := [Row 3 api_Seg.encS api_Seg.inK (SkL.nil (fun _ => (SkL.nil (fun _ => ())))) ([] : List api_Seg)]) [] [] [false, false, false] (fun _ => _) [0] (by kernel_rfl) (tunnel_Unwrap_calls k (SkL.nil (fun _ => (SkL.nil (fun _ => ())))) ([] : List api_Seg) 7 r14.U _ h43) rfl rfl (by kernel_rfl) (by kernel_rfl) (fun _ => rfl) (fun A44 => ?_)
  refine WL.run 9 [3, 3, 3, 4, 4, 4, 4, 4, 4, 4, 4] [0, 2, 3, 4, 6, 7, 8, 11, 14] (fun b45 => [(0, .bool false), (2, .string r11), (3, .int .i64 r12), (4, .pointer (some ⟨b17, 0, none⟩)), (6, .pointer (some ⟨b27, 0, none⟩)), (7, .pointer (some ⟨b28, 0, none⟩)), (8, .int .i64 r24), (11, .int .i64 r35), (14, .int .i64 r42)]) (fun b45 => [(b17, .cells #[.int .i64 r14.Why, .int .u32 r14.Src, .int .i64 r14.U.Src, .int .i64 r14.U.Dst, .bool r14.U.NoSum, .string r14.U.Body] 47 (0, 0)), (b27, .cells #[.int .i64 r22.Vid, .int .i64 r22.Vni, slcV A26 r22.Peers.length] 35 (0, 0)), (b28, .cells #[.int .u64 r23.Dst, .int .u64 r23.Src, .bool r23.Tag.Has, .int .i64 r23.Tag.Pri, .bool r23.Tag.Dei, .int .i64 r23.Tag.Vid, .int .i64 r23.Type_, .string r23.Body] 29 (0, 0)), (b45, .cells #[.int .i64 r40.Vid, .int .i64 r40.Vni, slcV A44 r40.Peers.length] 35 (0, 0)), ((b45 + 1), .cells #[.int .u64 r41.Dst, .int .u64 r41.Src, .bool r41.Tag.Has, .int .i64 r41.Tag.Pri, .bool r41.Tag.Dei, .int .i64 r41.Tag.Vid, .int .i64 r41.Type_, .string r41.Body] 29 (0, 0))]) (fun b45 => [(b45 + 1), (b45 + 1), (b45 + 1), (b45 + 1), (b45 + 1), (b45 + 1), (b45 + 1), (b45 + 1), b45, b45, b45]) (fun b45 => by kernel_rfl) (fun b45 => ?_)
  refine WP.done ?_
  refine WP.keep [true, true, true, false, false] (by kernel_rfl : _ = [(b17, .cells #[.int .i64 r14.Why, .int .u32 r14.Src, .int .i64 r14.U.Src, .int .i64 r14.U.Dst, .bool r14.U.NoSum, .string r14.U.Body] 47 (0, 0)), (b27, .cells #[.int .i64 r22.Vid, .int .i64 r22.Vni, slcV A26 r22.Peers.length] 35 (0, 0)), (b28, .cells #[.int .u64 r23.Dst, .int .u64 r23.Src, .bool r23.Tag.Has, .int .i64 r23.Tag.Pri, .bool r23.Tag.Dei, .int .i64 r23.Tag.Vid, .int .i64 r23.Type_, .string r23.Body] 29 (0, 0))]) ?_
  refine WP.seq ?_
  refine WP.region ?_
  obtain ⟨r46, h47, hM⟩ := bind_some hM
  refine WL.callX (F0 := []) [] [] [false, false, false] (fun _ => _) [] (by kernel_rfl) (gangwaylaw22_five_calls _ h47) rfl rfl (by kernel_rfl) (by kernel_rfl) (fun _ => rfl) (fun A48 => ?_)
  refine WL.run 1 [] [0, 2, 3, 4, 6, 7, 8, 11, 14, 60, 61] (fun _ => [(0, .bool false), (2, .string r11), (3, .int .i64 r12), (4, .pointer (some ⟨b17, 0, none⟩)), (6, .pointer (some ⟨b27, 0, none⟩)), (7, .pointer (some ⟨b28, 0, none⟩)), (8, .int .i64 r24), (11, .int .i64 r35), (14, .int .i64 r42), (60, slcV A48 r46.length), (61, .agg #[.int .i64 0, .int .i64 0, .bool false, .string (⟨#[120]⟩ : ByteArray)])]) (fun _ => [(b17, .cells #[.int .i64 r14.Why, .int .u32 r14.Src, .int .i64 r14.U.Src, .int .i64 r14.U.Dst, .bool r14.U.NoSum, .string r14.U.Body] 47 (0, 0)), (b27, .cells #[.int .i64 r22.Vid, .int .i64 r22.Vni, slcV A26 r22.Peers.length] 35 (0, 0)), (b28, .cells #[.int .u64 r23.Dst, .int .u64 r23.Src, .bool r23.Tag.Has, .int .i64 r23.Tag.Pri, .bool r23.Tag.Dei, .int .i64 r23.Tag.Vid, .int .i64 r23.Type_, .string r23.Body] 29 (0, 0))]) (fun _ => []) (fun _ => by kernel_rfl) (fun _ => ?_)
  obtain ⟨⟨r49, r50, r51⟩, h52, hM⟩ := bind_some hM
  dsimp only at hM
  refine WL.callX (F0 := [Row 3 api_Seg.encS api_Seg.inK A48 r46]) [] [] [false, false, false] (fun _ => _) [0] (by kernel_rfl) (tunnel_Unwrap_calls k A48 r46 7 (api_Udp.mk 0 0 false (⟨#[120]⟩ : ByteArray)) _ h52) rfl rfl (by kernel_rfl) (by kernel_rfl) (fun _ => rfl) (fun A53 => ?_)
  refine WL.run 9 [3, 3, 3, 4, 4, 4, 4, 4, 4, 4, 4] [0, 2, 3, 4, 6, 7, 8, 11, 14, 17] (fun b54 => [(0, .bool false), (2, .string r11), (3, .int .i64 r12), (4, .pointer (some ⟨b17, 0, none⟩)), (6, .pointer (some ⟨b27, 0, none⟩)), (7, .pointer (some ⟨b28, 0, none⟩)), (8, .int .i64 r24), (11, .int .i64 r35), (14, .int .i64 r42), (17, .int .i64 r51)]) (fun b54 => [(b17, .cells #[.int .i64 r14.Why, .int .u32 r14.Src, .int .i64 r14.U.Src, .int .i64 r14.U.Dst, .bool r14.U.NoSum, .string r14.U.Body] 47 (0, 0)), (b27, .cells #[.int .i64 r22.Vid, .int .i64 r22.Vni, slcV A26 r22.Peers.length] 35 (0, 0)), (b28, .cells #[.int .u64 r23.Dst, .int .u64 r23.Src, .bool r23.Tag.Has, .int .i64 r23.Tag.Pri, .bool r23.Tag.Dei, .int .i64 r23.Tag.Vid, .int .i64 r23.Type_, .string r23.Body] 29 (0, 0)), (b54, .cells #[.int .i64 r49.Vid, .int .i64 r49.Vni, slcV A53 r49.Peers.length] 35 (0, 0)), ((b54 + 1), .cells #[.int .u64 r50.Dst, .int .u64 r50.Src, .bool r50.Tag.Has, .int .i64 r50.Tag.Pri, .bool r50.Tag.Dei, .int .i64 r50.Tag.Vid, .int .i64 r50.Type_, .string r50.Body] 29 (0, 0))]) (fun b54 => [(b54 + 1), (b54 + 1), (b54 + 1), (b54 + 1), (b54 + 1), (b54 + 1), (b54 + 1), (b54 + 1), b54, b54, b54]) (fun b54 => by kernel_rfl) (fun b54 => ?_)
  refine WP.done ?_
  refine WP.keep [true, true, true, false, false] (by kernel_rfl : _ = [(b17, .cells #[.int .i64 r14.Why, .int .u32 r14.Src, .int .i64 r14.U.Src, .int .i64 r14.U.Dst, .bool r14.U.NoSum, .string r14.U.Body] 47 (0, 0)), (b27, .cells #[.int .i64 r22.Vid, .int .i64 r22.Vni, slcV A26 r22.Peers.length] 35 (0, 0)), (b28, .cells #[.int .u64 r23.Dst, .int .u64 r23.Src, .bool r23.Tag.Has, .int .i64 r23.Tag.Pri, .bool r23.Tag.Dei, .int .i64 r23.Tag.Vid, .int .i64 r23.Type_, .string r23.Body] 29 (0, 0))]) ?_
  refine WP.seq ?_
  refine WP.region ?_
  obtain ⟨r55, h56, hM⟩ := bind_some hM
  refine WL.callX (F0 := []) [] [] [false, false, false] (fun _ => _) [] (by kernel_rfl) (gangwaylaw22_five_calls _ h56) rfl rfl (by kernel_rfl) (by kernel_rfl) (fun _ => rfl) (fun A57 => ?_)
  obtain ⟨t58, h59, hM⟩ := bind_some hM
  refine WL.valF (φ := Row 3 api_Seg.encS api_Seg.inK A57 r55) (fact_at 0 rfl) (fun w hR => run_indexRowF (A := A57) (xs := r55) (i := 0) (k := .i64) (e := 35) (m := 3) (by kernel_rfl) (by kernel_rfl) h59 (by kernel_rfl) (by kernel_rfl) hR) (by kernel_rfl) (by kernel_rfl) rfl ?_
  refine WL.valF (φ := Row 3 api_Seg.encS api_Seg.inK A57 r55) (fact_at 0 rfl) (fun w hR => run_loadRowFA (A := A57) (xs := r55) (i := 0) (j := 0) (n := 3) (vs := [.int .i64 t58.Vid, .int .i64 t58.Vni, slcV (A57.s (Int.toNat 0)) t58.Peers.length]) h59 (fun _ => by kernel_rfl) (by kernel_rfl) (by kernel_rfl) (by kernel_rfl) rfl hR) (by kernel_rfl) (by kernel_rfl) rfl ?_
  refine WL.know (Row 1 (pl (encI .u32)) noK (A57.s (Int.toNat 0)) t58.Peers) [0] [Row 3 api_Seg.encS api_Seg.inK A57 r55] (by kernel_rfl) (fun w hψ => ((hψ _ (List.mem_singleton.2 rfl)).inner _ _ (getL_parts h59).2)) ?_
  refine WL.run 1 [] [0, 2, 3, 4, 6, 7, 8, 11, 14, 17, 69, 70] (fun _ => [(0, .bool false), (2, .string r11), (3, .int .i64 r12), (4, .pointer (some ⟨b17, 0, none⟩)), (6, .pointer (some ⟨b27, 0, none⟩)), (7, .pointer (some ⟨b28, 0, none⟩)), (8, .int .i64 r24), (11, .int .i64 r35), (14, .int .i64 r42), (17, .int .i64 r51), (69, .agg #[.int .i64 t58.Vid, .int .i64 t58.Vni, slcV (A57.s (Int.toNat 0)) t58.Peers.length]), (70, .agg #[.int .u64 0, .int .u64 0, .bool false, .int .i64 0, .bool false, .int .i64 0, .int .i64 7, .string (⟨#[]⟩ : ByteArray)])]) (fun _ => [(b17, .cells #[.int .i64 r14.Why, .int .u32 r14.Src, .int .i64 r14.U.Src, .int .i64 r14.U.Dst, .bool r14.U.NoSum, .string r14.U.Body] 47 (0, 0)), (b27, .cells #[.int .i64 r22.Vid, .int .i64 r22.Vni, slcV A26 r22.Peers.length] 35 (0, 0)), (b28, .cells #[.int .u64 r23.Dst, .int .u64 r23.Src, .bool r23.Tag.Has, .int .i64 r23.Tag.Pri, .bool r23.Tag.Dei, .int .i64 r23.Tag.Vid, .int .i64 r23.Type_, .string r23.Body] 29 (0, 0))]) (fun _ => []) (fun _ => by kernel_rfl) (fun _ => ?_)
  obtain ⟨⟨r60, r61⟩, h62, hM⟩ := bind_some hM
  dsimp only at hM
  refine WL.callP [] [] (tunnel_Wrap_calls k (A57.s (Int.toNat 0)) 7 1 t58.Vid t58.Vni t58.Peers (api_Frame.mk 0 0 (api_Tag.mk false 0 false 0) 7 (⟨#[]⟩ : ByteArray)) 3 1500 _ h62) (sub_pick [0] (by kernel_rfl)) (by kernel_rfl) (by kernel_rfl) rfl ?_
  refine WL.run 5 [] [0, 2, 3, 4, 6, 7, 8, 11, 14, 17, 19] (fun _ => [(0, .bool false), (2, .string r11), (3, .int .i64 r12), (4, .pointer (some ⟨b17, 0, none⟩)), (6, .pointer (some ⟨b27, 0, none⟩)), (7, .pointer (some ⟨b28, 0, none⟩)), (8, .int .i64 r24), (11, .int .i64 r35), (14, .int .i64 r42), (17, .int .i64 r51), (19, .int .i64 r61)]) (fun _ => [(b17, .cells #[.int .i64 r14.Why, .int .u32 r14.Src, .int .i64 r14.U.Src, .int .i64 r14.U.Dst, .bool r14.U.NoSum, .string r14.U.Body] 47 (0, 0)), (b27, .cells #[.int .i64 r22.Vid, .int .i64 r22.Vni, slcV A26 r22.Peers.length] 35 (0, 0)), (b28, .cells #[.int .u64 r23.Dst, .int .u64 r23.Src, .bool r23.Tag.Has, .int .i64 r23.Tag.Pri, .bool r23.Tag.Dei, .int .i64 r23.Tag.Vid, .int .i64 r23.Type_, .string r23.Body] 29 (0, 0))]) (fun _ => []) (fun _ => by kernel_rfl) (fun _ => ?_)
  refine WP.done ?_
  refine WP.seq ?_
  refine WP.region ?_
  refine WL.run 3 [] [0, 2, 4, 6, 7, 8, 11, 14, 17, 19, 76] (fun _ => [(0, .bool false), (2, .string r11), (4, .pointer (some ⟨b17, 0, none⟩)), (6, .pointer (some ⟨b27, 0, none⟩)), (7, .pointer (some ⟨b28, 0, none⟩)), (8, .int .i64 r24), (11, .int .i64 r35), (14, .int .i64 r42), (17, .int .i64 r51), (19, .int .i64 r61), (76, .bool (r12 == 0))]) (fun _ => [(b17, .cells #[.int .i64 r14.Why, .int .u32 r14.Src, .int .i64 r14.U.Src, .int .i64 r14.U.Dst, .bool r14.U.NoSum, .string r14.U.Body] 47 (0, 0)), (b27, .cells #[.int .i64 r22.Vid, .int .i64 r22.Vni, slcV A26 r22.Peers.length] 35 (0, 0)), (b28, .cells #[.int .u64 r23.Dst, .int .u64 r23.Src, .bool r23.Tag.Has, .int .i64 r23.Tag.Pri, .bool r23.Tag.Dei, .int .i64 r23.Tag.Vid, .int .i64 r23.Type_, .string r23.Body] 29 (0, 0))]) (fun _ => []) (fun _ => by kernel_rfl) (fun _ => ?_)
  refine WL.sub [0, 2, 4, 6, 7, 8, 11, 14, 17, 19, 76] (L' := [(0, .bool false), (2, .string r11), (4, .pointer (some ⟨b17, 0, none⟩)), (6, .pointer (some ⟨b27, 0, none⟩)), (7, .pointer (some ⟨b28, 0, none⟩)), (8, .int .i64 r24), (11, .int .i64 r35), (14, .int .i64 r42), (17, .int .i64 r51), (19, .int .i64 r61), (76, .bool (r12 == 0))]) (by kernel_rfl) ?_
  refine WL.both (fun b' => [(0, .bool false), (2, .string r11), (4, .pointer (some ⟨b17, 0, none⟩)), (6, .pointer (some ⟨b27, 0, none⟩)), (7, .pointer (some ⟨b28, 0, none⟩)), (8, .int .i64 r24), (11, .int .i64 r35), (14, .int .i64 r42), (17, .int .i64 r51), (19, .int .i64 r61), (76, .bool b')]) (r12 == 0) 4 [] [] [0, 4, 6, 7, 8, 11, 14, 17, 19, 80] (fun b' => [(0, .bool false), (4, .pointer (some ⟨b17, 0, none⟩)), (6, .pointer (some ⟨b27, 0, none⟩)), (7, .pointer (some ⟨b28, 0, none⟩)), (8, .int .i64 r24), (11, .int .i64 r35), (14, .int .i64 r42), (17, .int .i64 r51), (19, .int .i64 r61), (80, .bool (b' && ((r11.size : Int) == 52)))]) [] [] (fun _ => by kernel_rfl) (fun _ => by kernel_rfl) ?_
  refine WL.run 1 [] [0, 4, 6, 7, 8, 11, 14, 17, 19, 81] (fun _ => [(0, .bool false), (4, .pointer (some ⟨b17, 0, none⟩)), (6, .pointer (some ⟨b27, 0, none⟩)), (7, .pointer (some ⟨b28, 0, none⟩)), (8, .int .i64 r24), (11, .int .i64 r35), (14, .int .i64 r42), (17, .int .i64 r51), (19, .int .i64 r61), (81, .bool ((r12 == 0) && ((r11.size : Int) == 52)))]) (fun _ => [(b17, .cells #[.int .i64 r14.Why, .int .u32 r14.Src, .int .i64 r14.U.Src, .int .i64 r14.U.Dst, .bool r14.U.NoSum, .string r14.U.Body] 47 (0, 0)), (b27, .cells #[.int .i64 r22.Vid, .int .i64 r22.Vni, slcV A26 r22.Peers.length] 35 (0, 0)), (b28, .cells #[.int .u64 r23.Dst, .int .u64 r23.Src, .bool r23.Tag.Has, .int .i64 r23.Tag.Pri, .bool r23.Tag.Dei, .int .i64 r23.Tag.Vid, .int .i64 r23.Type_, .string r23.Body] 29 (0, 0))]) (fun _ => []) (fun _ => by kernel_rfl) (fun _ => ?_)
  refine WL.sub [0, 4, 6, 7, 8, 11, 14, 17, 19, 81] (L' := [(0, .bool false), (4, .pointer (some ⟨b17, 0, none⟩)), (6, .pointer (some ⟨b27, 0, none⟩)), (7, .pointer (some ⟨b28, 0, none⟩)), (8, .int .i64 r24), (11, .int .i64 r35), (14, .int .i64 r42), (17, .int .i64 r51), (19, .int .i64 r61), (81, .bool ((r12 == 0) && ((r11.size : Int) == 52)))]) (by kernel_rfl) ?_
  refine WL.both (fun b' => [(0, .bool false), (4, .pointer (some ⟨b17, 0, none⟩)), (6, .pointer (some ⟨b27, 0, none⟩)), (7, .pointer (some ⟨b28, 0, none⟩)), (8, .int .i64 r24), (11, .int .i64 r35), (14, .int .i64 r42), (17, .int .i64 r51), (19, .int .i64 r61), (81, .bool b')]) ((r12 == 0) && ((r11.size : Int) == 52)) 4 [0] [] [0, 6, 7, 8, 11, 14, 17, 19, 85] (fun b' => [(0, .bool false), (6, .pointer (some ⟨b27, 0, none⟩)), (7, .pointer (some ⟨b28, 0, none⟩)), (8, .int .i64 r24), (11, .int .i64 r35), (14, .int .i64 r42), (17, .int .i64 r51), (19, .int .i64 r61), (85, .bool (b' && (r14.Why == 0)))]) [b17] [] (fun _ => by kernel_rfl) (fun _ => by kernel_rfl) ?_
  refine WL.run 1 [] [0, 6, 7, 8, 11, 14, 17, 19, 86] (fun _ => [(0, .bool false), (6, .pointer (some ⟨b27, 0, none⟩)), (7, .pointer (some ⟨b28, 0, none⟩)), (8, .int .i64 r24), (11, .int .i64 r35), (14, .int .i64 r42), (17, .int .i64 r51), (19, .int .i64 r61), (86, .bool (((r12 == 0) && ((r11.size : Int) == 52)) && (r14.Why == 0)))]) (fun _ => [(b17, .cells #[.int .i64 r14.Why, .int .u32 r14.Src, .int .i64 r14.U.Src, .int .i64 r14.U.Dst, .bool r14.U.NoSum, .string r14.U.Body] 47 (0, 0)), (b27, .cells #[.int .i64 r22.Vid, .int .i64 r22.Vni, slcV A26 r22.Peers.length] 35 (0, 0)), (b28, .cells #[.int .u64 r23.Dst, .int .u64 r23.Src, .bool r23.Tag.Has, .int .i64 r23.Tag.Pri, .bool r23.Tag.Dei, .int .i64 r23.Tag.Vid, .int .i64 r23.Type_, .string r23.Body] 29 (0, 0))]) (fun _ => []) (fun _ => by kernel_rfl) (fun _ => ?_)
  refine WL.sub [0, 6, 7, 8, 11, 14, 17, 19, 86] (L' := [(0, .bool false), (6, .pointer (some ⟨b27, 0, none⟩)), (7, .pointer (some ⟨b28, 0, none⟩)), (8, .int .i64 r24), (11, .int .i64 r35), (14, .int .i64 r42), (17, .int .i64 r51), (19, .int .i64 r61), (86, .bool (((r12 == 0) && ((r11.size : Int) == 52)) && (r14.Why == 0)))]) (by kernel_rfl) ?_
  refine WL.both (fun b' => [(0, .bool false), (6, .pointer (some ⟨b27, 0, none⟩)), (7, .pointer (some ⟨b28, 0, none⟩)), (8, .int .i64 r24), (11, .int .i64 r35), (14, .int .i64 r42), (17, .int .i64 r51), (19, .int .i64 r61), (86, .bool b')]) (((r12 == 0) && ((r11.size : Int) == 52)) && (r14.Why == 0)) 4 [1] [] [0, 7, 8, 11, 14, 17, 19, 90] (fun b' => [(0, .bool false), (7, .pointer (some ⟨b28, 0, none⟩)), (8, .int .i64 r24), (11, .int .i64 r35), (14, .int .i64 r42), (17, .int .i64 r51), (19, .int .i64 r61), (90, .bool (b' && (r22.Vid == 5)))]) [b27] [] (fun _ => by kernel_rfl) (fun _ => by kernel_rfl) ?_
  refine WL.run 1 [] [0, 7, 8, 11, 14, 17, 19, 91] (fun _ => [(0, .bool false), (7, .pointer (some ⟨b28, 0, none⟩)), (8, .int .i64 r24), (11, .int .i64 r35), (14, .int .i64 r42), (17, .int .i64 r51), (19, .int .i64 r61), (91, .bool ((((r12 == 0) && ((r11.size : Int) == 52)) && (r14.Why == 0)) && (r22.Vid == 5)))]) (fun _ => [(b17, .cells #[.int .i64 r14.Why, .int .u32 r14.Src, .int .i64 r14.U.Src, .int .i64 r14.U.Dst, .bool r14.U.NoSum, .string r14.U.Body] 47 (0, 0)), (b27, .cells #[.int .i64 r22.Vid, .int .i64 r22.Vni, slcV A26 r22.Peers.length] 35 (0, 0)), (b28, .cells #[.int .u64 r23.Dst, .int .u64 r23.Src, .bool r23.Tag.Has, .int .i64 r23.Tag.Pri, .bool r23.Tag.Dei, .int .i64 r23.Tag.Vid, .int .i64 r23.Type_, .string r23.Body] 29 (0, 0))]) (fun _ => []) (fun _ => by kernel_rfl) (fun _ => ?_)
  refine WL.sub [0, 7, 8, 11, 14, 17, 19, 91] (L' := [(0, .bool false), (7, .pointer (some ⟨b28, 0, none⟩)), (8, .int .i64 r24), (11, .int .i64 r35), (14, .int .i64 r42), (17, .int .i64 r51), (19, .int .i64 r61), (91, .bool ((((r12 == 0) && ((r11.size : Int) == 52)) && (r14.Why == 0)) && (r22.Vid == 5)))]) (by kernel_rfl) ?_
  refine WL.both (fun b' => [(0, .bool false), (7, .pointer (some ⟨b28, 0, none⟩)), (8, .int .i64 r24), (11, .int .i64 r35), (14, .int .i64 r42), (17, .int .i64 r51), (19, .int .i64 r61), (91, .bool b')]) ((((r12 == 0) && ((r11.size : Int) == 52)) && (r14.Why == 0)) && (r22.Vid == 5)) 3 [] [] [0, 7, 11, 14, 17, 19, 94] (fun b' => [(0, .bool false), (7, .pointer (some ⟨b28, 0, none⟩)), (11, .int .i64 r35), (14, .int .i64 r42), (17, .int .i64 r51), (19, .int .i64 r61), (94, .bool (b' && (r24 == 0)))]) [] [] (fun _ => by kernel_rfl) (fun _ => by kernel_rfl) ?_
  refine WL.run 1 [] [0, 7, 11, 14, 17, 19, 95] (fun _ => [(0, .bool false), (7, .pointer (some ⟨b28, 0, none⟩)), (11, .int .i64 r35), (14, .int .i64 r42), (17, .int .i64 r51), (19, .int .i64 r61), (95, .bool (((((r12 == 0) && ((r11.size : Int) == 52)) && (r14.Why == 0)) && (r22.Vid == 5)) && (r24 == 0)))]) (fun _ => [(b17, .cells #[.int .i64 r14.Why, .int .u32 r14.Src, .int .i64 r14.U.Src, .int .i64 r14.U.Dst, .bool r14.U.NoSum, .string r14.U.Body] 47 (0, 0)), (b27, .cells #[.int .i64 r22.Vid, .int .i64 r22.Vni, slcV A26 r22.Peers.length] 35 (0, 0)), (b28, .cells #[.int .u64 r23.Dst, .int .u64 r23.Src, .bool r23.Tag.Has, .int .i64 r23.Tag.Pri, .bool r23.Tag.Dei, .int .i64 r23.Tag.Vid, .int .i64 r23.Type_, .string r23.Body] 29 (0, 0))]) (fun _ => []) (fun _ => by kernel_rfl) (fun _ => ?_)
  refine WL.sub [0, 7, 11, 14, 17, 19, 95] (L' := [(0, .bool false), (7, .pointer (some ⟨b28, 0, none⟩)), (11, .int .i64 r35), (14, .int .i64 r42), (17, .int .i64 r51), (19, .int .i64 r61), (95, .bool (((((r12 == 0) && ((r11.size : Int) == 52)) && (r14.Why == 0)) && (r22.Vid == 5)) && (r24 == 0)))]) (by kernel_rfl) ?_
  refine WL.join (σ := Bool) 4 (fun st => gangwaylaw22_fixed.k1 r35 r42 r51 r61 st = some r) (fun st => [(0, .bool false), (11, .int .i64 r35), (14, .int .i64 r42), (17, .int .i64 r51), (19, .int .i64 r61), (99, .bool st)]) (fun st => Sat w Z [] [] ([Row 1 (pl (encI .u32)) noK (A57.s (Int.toNat 0)) t58.Peers, Row 3 api_Seg.encS api_Seg.inK A57 r55, Row 1 (pl (encI .u32)) noK A53 r49.Peers, Row 3 api_Seg.encS api_Seg.inK A48 r46, Row 1 (pl (encI .u32)) noK A44 r40.Peers, Row 3 api_Seg.encS api_Seg.inK (SkL.nil (fun _ => (SkL.nil (fun _ => ())))) ([] : List api_Seg), Row 3 api_Seg.encS api_Seg.inK A32 r30, Row 1 (pl (encI .u32)) noK A37 r33.Peers, Row 3 api_Seg.encS api_Seg.inK A21 r19, Row 1 (pl (encI .u32)) noK A26 r22.Peers, Row 3 api_Seg.encS api_Seg.inK A8 r6] ++ Glob)) (fun st hM => ?_) (fun K1 => ?_)
  ·
    obtain ⟨x64, rfl⟩ : ∃ y, y = st := ⟨st, rfl⟩
    replace hM : gangwaylaw22_fixed.k1 r35 r42 r51 r61 x64 = some r := hM
    unfold gangwaylaw22_fixed.k1 at hM
    show WL _ _ _ _ _ [(0, .bool false), (11, .int .i64 r35), (14, .int .i64 r42), (17, .int .i64 r51), (19, .int .i64 r61), (99, .bool x64)] (Sat w Z [] [] ([Row 1 (pl (encI .u32)) noK (A57.s (Int.toNat 0)) t58.Peers, Row 3 api_Seg.encS api_Seg.inK A57 r55, Row 1 (pl (encI .u32)) noK A53 r49.Peers, Row 3 api_Seg.encS api_Seg.inK A48 r46, Row 1 (pl (encI .u32)) noK A44 r40.Peers, Row 3 api_Seg.encS api_Seg.inK (SkL.nil (fun _ => (SkL.nil (fun _ => ())))) ([] : List api_Seg), Row 3 api_Seg.encS api_Seg.inK A32 r30, Row 1 (pl (encI .u32)) noK A37 r33.Peers, Row 3 api_Seg.encS api_Seg.inK A21 r19, Row 1 (pl (encI .u32)) noK A26 r22.Peers, Row 3 api_Seg.encS api_Seg.inK A8 r6] ++ Glob))
    refine WL.run 1 [] [0, 11, 14, 17, 19, 100] (fun _ => [(0, .bool false), (11, .int .i64 r35), (14, .int .i64 r42), (17, .int .i64 r51), (19, .int .i64 r61), (100, .bool x64)]) (fun _ => []) (fun _ => []) (fun _ => by kernel_rfl) (fun _ => ?_)
    refine WL.sub [0, 11, 14, 17, 19, 100] (L' := [(0, .bool false), (11, .int .i64 r35), (14, .int .i64 r42), (17, .int .i64 r51), (19, .int .i64 r61), (100, .bool x64)]) (by kernel_rfl) ?_
    refine WL.both (fun b' => [(0, .bool false), (11, .int .i64 r35), (14, .int .i64 r42), (17, .int .i64 r51), (19, .int .i64 r61), (100, .bool b')]) x64 3 [] [] [0, 14, 17, 19, 103] (fun b' => [(0, .bool false), (14, .int .i64 r42), (17, .int .i64 r51), (19, .int .i64 r61), (103, .bool (b' && (r35 == 3)))]) [] [] (fun _ => by kernel_rfl) (fun _ => by kernel_rfl) ?_
    refine WL.run 1 [] [0, 14, 17, 19, 104] (fun _ => [(0, .bool false), (14, .int .i64 r42), (17, .int .i64 r51), (19, .int .i64 r61), (104, .bool (x64 && (r35 == 3)))]) (fun _ => []) (fun _ => []) (fun _ => by kernel_rfl) (fun _ => ?_)
    refine WL.sub [0, 14, 17, 19, 104] (L' := [(0, .bool false), (14, .int .i64 r42), (17, .int .i64 r51), (19, .int .i64 r61), (104, .bool (x64 && (r35 == 3)))]) (by kernel_rfl) ?_
    refine WL.both (fun b' => [(0, .bool false), (14, .int .i64 r42), (17, .int .i64 r51), (19, .int .i64 r61), (104, .bool b')]) (x64 && (r35 == 3)) 3 [] [] [0, 17, 19, 107] (fun b' => [(0, .bool false), (17, .int .i64 r51), (19, .int .i64 r61), (107, .bool (b' && (r42 == 2)))]) [] [] (fun _ => by kernel_rfl) (fun _ => by kernel_rfl) ?_
    refine WL.run 1 [] [0, 17, 19, 108] (fun _ => [(0, .bool false), (17, .int .i64 r51), (19, .int .i64 r61), (108, .bool ((x64 && (r35 == 3)) && (r42 == 2)))]) (fun _ => []) (fun _ => []) (fun _ => by kernel_rfl) (fun _ => ?_)
    refine WL.sub [0, 17, 19, 108] (L' := [(0, .bool false), (17, .int .i64 r51), (19, .int .i64 r61), (108, .bool ((x64 && (r35 == 3)) && (r42 == 2)))]) (by kernel_rfl) ?_
    refine WL.both (fun b' => [(0, .bool false), (17, .int .i64 r51), (19, .int .i64 r61), (108, .bool b')]) ((x64 && (r35 == 3)) && (r42 == 2)) 3 [] [] [0, 19, 111] (fun b' => [(0, .bool false), (19, .int .i64 r61), (111, .bool (b' && (r51 == 1)))]) [] [] (fun _ => by kernel_rfl) (fun _ => by kernel_rfl) ?_
    refine WL.run 1 [] [0, 19, 112] (fun _ => [(0, .bool false), (19, .int .i64 r61), (112, .bool (((x64 && (r35 == 3)) && (r42 == 2)) && (r51 == 1)))]) (fun _ => []) (fun _ => []) (fun _ => by kernel_rfl) (fun _ => ?_)
    refine WL.sub [0, 19, 112] (L' := [(0, .bool false), (19, .int .i64 r61), (112, .bool (((x64 && (r35 == 3)) && (r42 == 2)) && (r51 == 1)))]) (by kernel_rfl) ?_
    refine WL.both (fun b' => [(0, .bool false), (19, .int .i64 r61), (112, .bool b')]) (((x64 && (r35 == 3)) && (r42 == 2)) && (r51 == 1)) 3 [] [] [0, 115] (fun b' => [(0, .bool false), (115, .bool (b' && (r61 == 220)))]) [] [] (fun _ => by kernel_rfl) (fun _ => by kernel_rfl) ?_
    refine WL.run 1 [] [0] (fun _ => [(0, .bool ((((x64 && (r35 == 3)) && (r42 == 2)) && (r51 == 1)) && (r61 == 220)))]) (fun _ => []) (fun _ => []) (fun _ => by kernel_rfl) (fun _ => ?_)
    refine WP.done ?_
    obtain rfl := Option.some.inj hM
    exact WP.ret [] [] (.bool ((((x64 && (r35 == 3)) && (r42 == 2)) && (r51 == 1)) && (r61 == 220))) (by kernel_rfl) (fun w' hw => ⟨rfl, (hw.pick [] rfl).less (fun _ h => List.mem_append_right _ h)⟩)
  ·
    refine WL.split (fun b' => [(0, .bool false), (7, .pointer (some ⟨b28, 0, none⟩)), (11, .int .i64 r35), (14, .int .i64 r42), (17, .int .i64 r51), (19, .int .i64 r61), (95, .bool b')]) (((((r12 == 0) && ((r11.size : Int) == 52)) && (r14.Why == 0)) && (r22.Vid == 5)) && (r24 == 0)) (fun c63 => ?_) (fun c63 => ?_)
    · replace hM := cond_t hM c63
      refine WL.run 2 [2, 2, 2, 2, 2, 2, 2, 2] [0, 11, 14, 17, 19, 95, 96, 97] (fun _ => [(0, .bool false), (11, .int .i64 r35), (14, .int .i64 r42), (17, .int .i64 r51), (19, .int .i64 r61), (95, .bool true), (96, .agg #[.int .u64 r23.Dst, .int .u64 r23.Src, .bool r23.Tag.Has, .int .i64 r23.Tag.Pri, .bool r23.Tag.Dei, .int .i64 r23.Tag.Vid, .int .i64 r23.Type_, .string r23.Body]), (97, .agg #[.int .u64 281474976710655, .int .u64 2, .bool false, .int .i64 0, .bool false, .int .i64 0, .int .i64 2048, .string (⟨#[104, 105]⟩ : ByteArray)])]) (fun _ => [(b17, .cells #[.int .i64 r14.Why, .int .u32 r14.Src, .int .i64 r14.U.Src, .int .i64 r14.U.Dst, .bool r14.U.NoSum, .string r14.U.Body] 47 (0, 0)), (b27, .cells #[.int .i64 r22.Vid, .int .i64 r22.Vni, slcV A26 r22.Peers.length] 35 (0, 0)), (b28, .cells #[.int .u64 r23.Dst, .int .u64 r23.Src, .bool r23.Tag.Has, .int .i64 r23.Tag.Pri, .bool r23.Tag.Dei, .int .i64 r23.Tag.Vid, .int .i64 r23.Type_, .string r23.Body] 29 (0, 0))]) (fun _ => [b28, b28, b28, b28, b28, b28, b28, b28]) (fun _ => by kernel_rfl) (fun _ => ?_)
      refine WL.val (fun _ => run_structEq (xs := #[.int .u64 r23.Dst, .int .u64 r23.Src, .bool r23.Tag.Has, .int .i64 r23.Tag.Pri, .bool r23.Tag.Dei, .int .i64 r23.Tag.Vid, .int .i64 r23.Type_, .string r23.Body]) (ys := #[.int .u64 281474976710655, .int .u64 2, .bool false, .int .i64 0, .bool false, .int .i64 0, .int .i64 2048, .string (⟨#[104, 105]⟩ : ByteArray)]) (b := ((r23.Dst == 281474976710655) && ((r23.Src == 2) && (((r23.Tag.Has == false) && ((r23.Tag.Pri == 0) && ((r23.Tag.Dei == false) && ((r23.Tag.Vid == 0) && true)))) && ((r23.Type_ == 2048) && ((r23.Body == (⟨#[104, 105]⟩ : ByteArray)) && true)))))) (by kernel_rfl) (by kernel_rfl) (by kernel_rfl) (by kernel_rfl)) (by kernel_rfl) (by kernel_rfl) rfl ?_
      refine WL.run 1 [] [0, 11, 14, 17, 19, 99] (fun _ => [(0, .bool false), (11, .int .i64 r35), (14, .int .i64 r42), (17, .int .i64 r51), (19, .int .i64 r61), (99, .bool ((r23.Dst == 281474976710655) && ((r23.Src == 2) && (((r23.Tag.Has == false) && ((r23.Tag.Pri == 0) && ((r23.Tag.Dei == false) && ((r23.Tag.Vid == 0) && true)))) && ((r23.Type_ == 2048) && ((r23.Body == (⟨#[104, 105]⟩ : ByteArray)) && true))))))]) (fun _ => [(b17, .cells #[.int .i64 r14.Why, .int .u32 r14.Src, .int .i64 r14.U.Src, .int .i64 r14.U.Dst, .bool r14.U.NoSum, .string r14.U.Body] 47 (0, 0)), (b27, .cells #[.int .i64 r22.Vid, .int .i64 r22.Vni, slcV A26 r22.Peers.length] 35 (0, 0)), (b28, .cells #[.int .u64 r23.Dst, .int .u64 r23.Src, .bool r23.Tag.Has, .int .i64 r23.Tag.Pri, .bool r23.Tag.Dei, .int .i64 r23.Tag.Vid, .int .i64 r23.Type_, .string r23.Body] 29 (0, 0))]) (fun _ => []) (fun _ => by kernel_rfl) (fun _ => ?_)
      exact WL.sub [0, 11, 14, 17, 19, 99] (by kernel_rfl) (WL.pick [] (by kernel_rfl) (by kernel_rfl) (WL.lessF [0, 1, 2, 3, 4, 5, 6, 7, 8, 9, 10] (by kernel_rfl) (K1 ((r23.Dst == 281474976710655) && ((r23.Src == 2) && (((r23.Tag.Has == false) && ((r23.Tag.Pri == 0) && ((r23.Tag.Dei == false) && ((r23.Tag.Vid == 0) && true)))) && ((r23.Type_ == 2048) && ((r23.Body == (⟨#[104, 105]⟩ : ByteArray)) && true))))) hM)))
    · replace hM := cond_f hM c63
      refine WL.run 4 [] [0, 11, 14, 17, 19, 99] (fun _ => [(0, .bool false), (11, .int .i64 r35), (14, .int .i64 r42), (17, .int .i64 r51), (19, .int .i64 r61), (99, .bool false)]) (fun _ => [(b17, .cells #[.int .i64 r14.Why, .int .u32 r14.Src, .int .i64 r14.U.Src, .int .i64 r14.U.Dst, .bool r14.U.NoSum, .string r14.U.Body] 47 (0, 0)), (b27, .cells #[.int .i64 r22.Vid, .int .i64 r22.Vni, slcV A26 r22.Peers.length] 35 (0, 0)), (b28, .cells #[.int .u64 r23.Dst, .int .u64 r23.Src, .bool r23.Tag.Has, .int .i64 r23.Tag.Pri, .bool r23.Tag.Dei, .int .i64 r23.Tag.Vid, .int .i64 r23.Type_, .string r23.Body] 29 (0, 0))]) (fun _ => []) (fun _ => by kernel_rfl) (fun _ => ?_)
      exact WL.sub [0, 11, 14, 17, 19, 99] (by kernel_rfl) (WL.pick [] (by kernel_rfl) (by kernel_rfl) (WL.lessF [0, 1, 2, 3, 4, 5, 6, 7, 8, 9, 10] (by kernel_rfl) (K1 false hM)))

end Go.Proofs.YtbodofjnfmjbpaaGreatDoor

namespace Go.Proofs.YtbodofjnfmjbpaaGreatDoor
open Go Eng
set_option linter.unusedVariables false
set_option linter.unusedSimpArgs false

/-! ### gangway/gangwaylaw22.TunnelBack: function 5 -/
def gangwaylaw22_TunnelBack.k1 (x11 : Bool) : Option (Bool) :=
  some x11

def gangwaylaw22_TunnelBack.k2 (x36 : Bool) : Option (Bool) :=
  some x36

def gangwaylaw22_TunnelBack.k3 (r17 : api_Seg) (r26 : Int) (k : Nat) (x32 : Bool) : Option (Bool) :=
  bif ((x32 && (r17.Vid == 5)) && (r26 == 2)) then
    (gangwaylaw22_fixed.f k).bind fun r34 =>
    gangwaylaw22_TunnelBack.k2 r34
  else
    gangwaylaw22_TunnelBack.k2 false

def gangwaylaw22_TunnelBack.f (k : Nat) (a0 : gangwaylaw22_Way) (a1 : Int) (a2 : api_Frame) : Option (Bool) :=
  (sliceS a2.Body 0 (imin (a2.Body.size : Int) 1400)).bind fun t2 =>
  (tunnel_Wrap.f k (bOr .u32 a0.Src 1) a0.Dst 9 (bAnd .i64 a1 16777215) ([] : List Int) (api_Frame.mk a2.Dst a2.Src a2.Tag a2.Type_ t2) a0.Id 1700).bind fun (r4, r5) =>
  bif (r5 != 0) then
    bif (r4.toList == (⟨#[]⟩ : ByteArray).toList) then
      (gangwaylaw22_fixed.f k).bind fun r9 =>
      gangwaylaw22_TunnelBack.k1 r9
    else
      gangwaylaw22_TunnelBack.k1 false
  else
    (station_Take.f k 2 a0.Dst (api_Frame.mk 2 6 (api_Tag.mk false 0 false 0) 2048 r4)).bind fun (r12, r13) =>
    (tunnel_Unwrap.f k ([(api_Seg.mk 5 (bAnd .i64 a1 16777215) ([bOr .u32 a0.Src 1] : List Int))] : List api_Seg) r12.Src r12.U).bind fun (r17, r18, r19) =>
    (tunnel_Unwrap.f k ([(api_Seg.mk 5 (bXor .i64 (bAnd .i64 a1 16777215) 1) ([bOr .u32 a0.Src 1] : List Int))] : List api_Seg) r12.Src r12.U).bind fun (r24, r25, r26) =>
    bif (((r12.Why == 0) && (r12.Src == (bOr .u32 a0.Src 1))) && (r19 == 0)) then
      gangwaylaw22_TunnelBack.k3 r17 r26 k ((r18.Dst == a2.Dst) && ((r18.Src == a2.Src) && (((r18.Tag.Has == false) && ((r18.Tag.Pri == 0) && ((r18.Tag.Dei == false) && ((r18.Tag.Vid == 0) && true)))) && ((r18.Type_ == a2.Type_) && ((r18.Body == t2) && true)))))
    else
      gangwaylaw22_TunnelBack.k3 r17 r26 k false

set_option maxRecDepth 100000 in
theorem gangwaylaw22_TunnelBack_calls (k : Nat) (a0 : gangwaylaw22_Way) (a1 : Int) (a2 : api_Frame) (r : Bool) (h : gangwaylaw22_TunnelBack.f k a0 a1 a2 = some r) : Pure Tryz.prog Glob 5 #[.agg #[.int .u32 a0.Src, .int .u32 a0.Dst, .int .i64 a0.Id, .int .i64 a0.Most], .int .i64 a1, .agg #[.int .u64 a2.Dst, .int .u64 a2.Src, .bool a2.Tag.Has, .int .i64 a2.Tag.Pri, .bool a2.Tag.Dei, .int .i64 a2.Tag.Vid, .int .i64 a2.Type_, .string a2.Body]] (.bool r) := by
  intro w Z hS
  refine calls_of (args := [.agg #[.int .u32 a0.Src, .int .u32 a0.Dst, .int .i64 a0.Id, .int .i64 a0.Most], .int .i64 a1, .agg #[.int .u64 a2.Dst, .int .u64 a2.Src, .bool a2.Tag.Has, .int .i64 a2.Tag.Pri, .bool a2.Tag.Dei, .int .i64 a2.Tag.Vid, .int .i64 a2.Type_, .string a2.Body]]) (L := [(0, .agg #[.int .u32 a0.Src, .int .u32 a0.Dst, .int .i64 a0.Id, .int .i64 a0.Most]), (1, .int .i64 a1), (2, .agg #[.int .u64 a2.Dst, .int .u64 a2.Src, .bool a2.Tag.Has, .int .i64 a2.Tag.Pri, .bool a2.Tag.Dei, .int .i64 a2.Tag.Vid, .int .i64 a2.Type_, .string a2.Body])]) (N := 123) (S := Sat w Z [] [] Glob) Tryz.func5 rfl rfl (Nat.le_of_ble_eq_true rfl) rfl hS ?_
  have hM := h
  clear h hS
  unfold gangwaylaw22_TunnelBack.f at hM
  refine WP.less (Φ' := [] ++ Glob) (fun _ h => h) ?_
  refine WP.seq ?_
  refine WP.run [] [1, 3, 5, 6] (fun b1 => [(1, .int .i64 a1), (3, .pointer (some ⟨b1, 0, none⟩)), (5, .pointer (some ⟨(b1 + 1), 0, none⟩)), (6, .bool false)]) (fun b1 => [(b1, .cells #[.int .u32 a0.Src, .int .u32 a0.Dst, .int .i64 a0.Id, .int .i64 a0.Most] 24 (0, 0)), ((b1 + 1), .cells #[.int .u64 a2.Dst, .int .u64 a2.Src, .bool a2.Tag.Has, .int .i64 a2.Tag.Pri, .bool a2.Tag.Dei, .int .i64 a2.Tag.Vid, .int .i64 a2.Type_, .string a2.Body] 29 (0, 0))]) (fun b1 => []) (fun b1 => by kernel_rfl) (fun b1 => ?_)
  refine WP.seq ?_
  refine WP.region ?_
  refine WL.run 6 [1, 1] [1, 3, 5, 6, 22, 26] (fun _ => [(1, .int .i64 a1), (3, .pointer (some ⟨b1, 0, none⟩)), (5, .pointer (some ⟨(b1 + 1), 0, none⟩)), (6, .bool false), (22, .string a2.Body), (26, .int .i64 (imin (a2.Body.size : Int) 1400))]) (fun _ => [(b1, .cells #[.int .u32 a0.Src, .int .u32 a0.Dst, .int .i64 a0.Id, .int .i64 a0.Most] 24 (0, 0)), ((b1 + 1), .cells #[.int .u64 a2.Dst, .int .u64 a2.Src, .bool a2.Tag.Has, .int .i64 a2.Tag.Pri, .bool a2.Tag.Dei, .int .i64 a2.Tag.Vid, .int .i64 a2.Type_, .string a2.Body] 29 (0, 0))]) (fun _ => [(b1 + 1), (b1 + 1)]) (fun _ => by kernel_rfl) (fun _ => ?_)
  obtain ⟨t2, h3, hM⟩ := bind_some hM
  refine WL.val (fun _ => run_sliceS_hi (s := a2.Body) (kh := .i64) (h := imin (a2.Body.size : Int) 1400) (by kernel_rfl) (by kernel_rfl) (by kernel_rfl) h3) (by kernel_rfl) (by kernel_rfl) rfl ?_
  refine WL.run 2 [1] [1, 3, 5, 6] (fun _ => [(1, .int .i64 a1), (3, .pointer (some ⟨b1, 0, none⟩)), (5, .pointer (some ⟨(b1 + 1), 0, none⟩)), (6, .bool false)]) (fun _ => [(b1, .cells #[.int .u32 a0.Src, .int .u32 a0.Dst, .int .i64 a0.Id, .int .i64 a0.Most] 24 (0, 0)), ((b1 + 1), .cells #[.int .u64 a2.Dst, .int .u64 a2.Src, .bool a2.Tag.Has, .int .i64 a2.Tag.Pri, .bool a2.Tag.Dei, .int .i64 a2.Tag.Vid, .int .i64 a2.Type_, .string t2] 29 (0, 0))]) (fun _ => [(b1 + 1)]) (fun _ => by kernel_rfl) (fun _ => ?_)
  refine WP.done ?_
  refine WP.seq ?_
  refine WP.run [] [3, 5, 6, 7] (fun _ => [(3, .pointer (some ⟨b1, 0, none⟩)), (5, .pointer (some ⟨(b1 + 1), 0, none⟩)), (6, .bool false), (7, .int .i64 (bAnd .i64 a1 16777215))]) (fun _ => [(b1, .cells #[.int .u32 a0.Src, .int .u32 a0.Dst, .int .i64 a0.Id, .int .i64 a0.Most] 24 (0, 0)), ((b1 + 1), .cells #[.int .u64 a2.Dst, .int .u64 a2.Src, .bool a2.Tag.Has, .int .i64 a2.Tag.Pri, .bool a2.Tag.Dei, .int .i64 a2.Tag.Vid, .int .i64 a2.Type_, .string t2] 29 (0, 0))]) (fun _ => []) (fun _ => by kernel_rfl) (fun _ => ?_)
  refine WP.seq ?_
  refine WP.quiet (by kernel_rfl) (by kernel_rfl) ?_
  refine QL.run 7 [0, 0] [3, 5, 6, 7, 8, 9] [b1, b1] [(3, .pointer (some ⟨b1, 0, none⟩)), (5, .pointer (some ⟨(b1 + 1), 0, none⟩)), (6, .bool false), (7, .int .i64 (bAnd .i64 a1 16777215)), (8, .int .u32 (bOr .u32 a0.Src 1)), (9, .int .u32 a0.Dst)] (by kernel_rfl) ?_
  refine QL.done ?_
  refine WP.seq ?_
  refine WP.region ?_
  refine WL.run 7 [1, 1, 1, 1, 1, 1, 1, 1, 0] [5, 6, 7, 8, 9, 37, 38, 40, 41, 43] (fun _ => [(5, .pointer (some ⟨(b1 + 1), 0, none⟩)), (6, .bool false), (7, .int .i64 (bAnd .i64 a1 16777215)), (8, .int .u32 (bOr .u32 a0.Src 1)), (9, .int .u32 a0.Dst), (37, .int .u32 (bOr .u32 a0.Src 1)), (38, .int .u32 a0.Dst), (40, .agg #[.int .i64 9, .int .i64 (bAnd .i64 a1 16777215), .slice none 0 0]), (41, .agg #[.int .u64 a2.Dst, .int .u64 a2.Src, .bool a2.Tag.Has, .int .i64 a2.Tag.Pri, .bool a2.Tag.Dei, .int .i64 a2.Tag.Vid, .int .i64 a2.Type_, .string t2]), (43, .int .i64 a0.Id)]) (fun _ => [(b1, .cells #[.int .u32 a0.Src, .int .u32 a0.Dst, .int .i64 a0.Id, .int .i64 a0.Most] 24 (0, 0)), ((b1 + 1), .cells #[.int .u64 a2.Dst, .int .u64 a2.Src, .bool a2.Tag.Has, .int .i64 a2.Tag.Pri, .bool a2.Tag.Dei, .int .i64 a2.Tag.Vid, .int .i64 a2.Type_, .string t2] 29 (0, 0))]) (fun _ => [b1, (b1 + 1), (b1 + 1), (b1 + 1), (b1 + 1), (b1 + 1), (b1 + 1), (b1 + 1), (b1 + 1)]) (fun _ => by kernel_rfl) (fun _ => ?_)
  refine WL.know (Row 1 (pl (encI .u32)) noK (SkL.nil (fun _ => ())) ([] : List Int)) [] [] (by kernel_rfl) (fun w _ => RowP.empty (fun _ => rfl)) ?_
  obtain ⟨⟨r4, r5⟩, h6, hM⟩ := bind_some hM
  dsimp only at hM
  refine WL.callP [] [] (tunnel_Wrap_calls k (SkL.nil (fun _ => ())) (bOr .u32 a0.Src 1) a0.Dst 9 (bAnd .i64 a1 16777215) ([] : List Int) (api_Frame.mk a2.Dst a2.Src a2.Tag a2.Type_ t2) a0.Id 1700 _ h6) (sub_pick [0] (by kernel_rfl)) (by kernel_rfl) (by kernel_rfl) rfl ?_
  refine WL.run 5 [] [5, 6, 7, 8, 9, 10, 11] (fun _ => [(5, .pointer (some ⟨(b1 + 1), 0, none⟩)), (6, .bool false), (7, .int .i64 (bAnd .i64 a1 16777215)), (8, .int .u32 (bOr .u32 a0.Src 1)), (9, .int .u32 a0.Dst), (10, .string r4), (11, .int .i64 r5)]) (fun _ => [(b1, .cells #[.int .u32 a0.Src, .int .u32 a0.Dst, .int .i64 a0.Id, .int .i64 a0.Most] 24 (0, 0)), ((b1 + 1), .cells #[.int .u64 a2.Dst, .int .u64 a2.Src, .bool a2.Tag.Has, .int .i64 a2.Tag.Pri, .bool a2.Tag.Dei, .int .i64 a2.Tag.Vid, .int .i64 a2.Type_, .string t2] 29 (0, 0))]) (fun _ => []) (fun _ => by kernel_rfl) (fun _ => ?_)
  refine WP.done ?_
  refine WP.keep [false, true] (by kernel_rfl : _ = [((b1 + 1), .cells #[.int .u64 a2.Dst, .int .u64 a2.Src, .bool a2.Tag.Has, .int .i64 a2.Tag.Pri, .bool a2.Tag.Dei, .int .i64 a2.Tag.Vid, .int .i64 a2.Type_, .string t2] 29 (0, 0))]) ?_
  refine WP.seq ?_
  refine WP.seq ?_
  refine WP.run [] [5, 6, 7, 8, 9, 10, 48] (fun _ => [(5, .pointer (some ⟨(b1 + 1), 0, none⟩)), (6, .bool false), (7, .int .i64 (bAnd .i64 a1 16777215)), (8, .int .u32 (bOr .u32 a0.Src 1)), (9, .int .u32 a0.Dst), (10, .string r4), (48, .bool (r5 != 0))]) (fun _ => [((b1 + 1), .cells #[.int .u64 a2.Dst, .int .u64 a2.Src, .bool a2.Tag.Has, .int .i64 a2.Tag.Pri, .bool a2.Tag.Dei, .int .i64 a2.Tag.Vid, .int .i64 a2.Type_, .string t2] 29 (0, 0))]) (fun _ => []) (fun _ => by kernel_rfl) (fun _ => ?_)
  refine WP.cond (r5 != 0) rfl rfl (fun c7 => ?_) (fun c7 => ?_)
  · replace hM := cond_t hM c7
    refine WP.seq ?_
    refine WP.region ?_
    refine WL.run 3 [] [5, 6, 7, 8, 9, 10, 51] (fun _ => [(5, .pointer (some ⟨(b1 + 1), 0, none⟩)), (6, .bool false), (7, .int .i64 (bAnd .i64 a1 16777215)), (8, .int .u32 (bOr .u32 a0.Src 1)), (9, .int .u32 a0.Dst), (10, .string r4), (51, .bool (r4.toList == (⟨#[]⟩ : ByteArray).toList))]) (fun _ => [((b1 + 1), .cells #[.int .u64 a2.Dst, .int .u64 a2.Src, .bool a2.Tag.Has, .int .i64 a2.Tag.Pri, .bool a2.Tag.Dei, .int .i64 a2.Tag.Vid, .int .i64 a2.Type_, .string t2] 29 (0, 0))]) (fun _ => []) (fun _ => by kernel_rfl) (fun _ => ?_)
    refine WL.sub [5, 6, 7, 8, 9, 10, 51] (L' := [(5, .pointer (some ⟨(b1 + 1), 0, none⟩)), (6, .bool false), (7, .int .i64 (bAnd .i64 a1 16777215)), (8, .int .u32 (bOr .u32 a0.Src 1)), (9, .int .u32 a0.Dst), (10, .string r4), (51, .bool (r4.toList == (⟨#[]⟩ : ByteArray).toList))]) (by kernel_rfl) ?_
    refine WL.join (σ := Bool) 2 (fun st => gangwaylaw22_TunnelBack.k1 st = some r) (fun st => [(5, .pointer (some ⟨(b1 + 1), 0, none⟩)), (6, .bool false), (7, .int .i64 (bAnd .i64 a1 16777215)), (8, .int .u32 (bOr .u32 a0.Src 1)), (9, .int .u32 a0.Dst), (10, .string r4), (53, .bool st)]) (fun st => Sat w Z [((b1 + 1), .cells #[.int .u64 a2.Dst, .int .u64 a2.Src, .bool a2.Tag.Has, .int .i64 a2.Tag.Pri, .bool a2.Tag.Dei, .int .i64 a2.Tag.Vid, .int .i64 a2.Type_, .string t2] 29 (0, 0))] [] ([Row 1 (pl (encI .u32)) noK (SkL.nil (fun _ => ())) ([] : List Int)] ++ Glob)) (fun st hM => ?_) (fun K1 => ?_)
    ·
      obtain ⟨x11, rfl⟩ : ∃ y, y = st := ⟨st, rfl⟩
      replace hM : gangwaylaw22_TunnelBack.k1 x11 = some r := hM
      unfold gangwaylaw22_TunnelBack.k1 at hM
      show WL _ _ _ _ _ [(5, .pointer (some ⟨(b1 + 1), 0, none⟩)), (6, .bool false), (7, .int .i64 (bAnd .i64 a1 16777215)), (8, .int .u32 (bOr .u32 a0.Src 1)), (9, .int .u32 a0.Dst), (10, .string r4), (53, .bool x11)] (Sat w Z [((b1 + 1), .cells #[.int .u64 a2.Dst, .int .u64 a2.Src, .bool a2.Tag.Has, .int .i64 a2.Tag.Pri, .bool a2.Tag.Dei, .int .i64 a2.Tag.Vid, .int .i64 a2.Type_, .string t2] 29 (0, 0))] [] ([Row 1 (pl (encI .u32)) noK (SkL.nil (fun _ => ())) ([] : List Int)] ++ Glob))
      refine WL.run 1 [] [5, 6, 7, 8, 9, 10] (fun _ => [(5, .pointer (some ⟨(b1 + 1), 0, none⟩)), (6, .bool x11), (7, .int .i64 (bAnd .i64 a1 16777215)), (8, .int .u32 (bOr .u32 a0.Src 1)), (9, .int .u32 a0.Dst), (10, .string r4)]) (fun _ => [((b1 + 1), .cells #[.int .u64 a2.Dst, .int .u64 a2.Src, .bool a2.Tag.Has, .int .i64 a2.Tag.Pri, .bool a2.Tag.Dei, .int .i64 a2.Tag.Vid, .int .i64 a2.Type_, .string t2] 29 (0, 0))]) (fun _ => []) (fun _ => by kernel_rfl) (fun _ => ?_)
      refine WP.done ?_
      obtain rfl := Option.some.inj hM
      exact WP.ret [] [] (.bool x11) (by kernel_rfl) (fun w' hw => ⟨rfl, (hw.pick [] rfl).less (fun _ h => List.mem_append_right _ h)⟩)
    ·
      refine WL.split (fun b' => [(5, .pointer (some ⟨(b1 + 1), 0, none⟩)), (6, .bool false), (7, .int .i64 (bAnd .i64 a1 16777215)), (8, .int .u32 (bOr .u32 a0.Src 1)), (9, .int .u32 a0.Dst), (10, .string r4), (51, .bool b')]) (r4.toList == (⟨#[]⟩ : ByteArray).toList) (fun c8 => ?_) (fun c8 => ?_)
      · replace hM := cond_t hM c8
        obtain ⟨r9, h10, hM⟩ := bind_some hM
        refine WL.callP [] [] (gangwaylaw22_fixed_calls k _ h10) (fun _ h => List.mem_append_right _ h) (by kernel_rfl) (by kernel_rfl) rfl ?_
        refine WL.run 1 [] [5, 6, 7, 8, 9, 10, 53] (fun _ => [(5, .pointer (some ⟨(b1 + 1), 0, none⟩)), (6, .bool false), (7, .int .i64 (bAnd .i64 a1 16777215)), (8, .int .u32 (bOr .u32 a0.Src 1)), (9, .int .u32 a0.Dst), (10, .string r4), (53, .bool r9)]) (fun _ => [((b1 + 1), .cells #[.int .u64 a2.Dst, .int .u64 a2.Src, .bool a2.Tag.Has, .int .i64 a2.Tag.Pri, .bool a2.Tag.Dei, .int .i64 a2.Tag.Vid, .int .i64 a2.Type_, .string t2] 29 (0, 0))]) (fun _ => []) (fun _ => by kernel_rfl) (fun _ => ?_)
        exact WL.sub [5, 6, 7, 8, 9, 10, 53] (by kernel_rfl) (WL.pick [0] (by kernel_rfl) (by kernel_rfl) (WL.lessF [0] (by kernel_rfl) (K1 r9 hM)))
      · replace hM := cond_f hM c8
        refine WL.run 2 [] [5, 6, 7, 8, 9, 10, 53] (fun _ => [(5, .pointer (some ⟨(b1 + 1), 0, none⟩)), (6, .bool false), (7, .int .i64 (bAnd .i64 a1 16777215)), (8, .int .u32 (bOr .u32 a0.Src 1)), (9, .int .u32 a0.Dst), (10, .string r4), (53, .bool false)]) (fun _ => [((b1 + 1), .cells #[.int .u64 a2.Dst, .int .u64 a2.Src, .bool a2.Tag.Has, .int .i64 a2.Tag.Pri, .bool a2.Tag.Dei, .int .i64 a2.Tag.Vid, .int .i64 a2.Type_, .string t2] 29 (0, 0))]) (fun _ => []) (fun _ => by kernel_rfl) (fun _ => ?_)
        exact WL.sub [5, 6, 7, 8, 9, 10, 53] (by kernel_rfl) (WL.pick [0] (by kernel_rfl) (by kernel_rfl) (WL.lessF [0] (by kernel_rfl) (K1 false hM)))
  · replace hM := cond_f hM c7
    refine WP.skip ?_
    refine WP.seq ?_
    refine WP.region ?_
    refine WL.run 3 [] [5, 6, 7, 8, 55, 57] (fun _ => [(5, .pointer (some ⟨(b1 + 1), 0, none⟩)), (6, .bool false), (7, .int .i64 (bAnd .i64 a1 16777215)), (8, .int .u32 (bOr .u32 a0.Src 1)), (55, .int .u32 a0.Dst), (57, .agg #[.int .u64 2, .int .u64 6, .bool false, .int .i64 0, .bool false, .int .i64 0, .int .i64 2048, .string r4])]) (fun _ => [((b1 + 1), .cells #[.int .u64 a2.Dst, .int .u64 a2.Src, .bool a2.Tag.Has, .int .i64 a2.Tag.Pri, .bool a2.Tag.Dei, .int .i64 a2.Tag.Vid, .int .i64 a2.Type_, .string t2] 29 (0, 0))]) (fun _ => []) (fun _ => by kernel_rfl) (fun _ => ?_)
    obtain ⟨⟨r12, r13⟩, h14, hM⟩ := bind_some hM
    dsimp only at hM
    refine WL.callP [] [] (station_Take_calls k 2 a0.Dst (api_Frame.mk 2 6 (api_Tag.mk false 0 false 0) 2048 r4) _ h14) (fun _ h => List.mem_append_right _ h) (by kernel_rfl) (by kernel_rfl) rfl ?_
    refine WL.run 7 [1, 1, 1, 1, 1, 1, 2, 2, 2, 2, 2] [5, 6, 7, 8, 12] (fun b15 => [(5, .pointer (some ⟨(b1 + 1), 0, none⟩)), (6, .bool false), (7, .int .i64 (bAnd .i64 a1 16777215)), (8, .int .u32 (bOr .u32 a0.Src 1)), (12, .pointer (some ⟨b15, 0, none⟩))]) (fun b15 => [((b1 + 1), .cells #[.int .u64 a2.Dst, .int .u64 a2.Src, .bool a2.Tag.Has, .int .i64 a2.Tag.Pri, .bool a2.Tag.Dei, .int .i64 a2.Tag.Vid, .int .i64 a2.Type_, .string t2] 29 (0, 0)), (b15, .cells #[.int .i64 r12.Why, .int .u32 r12.Src, .int .i64 r12.U.Src, .int .i64 r12.U.Dst, .bool r12.U.NoSum, .string r12.U.Body] 47 (0, 0)), ((b15 + 1), .cells #[.int .i64 r13.Op, .int .u64 r13.SMac, .int .u32 r13.SIp, .int .u64 r13.TMac, .int .u32 r13.TIp] 49 (0, 0))]) (fun b15 => [(b15 + 1), (b15 + 1), (b15 + 1), (b15 + 1), (b15 + 1), b15, b15, b15, b15, b15, b15]) (fun b15 => by kernel_rfl) (fun b15 => ?_)
    refine WP.done ?_
    refine WP.keep [true, true, false] (by kernel_rfl : _ = [((b1 + 1), .cells #[.int .u64 a2.Dst, .int .u64 a2.Src, .bool a2.Tag.Has, .int .i64 a2.Tag.Pri, .bool a2.Tag.Dei, .int .i64 a2.Tag.Vid, .int .i64 a2.Type_, .string t2] 29 (0, 0)), (b15, .cells #[.int .i64 r12.Why, .int .u32 r12.Src, .int .i64 r12.U.Src, .int .i64 r12.U.Dst, .bool r12.U.NoSum, .string r12.U.Body] 47 (0, 0))]) ?_
    refine WP.seq ?_
    refine WP.region ?_
    refine WL.run 9 [1, 1, 1, 1, 1] [5, 6, 7, 8, 12, 66, 68, 70] (fun b16 => [(5, .pointer (some ⟨(b1 + 1), 0, none⟩)), (6, .bool false), (7, .int .i64 (bAnd .i64 a1 16777215)), (8, .int .u32 (bOr .u32 a0.Src 1)), (12, .pointer (some ⟨b15, 0, none⟩)), (66, .slice (some ⟨(b16 + 1), 0, none⟩) 1 1), (68, .int .u32 r12.Src), (70, .agg #[.int .i64 r12.U.Src, .int .i64 r12.U.Dst, .bool r12.U.NoSum, .string r12.U.Body])]) (fun b16 => [((b1 + 1), .cells #[.int .u64 a2.Dst, .int .u64 a2.Src, .bool a2.Tag.Has, .int .i64 a2.Tag.Pri, .bool a2.Tag.Dei, .int .i64 a2.Tag.Vid, .int .i64 a2.Type_, .string t2] 29 (0, 0)), (b15, .cells #[.int .i64 r12.Why, .int .u32 r12.Src, .int .i64 r12.U.Src, .int .i64 r12.U.Dst, .bool r12.U.NoSum, .string r12.U.Body] 47 (0, 0)), (b16, .cells #[.int .u32 (bOr .u32 a0.Src 1)] 22 (0, 0)), ((b16 + 1), .cells #[.int .i64 5, .int .i64 (bAnd .i64 a1 16777215), .slice (some ⟨b16, 0, none⟩) 1 1] 35 (0, 0))]) (fun b16 => [b15, b15, b15, b15, b15]) (fun b16 => by kernel_rfl) (fun b16 => ?_)
    refine WL.ice (H' := [((b1 + 1), .cells #[.int .u64 a2.Dst, .int .u64 a2.Src, .bool a2.Tag.Has, .int .i64 a2.Tag.Pri, .bool a2.Tag.Dei, .int .i64 a2.Tag.Vid, .int .i64 a2.Type_, .string t2] 29 (0, 0)), (b15, .cells #[.int .i64 r12.Why, .int .u32 r12.Src, .int .i64 r12.U.Src, .int .i64 r12.U.Dst, .bool r12.U.NoSum, .string r12.U.Body] 47 (0, 0)), ((b16 + 1), .cells #[.int .i64 5, .int .i64 (bAnd .i64 a1 16777215), slcV (SkL.at b16 1 (fun _ => ())) ([bOr .u32 a0.Src 1] : List Int).length] 35 (0, 0))]) (Row 1 (pl (encI .u32)) noK (SkL.at b16 1 (fun _ => ())) ([bOr .u32 a0.Src 1] : List Int)) 2 (b := b16) (ob := .cells #[.int .u32 (bOr .u32 a0.Src 1)] 22 (0, 0)) (by kernel_rfl) [] [] (by kernel_rfl) (fun w hb hψ => row_of_block hb (fun _ _ => rfl) ⟨[], by kernel_rfl⟩ (Nat.le_of_ble_eq_true rfl) (InK.no _ _)) (by kernel_rfl) ?_
    refine WL.ice (H' := [((b1 + 1), .cells #[.int .u64 a2.Dst, .int .u64 a2.Src, .bool a2.Tag.Has, .int .i64 a2.Tag.Pri, .bool a2.Tag.Dei, .int .i64 a2.Tag.Vid, .int .i64 a2.Type_, .string t2] 29 (0, 0)), (b15, .cells #[.int .i64 r12.Why, .int .u32 r12.Src, .int .i64 r12.U.Src, .int .i64 r12.U.Dst, .bool r12.U.NoSum, .string r12.U.Body] 47 (0, 0))]) (Row 3 api_Seg.encS api_Seg.inK (SkL.at (b16 + 1) 1 (skF [(SkL.at b16 1 (fun _ => ()))] (SkL.nil (fun _ => ())))) ([(api_Seg.mk 5 (bAnd .i64 a1 16777215) ([bOr .u32 a0.Src 1] : List Int))] : List api_Seg)) 2 (b := (b16 + 1)) (ob := .cells #[.int .i64 5, .int .i64 (bAnd .i64 a1 16777215), slcV (SkL.at b16 1 (fun _ => ())) ([bOr .u32 a0.Src 1] : List Int).length] 35 (0, 0)) (by kernel_rfl) [0] [Row 1 (pl (encI .u32)) noK (SkL.at b16 1 (fun _ => ())) ([bOr .u32 a0.Src 1] : List Int)] (by kernel_rfl) (fun w hb hψ => row_of_block hb (fun _ _ => rfl) ⟨[], by kernel_rfl⟩ (Nat.le_of_ble_eq_true rfl) (And.intro (hψ _ (List.mem_of_getElem? (i := 0) rfl)) trivial)) (by kernel_rfl) ?_
    obtain ⟨⟨r17, r18, r19⟩, h20, hM⟩ := bind_some hM
    dsimp only at hM
    refine WL.callX (F0 := [Row 3 api_Seg.encS api_Seg.inK (SkL.at (b16 + 1) 1 (skF [(SkL.at b16 1 (fun _ => ()))] (SkL.nil (fun _ => ())))) ([(api_Seg.mk 5 (bAnd .i64 a1 16777215) ([bOr .u32 a0.Src 1] : List Int))] : List api_Seg)]) [] [] [false, false] (fun _ => _) [0] (by kernel_rfl) (tunnel_Unwrap_calls k (SkL.at (b16 + 1) 1 (skF [(SkL.at b16 1 (fun _ => ()))] (SkL.nil (fun _ => ())))) ([(api_Seg.mk 5 (bAnd .i64 a1 16777215) ([bOr .u32 a0.Src 1] : List Int))] : List api_Seg) r12.Src r12.U _ h20) rfl rfl (by kernel_rfl) (by kernel_rfl) (fun _ => rfl) (fun A21 => ?_)
    refine WL.run 9 [2, 2, 2, 3, 3, 3, 3, 3, 3, 3, 3] [5, 6, 7, 8, 12, 14, 15, 16] (fun b22 => [(5, .pointer (some ⟨(b1 + 1), 0, none⟩)), (6, .bool false), (7, .int .i64 (bAnd .i64 a1 16777215)), (8, .int .u32 (bOr .u32 a0.Src 1)), (12, .pointer (some ⟨b15, 0, none⟩)), (14, .pointer (some ⟨b22, 0, none⟩)), (15, .pointer (some ⟨(b22 + 1), 0, none⟩)), (16, .int .i64 r19)]) (fun b22 => [((b1 + 1), .cells #[.int .u64 a2.Dst, .int .u64 a2.Src, .bool a2.Tag.Has, .int .i64 a2.Tag.Pri, .bool a2.Tag.Dei, .int .i64 a2.Tag.Vid, .int .i64 a2.Type_, .string t2] 29 (0, 0)), (b15, .cells #[.int .i64 r12.Why, .int .u32 r12.Src, .int .i64 r12.U.Src, .int .i64 r12.U.Dst, .bool r12.U.NoSum, .string r12.U.Body] 47 (0, 0)), (b22, .cells #[.int .i64 r17.Vid, .int .i64 r17.Vni, slcV A21 r17.Peers.length] 35 (0, 0)), ((b22 + 1), .cells #[.int .u64 r18.Dst, .int .u64 r18.Src, .bool r18.Tag.Has, .int .i64 r18.Tag.Pri, .bool r18.Tag.Dei, .int .i64 r18.Tag.Vid, .int .i64 r18.Type_, .string r18.Body] 29 (0, 0))]) (fun b22 => [(b22 + 1), (b22 + 1), (b22 + 1), (b22 + 1), (b22 + 1), (b22 + 1), (b22 + 1), (b22 + 1), b22, b22, b22]) (fun b22 => by kernel_rfl) (fun b22 => ?_)
    refine WP.done ?_
    refine WP.seq ?_
    refine WP.region ?_
    refine WL.run 10 [1, 1, 1, 1, 1] [5, 6, 8, 12, 14, 15, 16, 81, 83, 85] (fun b23 => [(5, .pointer (some ⟨(b1 + 1), 0, none⟩)), (6, .bool false), (8, .int .u32 (bOr .u32 a0.Src 1)), (12, .pointer (some ⟨b15, 0, none⟩)), (14, .pointer (some ⟨b22, 0, none⟩)), (15, .pointer (some ⟨(b22 + 1), 0, none⟩)), (16, .int .i64 r19), (81, .slice (some ⟨(b23 + 1), 0, none⟩) 1 1), (83, .int .u32 r12.Src), (85, .agg #[.int .i64 r12.U.Src, .int .i64 r12.U.Dst, .bool r12.U.NoSum, .string r12.U.Body])]) (fun b23 => [((b1 + 1), .cells #[.int .u64 a2.Dst, .int .u64 a2.Src, .bool a2.Tag.Has, .int .i64 a2.Tag.Pri, .bool a2.Tag.Dei, .int .i64 a2.Tag.Vid, .int .i64 a2.Type_, .string t2] 29 (0, 0)), (b15, .cells #[.int .i64 r12.Why, .int .u32 r12.Src, .int .i64 r12.U.Src, .int .i64 r12.U.Dst, .bool r12.U.NoSum, .string r12.U.Body] 47 (0, 0)), (b22, .cells #[.int .i64 r17.Vid, .int .i64 r17.Vni, slcV A21 r17.Peers.length] 35 (0, 0)), ((b22 + 1), .cells #[.int .u64 r18.Dst, .int .u64 r18.Src, .bool r18.Tag.Has, .int .i64 r18.Tag.Pri, .bool r18.Tag.Dei, .int .i64 r18.Tag.Vid, .int .i64 r18.Type_, .string r18.Body] 29 (0, 0)), (b23, .cells #[.int .u32 (bOr .u32 a0.Src 1)] 22 (0, 0)), ((b23 + 1), .cells #[.int .i64 5, .int .i64 (bXor .i64 (bAnd .i64 a1 16777215) 1), .slice (some ⟨b23, 0, none⟩) 1 1] 35 (0, 0))]) (fun b23 => [b15, b15, b15, b15, b15]) (fun b23 => by kernel_rfl) (fun b23 => ?_)
    refine WL.ice (H' := [((b1 + 1), .cells #[.int .u64 a2.Dst, .int .u64 a2.Src, .bool a2.Tag.Has, .int .i64 a2.Tag.Pri, .bool a2.Tag.Dei, .int .i64 a2.Tag.Vid, .int .i64 a2.Type_, .string t2] 29 (0, 0)), (b15, .cells #[.int .i64 r12.Why, .int .u32 r12.Src, .int .i64 r12.U.Src, .int .i64 r12.U.Dst, .bool r12.U.NoSum, .string r12.U.Body] 47 (0, 0)), (b22, .cells #[.int .i64 r17.Vid, .int .i64 r17.Vni, slcV A21 r17.Peers.length] 35 (0, 0)), ((b22 + 1), .cells #[.int .u64 r18.Dst, .int .u64 r18.Src, .bool r18.Tag.Has, .int .i64 r18.Tag.Pri, .bool r18.Tag.Dei, .int .i64 r18.Tag.Vid, .int .i64 r18.Type_, .string r18.Body] 29 (0, 0)), ((b23 + 1), .cells #[.int .i64 5, .int .i64 (bXor .i64 (bAnd .i64 a1 16777215) 1), slcV (SkL.at b23 1 (fun _ => ())) ([bOr .u32 a0.Src 1] : List Int).length] 35 (0, 0))]) (Row 1 (pl (encI .u32)) noK (SkL.at b23 1 (fun _ => ())) ([bOr .u32 a0.Src 1] : List Int)) 4 (b := b23) (ob := .cells #[.int .u32 (bOr .u32 a0.Src 1)] 22 (0, 0)) (by kernel_rfl) [] [] (by kernel_rfl) (fun w hb hψ => row_of_block hb (fun _ _ => rfl) ⟨[], by kernel_rfl⟩ (Nat.le_of_ble_eq_true rfl) (InK.no _ _)) (by kernel_rfl) ?_
    refine WL.ice (H' := [((b1 + 1), .cells #[.int .u64 a2.Dst, .int .u64 a2.Src, .bool a2.Tag.Has, .int .i64 a2.Tag.Pri, .bool a2.Tag.Dei, .int .i64 a2.Tag.Vid, .int .i64 a2.Type_, .string t2] 29 (0, 0)), (b15, .cells #[.int .i64 r12.Why, .int .u32 r12.Src, .int .i64 r12.U.Src, .int .i64 r12.U.Dst, .bool r12.U.NoSum, .string r12.U.Body] 47 (0, 0)), (b22, .cells #[.int .i64 r17.Vid, .int .i64 r17.Vni, slcV A21 r17.Peers.length] 35 (0, 0)), ((b22 + 1), .cells #[.int .u64 r18.Dst, .int .u64 r18.Src, .bool r18.Tag.Has, .int .i64 r18.Tag.Pri, .bool r18.Tag.Dei, .int .i64 r18.Tag.Vid, .int .i64 r18.Type_, .string r18.Body] 29 (0, 0))]) (Row 3 api_Seg.encS api_Seg.inK (SkL.at (b23 + 1) 1 (skF [(SkL.at b23 1 (fun _ => ()))] (SkL.nil (fun _ => ())))) ([(api_Seg.mk 5 (bXor .i64 (bAnd .i64 a1 16777215) 1) ([bOr .u32 a0.Src 1] : List Int))] : List api_Seg)) 4 (b := (b23 + 1)) (ob := .cells #[.int .i64 5, .int .i64 (bXor .i64 (bAnd .i64 a1 16777215) 1), slcV (SkL.at b23 1 (fun _ => ())) ([bOr .u32 a0.Src 1] : List Int).length] 35 (0, 0)) (by kernel_rfl) [0] [Row 1 (pl (encI .u32)) noK (SkL.at b23 1 (fun _ => ())) ([bOr .u32 a0.Src 1] : List Int)] (by kernel_rfl) (fun w hb hψ => row_of_block hb (fun _ _ => rfl) ⟨[], by kernel_rfl⟩ (Nat.le_of_ble_eq_true rfl) (And.intro (hψ _ (List.mem_of_getElem? (i := 0) rfl)) trivial)) (by kernel_rfl) ?_
    obtain ⟨⟨r24, r25, r26⟩, h27, hM⟩ := bind_some hM
    dsimp only at hM
    refine WL.callX (F0 := [Row 3 api_Seg.encS api_Seg.inK (SkL.at (b23 + 1) 1 (skF [(SkL.at b23 1 (fun _ => ()))] (SkL.nil (fun _ => ())))) ([(api_Seg.mk 5 (bXor .i64 (bAnd .i64 a1 16777215) 1) ([bOr .u32 a0.Src 1] : List Int))] : List api_Seg)]) [] [] [false, false, false, false] (fun _ => _) [0] (by kernel_rfl) (tunnel_Unwrap_calls k (SkL.at (b23 + 1) 1 (skF [(SkL.at b23 1 (fun _ => ()))] (SkL.nil (fun _ => ())))) ([(api_Seg.mk 5 (bXor .i64 (bAnd .i64 a1 16777215) 1) ([bOr .u32 a0.Src 1] : List Int))] : List api_Seg) r12.Src r12.U _ h27) rfl rfl (by kernel_rfl) (by kernel_rfl) (fun _ => rfl) (fun A28 => ?_)
    refine WL.run 9 [4, 4, 4, 5, 5, 5, 5, 5, 5, 5, 5] [5, 6, 8, 12, 14, 15, 16, 19] (fun b29 => [(5, .pointer (some ⟨(b1 + 1), 0, none⟩)), (6, .bool false), (8, .int .u32 (bOr .u32 a0.Src 1)), (12, .pointer (some ⟨b15, 0, none⟩)), (14, .pointer (some ⟨b22, 0, none⟩)), (15, .pointer (some ⟨(b22 + 1), 0, none⟩)), (16, .int .i64 r19), (19, .int .i64 r26)]) (fun b29 => [((b1 + 1), .cells #[.int .u64 a2.Dst, .int .u64 a2.Src, .bool a2.Tag.Has, .int .i64 a2.Tag.Pri, .bool a2.Tag.Dei, .int .i64 a2.Tag.Vid, .int .i64 a2.Type_, .string t2] 29 (0, 0)), (b15, .cells #[.int .i64 r12.Why, .int .u32 r12.Src, .int .i64 r12.U.Src, .int .i64 r12.U.Dst, .bool r12.U.NoSum, .string r12.U.Body] 47 (0, 0)), (b22, .cells #[.int .i64 r17.Vid, .int .i64 r17.Vni, slcV A21 r17.Peers.length] 35 (0, 0)), ((b22 + 1), .cells #[.int .u64 r18.Dst, .int .u64 r18.Src, .bool r18.Tag.Has, .int .i64 r18.Tag.Pri, .bool r18.Tag.Dei, .int .i64 r18.Tag.Vid, .int .i64 r18.Type_, .string r18.Body] 29 (0, 0)), (b29, .cells #[.int .i64 r24.Vid, .int .i64 r24.Vni, slcV A28 r24.Peers.length] 35 (0, 0)), ((b29 + 1), .cells #[.int .u64 r25.Dst, .int .u64 r25.Src, .bool r25.Tag.Has, .int .i64 r25.Tag.Pri, .bool r25.Tag.Dei, .int .i64 r25.Tag.Vid, .int .i64 r25.Type_, .string r25.Body] 29 (0, 0))]) (fun b29 => [(b29 + 1), (b29 + 1), (b29 + 1), (b29 + 1), (b29 + 1), (b29 + 1), (b29 + 1), (b29 + 1), b29, b29, b29]) (fun b29 => by kernel_rfl) (fun b29 => ?_)
    refine WP.done ?_
    refine WP.keep [true, true, true, true, false, false] (by kernel_rfl : _ = [((b1 + 1), .cells #[.int .u64 a2.Dst, .int .u64 a2.Src, .bool a2.Tag.Has, .int .i64 a2.Tag.Pri, .bool a2.Tag.Dei, .int .i64 a2.Tag.Vid, .int .i64 a2.Type_, .string t2] 29 (0, 0)), (b15, .cells #[.int .i64 r12.Why, .int .u32 r12.Src, .int .i64 r12.U.Src, .int .i64 r12.U.Dst, .bool r12.U.NoSum, .string r12.U.Body] 47 (0, 0)), (b22, .cells #[.int .i64 r17.Vid, .int .i64 r17.Vni, slcV A21 r17.Peers.length] 35 (0, 0)), ((b22 + 1), .cells #[.int .u64 r18.Dst, .int .u64 r18.Src, .bool r18.Tag.Has, .int .i64 r18.Tag.Pri, .bool r18.Tag.Dei, .int .i64 r18.Tag.Vid, .int .i64 r18.Type_, .string r18.Body] 29 (0, 0))]) ?_
    refine WP.seq ?_
    refine WP.run [0, 0, 0, 0, 0, 0, 0, 0, 4, 4, 4, 4, 4, 4, 4, 4] [6, 8, 12, 14, 15, 16, 19, 20] (fun b30 => [(6, .bool false), (8, .int .u32 (bOr .u32 a0.Src 1)), (12, .pointer (some ⟨b15, 0, none⟩)), (14, .pointer (some ⟨b22, 0, none⟩)), (15, .pointer (some ⟨(b22 + 1), 0, none⟩)), (16, .int .i64 r19), (19, .int .i64 r26), (20, .pointer (some ⟨b30, 0, none⟩))]) (fun b30 => [((b1 + 1), .cells #[.int .u64 a2.Dst, .int .u64 a2.Src, .bool a2.Tag.Has, .int .i64 a2.Tag.Pri, .bool a2.Tag.Dei, .int .i64 a2.Tag.Vid, .int .i64 a2.Type_, .string t2] 29 (0, 0)), (b15, .cells #[.int .i64 r12.Why, .int .u32 r12.Src, .int .i64 r12.U.Src, .int .i64 r12.U.Dst, .bool r12.U.NoSum, .string r12.U.Body] 47 (0, 0)), (b22, .cells #[.int .i64 r17.Vid, .int .i64 r17.Vni, slcV A21 r17.Peers.length] 35 (0, 0)), ((b22 + 1), .cells #[.int .u64 r18.Dst, .int .u64 r18.Src, .bool r18.Tag.Has, .int .i64 r18.Tag.Pri, .bool r18.Tag.Dei, .int .i64 r18.Tag.Vid, .int .i64 r18.Type_, .string r18.Body] 29 (0, 0)), (b30, .cells #[.int .u64 a2.Dst, .int .u64 a2.Src, .bool a2.Tag.Has, .int .i64 a2.Tag.Pri, .bool a2.Tag.Dei, .int .i64 a2.Tag.Vid, .int .i64 a2.Type_, .string t2] 29 (0, 0))]) (fun b30 => [b30, b30, b30, b30, b30, b30, b30, b30, (b1 + 1), (b1 + 1), (b1 + 1), (b1 + 1), (b1 + 1), (b1 + 1), (b1 + 1), (b1 + 1)]) (fun b30 => by kernel_rfl) (fun b30 => ?_)
    refine WP.keep [false, true, true, true, true] (by kernel_rfl : _ = [(b15, .cells #[.int .i64 r12.Why, .int .u32 r12.Src, .int .i64 r12.U.Src, .int .i64 r12.U.Dst, .bool r12.U.NoSum, .string r12.U.Body] 47 (0, 0)), (b22, .cells #[.int .i64 r17.Vid, .int .i64 r17.Vni, slcV A21 r17.Peers.length] 35 (0, 0)), ((b22 + 1), .cells #[.int .u64 r18.Dst, .int .u64 r18.Src, .bool r18.Tag.Has, .int .i64 r18.Tag.Pri, .bool r18.Tag.Dei, .int .i64 r18.Tag.Vid, .int .i64 r18.Type_, .string r18.Body] 29 (0, 0)), (b30, .cells #[.int .u64 a2.Dst, .int .u64 a2.Src, .bool a2.Tag.Has, .int .i64 a2.Tag.Pri, .bool a2.Tag.Dei, .int .i64 a2.Tag.Vid, .int .i64 a2.Type_, .string t2] 29 (0, 0))]) ?_
    refine WP.seq ?_
    refine WP.run [3, 3, 3, 3] [6, 8, 12, 14, 15, 16, 19, 20] (fun _ => [(6, .bool false), (8, .int .u32 (bOr .u32 a0.Src 1)), (12, .pointer (some ⟨b15, 0, none⟩)), (14, .pointer (some ⟨b22, 0, none⟩)), (15, .pointer (some ⟨(b22 + 1), 0, none⟩)), (16, .int .i64 r19), (19, .int .i64 r26), (20, .pointer (some ⟨b30, 0, none⟩))]) (fun _ => [(b15, .cells #[.int .i64 r12.Why, .int .u32 r12.Src, .int .i64 r12.U.Src, .int .i64 r12.U.Dst, .bool r12.U.NoSum, .string r12.U.Body] 47 (0, 0)), (b22, .cells #[.int .i64 r17.Vid, .int .i64 r17.Vni, slcV A21 r17.Peers.length] 35 (0, 0)), ((b22 + 1), .cells #[.int .u64 r18.Dst, .int .u64 r18.Src, .bool r18.Tag.Has, .int .i64 r18.Tag.Pri, .bool r18.Tag.Dei, .int .i64 r18.Tag.Vid, .int .i64 r18.Type_, .string r18.Body] 29 (0, 0)), (b30, .cells #[.int .u64 a2.Dst, .int .u64 a2.Src, .bool false, .int .i64 0, .bool false, .int .i64 0, .int .i64 a2.Type_, .string t2] 29 (0, 0))]) (fun _ => [b30, b30, b30, b30]) (fun _ => by kernel_rfl) (fun _ => ?_)
    refine WP.seq ?_
    refine WP.region ?_
    refine WL.run 4 [0] [6, 8, 12, 14, 15, 16, 19, 20, 96] (fun _ => [(6, .bool false), (8, .int .u32 (bOr .u32 a0.Src 1)), (12, .pointer (some ⟨b15, 0, none⟩)), (14, .pointer (some ⟨b22, 0, none⟩)), (15, .pointer (some ⟨(b22 + 1), 0, none⟩)), (16, .int .i64 r19), (19, .int .i64 r26), (20, .pointer (some ⟨b30, 0, none⟩)), (96, .bool (r12.Why == 0))]) (fun _ => [(b15, .cells #[.int .i64 r12.Why, .int .u32 r12.Src, .int .i64 r12.U.Src, .int .i64 r12.U.Dst, .bool r12.U.NoSum, .string r12.U.Body] 47 (0, 0)), (b22, .cells #[.int .i64 r17.Vid, .int .i64 r17.Vni, slcV A21 r17.Peers.length] 35 (0, 0)), ((b22 + 1), .cells #[.int .u64 r18.Dst, .int .u64 r18.Src, .bool r18.Tag.Has, .int .i64 r18.Tag.Pri, .bool r18.Tag.Dei, .int .i64 r18.Tag.Vid, .int .i64 r18.Type_, .string r18.Body] 29 (0, 0)), (b30, .cells #[.int .u64 a2.Dst, .int .u64 a2.Src, .bool false, .int .i64 0, .bool false, .int .i64 0, .int .i64 a2.Type_, .string t2] 29 (0, 0))]) (fun _ => [b15]) (fun _ => by kernel_rfl) (fun _ => ?_)
    refine WL.sub [6, 8, 12, 14, 15, 16, 19, 20, 96] (L' := [(6, .bool false), (8, .int .u32 (bOr .u32 a0.Src 1)), (12, .pointer (some ⟨b15, 0, none⟩)), (14, .pointer (some ⟨b22, 0, none⟩)), (15, .pointer (some ⟨(b22 + 1), 0, none⟩)), (16, .int .i64 r19), (19, .int .i64 r26), (20, .pointer (some ⟨b30, 0, none⟩)), (96, .bool (r12.Why == 0))]) (by kernel_rfl) ?_
    refine WL.both (fun b' => [(6, .bool false), (8, .int .u32 (bOr .u32 a0.Src 1)), (12, .pointer (some ⟨b15, 0, none⟩)), (14, .pointer (some ⟨b22, 0, none⟩)), (15, .pointer (some ⟨(b22 + 1), 0, none⟩)), (16, .int .i64 r19), (19, .int .i64 r26), (20, .pointer (some ⟨b30, 0, none⟩)), (96, .bool b')]) (r12.Why == 0) 5 [0] [] [6, 14, 15, 16, 19, 20, 101] (fun b' => [(6, .bool false), (14, .pointer (some ⟨b22, 0, none⟩)), (15, .pointer (some ⟨(b22 + 1), 0, none⟩)), (16, .int .i64 r19), (19, .int .i64 r26), (20, .pointer (some ⟨b30, 0, none⟩)), (101, .bool (b' && (r12.Src == (bOr .u32 a0.Src 1))))]) [b15] [] (fun _ => by kernel_rfl) (fun _ => by kernel_rfl) ?_
    refine WL.run 1 [] [6, 14, 15, 16, 19, 20, 102] (fun _ => [(6, .bool false), (14, .pointer (some ⟨b22, 0, none⟩)), (15, .pointer (some ⟨(b22 + 1), 0, none⟩)), (16, .int .i64 r19), (19, .int .i64 r26), (20, .pointer (some ⟨b30, 0, none⟩)), (102, .bool ((r12.Why == 0) && (r12.Src == (bOr .u32 a0.Src 1))))]) (fun _ => [(b15, .cells #[.int .i64 r12.Why, .int .u32 r12.Src, .int .i64 r12.U.Src, .int .i64 r12.U.Dst, .bool r12.U.NoSum, .string r12.U.Body] 47 (0, 0)), (b22, .cells #[.int .i64 r17.Vid, .int .i64 r17.Vni, slcV A21 r17.Peers.length] 35 (0, 0)), ((b22 + 1), .cells #[.int .u64 r18.Dst, .int .u64 r18.Src, .bool r18.Tag.Has, .int .i64 r18.Tag.Pri, .bool r18.Tag.Dei, .int .i64 r18.Tag.Vid, .int .i64 r18.Type_, .string r18.Body] 29 (0, 0)), (b30, .cells #[.int .u64 a2.Dst, .int .u64 a2.Src, .bool false, .int .i64 0, .bool false, .int .i64 0, .int .i64 a2.Type_, .string t2] 29 (0, 0))]) (fun _ => []) (fun _ => by kernel_rfl) (fun _ => ?_)
    refine WL.sub [6, 14, 15, 16, 19, 20, 102] (L' := [(6, .bool false), (14, .pointer (some ⟨b22, 0, none⟩)), (15, .pointer (some ⟨(b22 + 1), 0, none⟩)), (16, .int .i64 r19), (19, .int .i64 r26), (20, .pointer (some ⟨b30, 0, none⟩)), (102, .bool ((r12.Why == 0) && (r12.Src == (bOr .u32 a0.Src 1))))]) (by kernel_rfl) ?_
    refine WL.both (fun b' => [(6, .bool false), (14, .pointer (some ⟨b22, 0, none⟩)), (15, .pointer (some ⟨(b22 + 1), 0, none⟩)), (16, .int .i64 r19), (19, .int .i64 r26), (20, .pointer (some ⟨b30, 0, none⟩)), (102, .bool b')]) ((r12.Why == 0) && (r12.Src == (bOr .u32 a0.Src 1))) 3 [] [] [6, 14, 15, 19, 20, 105] (fun b' => [(6, .bool false), (14, .pointer (some ⟨b22, 0, none⟩)), (15, .pointer (some ⟨(b22 + 1), 0, none⟩)), (19, .int .i64 r26), (20, .pointer (some ⟨b30, 0, none⟩)), (105, .bool (b' && (r19 == 0)))]) [] [] (fun _ => by kernel_rfl) (fun _ => by kernel_rfl) ?_
    refine WL.run 1 [] [6, 14, 15, 19, 20, 106] (fun _ => [(6, .bool false), (14, .pointer (some ⟨b22, 0, none⟩)), (15, .pointer (some ⟨(b22 + 1), 0, none⟩)), (19, .int .i64 r26), (20, .pointer (some ⟨b30, 0, none⟩)), (106, .bool (((r12.Why == 0) && (r12.Src == (bOr .u32 a0.Src 1))) && (r19 == 0)))]) (fun _ => [(b15, .cells #[.int .i64 r12.Why, .int .u32 r12.Src, .int .i64 r12.U.Src, .int .i64 r12.U.Dst, .bool r12.U.NoSum, .string r12.U.Body] 47 (0, 0)), (b22, .cells #[.int .i64 r17.Vid, .int .i64 r17.Vni, slcV A21 r17.Peers.length] 35 (0, 0)), ((b22 + 1), .cells #[.int .u64 r18.Dst, .int .u64 r18.Src, .bool r18.Tag.Has, .int .i64 r18.Tag.Pri, .bool r18.Tag.Dei, .int .i64 r18.Tag.Vid, .int .i64 r18.Type_, .string r18.Body] 29 (0, 0)), (b30, .cells #[.int .u64 a2.Dst, .int .u64 a2.Src, .bool false, .int .i64 0, .bool false, .int .i64 0, .int .i64 a2.Type_, .string t2] 29 (0, 0))]) (fun _ => []) (fun _ => by kernel_rfl) (fun _ => ?_)
    refine WL.sub [6, 14, 15, 19, 20, 106] (L' := [(6, .bool false), (14, .pointer (some ⟨b22, 0, none⟩)), (15, .pointer (some ⟨(b22 + 1), 0, none⟩)), (19, .int .i64 r26), (20, .pointer (some ⟨b30, 0, none⟩)), (106, .bool (((r12.Why == 0) && (r12.Src == (bOr .u32 a0.Src 1))) && (r19 == 0)))]) (by kernel_rfl) ?_
    refine WL.join (σ := Bool) 4 (fun st => gangwaylaw22_TunnelBack.k3 r17 r26 k st = some r) (fun st => [(6, .bool false), (14, .pointer (some ⟨b22, 0, none⟩)), (19, .int .i64 r26), (110, .bool st)]) (fun st => Sat w Z [(b22, .cells #[.int .i64 r17.Vid, .int .i64 r17.Vni, slcV A21 r17.Peers.length] 35 (0, 0))] [] ([Row 1 (pl (encI .u32)) noK A28 r24.Peers, Row 3 api_Seg.encS api_Seg.inK (SkL.at (b23 + 1) 1 (skF [(SkL.at b23 1 (fun _ => ()))] (SkL.nil (fun _ => ())))) ([(api_Seg.mk 5 (bXor .i64 (bAnd .i64 a1 16777215) 1) ([bOr .u32 a0.Src 1] : List Int))] : List api_Seg), Row 1 (pl (encI .u32)) noK (SkL.at b23 1 (fun _ => ())) ([bOr .u32 a0.Src 1] : List Int), Row 1 (pl (encI .u32)) noK A21 r17.Peers, Row 3 api_Seg.encS api_Seg.inK (SkL.at (b16 + 1) 1 (skF [(SkL.at b16 1 (fun _ => ()))] (SkL.nil (fun _ => ())))) ([(api_Seg.mk 5 (bAnd .i64 a1 16777215) ([bOr .u32 a0.Src 1] : List Int))] : List api_Seg), Row 1 (pl (encI .u32)) noK (SkL.at b16 1 (fun _ => ())) ([bOr .u32 a0.Src 1] : List Int), Row 1 (pl (encI .u32)) noK (SkL.nil (fun _ => ())) ([] : List Int)] ++ Glob)) (fun st hM => ?_) (fun K3 => ?_)
    ·
      obtain ⟨x32, rfl⟩ : ∃ y, y = st := ⟨st, rfl⟩
      replace hM : gangwaylaw22_TunnelBack.k3 r17 r26 k x32 = some r := hM
      unfold gangwaylaw22_TunnelBack.k3 at hM
      show WL _ _ _ _ _ [(6, .bool false), (14, .pointer (some ⟨b22, 0, none⟩)), (19, .int .i64 r26), (110, .bool x32)] (Sat w Z [(b22, .cells #[.int .i64 r17.Vid, .int .i64 r17.Vni, slcV A21 r17.Peers.length] 35 (0, 0))] [] ([Row 1 (pl (encI .u32)) noK A28 r24.Peers, Row 3 api_Seg.encS api_Seg.inK (SkL.at (b23 + 1) 1 (skF [(SkL.at b23 1 (fun _ => ()))] (SkL.nil (fun _ => ())))) ([(api_Seg.mk 5 (bXor .i64 (bAnd .i64 a1 16777215) 1) ([bOr .u32 a0.Src 1] : List Int))] : List api_Seg), Row 1 (pl (encI .u32)) noK (SkL.at b23 1 (fun _ => ())) ([bOr .u32 a0.Src 1] : List Int), Row 1 (pl (encI .u32)) noK A21 r17.Peers, Row 3 api_Seg.encS api_Seg.inK (SkL.at (b16 + 1) 1 (skF [(SkL.at b16 1 (fun _ => ()))] (SkL.nil (fun _ => ())))) ([(api_Seg.mk 5 (bAnd .i64 a1 16777215) ([bOr .u32 a0.Src 1] : List Int))] : List api_Seg), Row 1 (pl (encI .u32)) noK (SkL.at b16 1 (fun _ => ())) ([bOr .u32 a0.Src 1] : List Int), Row 1 (pl (encI .u32)) noK (SkL.nil (fun _ => ())) ([] : List Int)] ++ Glob))
      refine WL.run 1 [] [6, 14, 19, 111] (fun _ => [(6, .bool false), (14, .pointer (some ⟨b22, 0, none⟩)), (19, .int .i64 r26), (111, .bool x32)]) (fun _ => [(b22, .cells #[.int .i64 r17.Vid, .int .i64 r17.Vni, slcV A21 r17.Peers.length] 35 (0, 0))]) (fun _ => []) (fun _ => by kernel_rfl) (fun _ => ?_)
      refine WL.sub [6, 14, 19, 111] (L' := [(6, .bool false), (14, .pointer (some ⟨b22, 0, none⟩)), (19, .int .i64 r26), (111, .bool x32)]) (by kernel_rfl) ?_
      refine WL.both (fun b' => [(6, .bool false), (14, .pointer (some ⟨b22, 0, none⟩)), (19, .int .i64 r26), (111, .bool b')]) x32 4 [0] [] [6, 19, 115] (fun b' => [(6, .bool false), (19, .int .i64 r26), (115, .bool (b' && (r17.Vid == 5)))]) [b22] [] (fun _ => by kernel_rfl) (fun _ => by kernel_rfl) ?_
      refine WL.run 1 [] [6, 19, 116] (fun _ => [(6, .bool false), (19, .int .i64 r26), (116, .bool (x32 && (r17.Vid == 5)))]) (fun _ => [(b22, .cells #[.int .i64 r17.Vid, .int .i64 r17.Vni, slcV A21 r17.Peers.length] 35 (0, 0))]) (fun _ => []) (fun _ => by kernel_rfl) (fun _ => ?_)
      refine WL.sub [6, 19, 116] (L' := [(6, .bool false), (19, .int .i64 r26), (116, .bool (x32 && (r17.Vid == 5)))]) (by kernel_rfl) ?_
      refine WL.both (fun b' => [(6, .bool false), (19, .int .i64 r26), (116, .bool b')]) (x32 && (r17.Vid == 5)) 3 [] [] [6, 119] (fun b' => [(6, .bool false), (119, .bool (b' && (r26 == 2)))]) [] [] (fun _ => by kernel_rfl) (fun _ => by kernel_rfl) ?_
      refine WL.run 1 [] [6, 120] (fun _ => [(6, .bool false), (120, .bool ((x32 && (r17.Vid == 5)) && (r26 == 2)))]) (fun _ => [(b22, .cells #[.int .i64 r17.Vid, .int .i64 r17.Vni, slcV A21 r17.Peers.length] 35 (0, 0))]) (fun _ => []) (fun _ => by kernel_rfl) (fun _ => ?_)
      refine WL.sub [6, 120] (L' := [(6, .bool false), (120, .bool ((x32 && (r17.Vid == 5)) && (r26 == 2)))]) (by kernel_rfl) ?_
      refine WL.join (σ := Bool) 2 (fun st => gangwaylaw22_TunnelBack.k2 st = some r) (fun st => [(6, .bool false), (122, .bool st)]) (fun st => Sat w Z [] [] ([Row 1 (pl (encI .u32)) noK A28 r24.Peers, Row 3 api_Seg.encS api_Seg.inK (SkL.at (b23 + 1) 1 (skF [(SkL.at b23 1 (fun _ => ()))] (SkL.nil (fun _ => ())))) ([(api_Seg.mk 5 (bXor .i64 (bAnd .i64 a1 16777215) 1) ([bOr .u32 a0.Src 1] : List Int))] : List api_Seg), Row 1 (pl (encI .u32)) noK (SkL.at b23 1 (fun _ => ())) ([bOr .u32 a0.Src 1] : List Int), Row 1 (pl (encI .u32)) noK A21 r17.Peers, Row 3 api_Seg.encS api_Seg.inK (SkL.at (b16 + 1) 1 (skF [(SkL.at b16 1 (fun _ => ()))] (SkL.nil (fun _ => ())))) ([(api_Seg.mk 5 (bAnd .i64 a1 16777215) ([bOr .u32 a0.Src 1] : List Int))] : List api_Seg), Row 1 (pl (encI .u32)) noK (SkL.at b16 1 (fun _ => ())) ([bOr .u32 a0.Src 1] : List Int), Row 1 (pl (encI .u32)) noK (SkL.nil (fun _ => ())) ([] : List Int)] ++ Glob)) (fun st hM => ?_) (fun K2 => ?_)
      ·
        obtain ⟨x36, rfl⟩ : ∃ y, y = st := ⟨st, rfl⟩
        replace hM : gangwaylaw22_TunnelBack.k2 x36 = some r := hM
        unfold gangwaylaw22_TunnelBack.k2 at hM
        show WL _ _ _ _ _ [(6, .bool false), (122, .bool x36)] (Sat w Z [] [] ([Row 1 (pl (encI .u32)) noK A28 r24.Peers, Row 3 api_Seg.encS api_Seg.inK (SkL.at (b23 + 1) 1 (skF [(SkL.at b23 1 (fun _ => ()))] (SkL.nil (fun _ => ())))) ([(api_Seg.mk 5 (bXor .i64 (bAnd .i64 a1 16777215) 1) ([bOr .u32 a0.Src 1] : List Int))] : List api_Seg), Row 1 (pl (encI .u32)) noK (SkL.at b23 1 (fun _ => ())) ([bOr .u32 a0.Src 1] : List Int), Row 1 (pl (encI .u32)) noK A21 r17.Peers, Row 3 api_Seg.encS api_Seg.inK (SkL.at (b16 + 1) 1 (skF [(SkL.at b16 1 (fun _ => ()))] (SkL.nil (fun _ => ())))) ([(api_Seg.mk 5 (bAnd .i64 a1 16777215) ([bOr .u32 a0.Src 1] : List Int))] : List api_Seg), Row 1 (pl (encI .u32)) noK (SkL.at b16 1 (fun _ => ())) ([bOr .u32 a0.Src 1] : List Int), Row 1 (pl (encI .u32)) noK (SkL.nil (fun _ => ())) ([] : List Int)] ++ Glob))
        refine WL.run 1 [] [6] (fun _ => [(6, .bool x36)]) (fun _ => []) (fun _ => []) (fun _ => by kernel_rfl) (fun _ => ?_)
        refine WP.done ?_
        obtain rfl := Option.some.inj hM
        exact WP.ret [] [] (.bool x36) (by kernel_rfl) (fun w' hw => ⟨rfl, (hw.pick [] rfl).less (fun _ h => List.mem_append_right _ h)⟩)
      ·
        refine WL.split (fun b' => [(6, .bool false), (120, .bool b')]) ((x32 && (r17.Vid == 5)) && (r26 == 2)) (fun c33 => ?_) (fun c33 => ?_)
        · replace hM := cond_t hM c33
          obtain ⟨r34, h35, hM⟩ := bind_some hM
          refine WL.callP [] [] (gangwaylaw22_fixed_calls k _ h35) (fun _ h => List.mem_append_right _ h) (by kernel_rfl) (by kernel_rfl) rfl ?_
          refine WL.run 1 [] [6, 122] (fun _ => [(6, .bool false), (122, .bool r34)]) (fun _ => [(b22, .cells #[.int .i64 r17.Vid, .int .i64 r17.Vni, slcV A21 r17.Peers.length] 35 (0, 0))]) (fun _ => []) (fun _ => by kernel_rfl) (fun _ => ?_)
          exact WL.sub [6, 122] (by kernel_rfl) (WL.pick [] (by kernel_rfl) (by kernel_rfl) (WL.lessF [0, 1, 2, 3, 4, 5, 6] (by kernel_rfl) (K2 r34 hM)))
        · replace hM := cond_f hM c33
          refine WL.run 2 [] [6, 122] (fun _ => [(6, .bool false), (122, .bool false)]) (fun _ => [(b22, .cells #[.int .i64 r17.Vid, .int .i64 r17.Vni, slcV A21 r17.Peers.length] 35 (0, 0))]) (fun _ => []) (fun _ => by kernel_rfl) (fun _ => ?_)
          exact WL.sub [6, 122] (by kernel_rfl) (WL.pick [] (by kernel_rfl) (by kernel_rfl) (WL.lessF [0, 1, 2, 3, 4, 5, 6] (by kernel_rfl) (K2 false hM)))
    ·
      refine WL.split (fun b' => [(6, .bool false), (14, .pointer (some ⟨b22, 0, none⟩)), (15, .pointer (some ⟨(b22 + 1), 0, none⟩)), (19, .int .i64 r26), (20, .pointer (some ⟨b30, 0, none⟩)), (106, .bool b')]) (((r12.Why == 0) && (r12.Src == (bOr .u32 a0.Src 1))) && (r19 == 0)) (fun c31 => ?_) (fun c31 => ?_)
      · replace hM := cond_t hM c31
        refine WL.run 2 [2, 2, 2, 2, 2, 2, 2, 2, 3, 3, 3, 3, 3, 3, 3, 3] [6, 14, 19, 106, 107, 108] (fun _ => [(6, .bool false), (14, .pointer (some ⟨b22, 0, none⟩)), (19, .int .i64 r26), (106, .bool true), (107, .agg #[.int .u64 r18.Dst, .int .u64 r18.Src, .bool r18.Tag.Has, .int .i64 r18.Tag.Pri, .bool r18.Tag.Dei, .int .i64 r18.Tag.Vid, .int .i64 r18.Type_, .string r18.Body]), (108, .agg #[.int .u64 a2.Dst, .int .u64 a2.Src, .bool false, .int .i64 0, .bool false, .int .i64 0, .int .i64 a2.Type_, .string t2])]) (fun _ => [(b15, .cells #[.int .i64 r12.Why, .int .u32 r12.Src, .int .i64 r12.U.Src, .int .i64 r12.U.Dst, .bool r12.U.NoSum, .string r12.U.Body] 47 (0, 0)), (b22, .cells #[.int .i64 r17.Vid, .int .i64 r17.Vni, slcV A21 r17.Peers.length] 35 (0, 0)), ((b22 + 1), .cells #[.int .u64 r18.Dst, .int .u64 r18.Src, .bool r18.Tag.Has, .int .i64 r18.Tag.Pri, .bool r18.Tag.Dei, .int .i64 r18.Tag.Vid, .int .i64 r18.Type_, .string r18.Body] 29 (0, 0)), (b30, .cells #[.int .u64 a2.Dst, .int .u64 a2.Src, .bool false, .int .i64 0, .bool false, .int .i64 0, .int .i64 a2.Type_, .string t2] 29 (0, 0))]) (fun _ => [b30, b30, b30, b30, b30, b30, b30, b30, (b22 + 1), (b22 + 1), (b22 + 1), (b22 + 1), (b22 + 1), (b22 + 1), (b22 + 1), (b22 + 1)]) (fun _ => by kernel_rfl) (fun _ => ?_)
        refine WL.val (fun _ => run_structEq (xs := #[.int .u64 r18.Dst, .int .u64 r18.Src, .bool r18.Tag.Has, .int .i64 r18.Tag.Pri, .bool r18.Tag.Dei, .int .i64 r18.Tag.Vid, .int .i64 r18.Type_, .string r18.Body]) (ys := #[.int .u64 a2.Dst, .int .u64 a2.Src, .bool false, .int .i64 0, .bool false, .int .i64 0, .int .i64 a2.Type_, .string t2]) (b := ((r18.Dst == a2.Dst) && ((r18.Src == a2.Src) && (((r18.Tag.Has == false) && ((r18.Tag.Pri == 0) && ((r18.Tag.Dei == false) && ((r18.Tag.Vid == 0) && true)))) && ((r18.Type_ == a2.Type_) && ((r18.Body == t2) && true)))))) (by kernel_rfl) (by kernel_rfl) (by kernel_rfl) (by kernel_rfl)) (by kernel_rfl) (by kernel_rfl) rfl ?_
        refine WL.run 1 [] [6, 14, 19, 110] (fun _ => [(6, .bool false), (14, .pointer (some ⟨b22, 0, none⟩)), (19, .int .i64 r26), (110, .bool ((r18.Dst == a2.Dst) && ((r18.Src == a2.Src) && (((r18.Tag.Has == false) && ((r18.Tag.Pri == 0) && ((r18.Tag.Dei == false) && ((r18.Tag.Vid == 0) && true)))) && ((r18.Type_ == a2.Type_) && ((r18.Body == t2) && true))))))]) (fun _ => [(b15, .cells #[.int .i64 r12.Why, .int .u32 r12.Src, .int .i64 r12.U.Src, .int .i64 r12.U.Dst, .bool r12.U.NoSum, .string r12.U.Body] 47 (0, 0)), (b22, .cells #[.int .i64 r17.Vid, .int .i64 r17.Vni, slcV A21 r17.Peers.length] 35 (0, 0)), ((b22 + 1), .cells #[.int .u64 r18.Dst, .int .u64 r18.Src, .bool r18.Tag.Has, .int .i64 r18.Tag.Pri, .bool r18.Tag.Dei, .int .i64 r18.Tag.Vid, .int .i64 r18.Type_, .string r18.Body] 29 (0, 0)), (b30, .cells #[.int .u64 a2.Dst, .int .u64 a2.Src, .bool false, .int .i64 0, .bool false, .int .i64 0, .int .i64 a2.Type_, .string t2] 29 (0, 0))]) (fun _ => []) (fun _ => by kernel_rfl) (fun _ => ?_)
        exact WL.sub [6, 14, 19, 110] (by kernel_rfl) (WL.pick [1] (by kernel_rfl) (by kernel_rfl) (WL.lessF [0, 1, 2, 3, 4, 5, 6] (by kernel_rfl) (K3 ((r18.Dst == a2.Dst) && ((r18.Src == a2.Src) && (((r18.Tag.Has == false) && ((r18.Tag.Pri == 0) && ((r18.Tag.Dei == false) && ((r18.Tag.Vid == 0) && true)))) && ((r18.Type_ == a2.Type_) && ((r18.Body == t2) && true))))) hM)))
      · replace hM := cond_f hM c31
        refine WL.run 4 [] [6, 14, 19, 110] (fun _ => [(6, .bool false), (14, .pointer (some ⟨b22, 0, none⟩)), (19, .int .i64 r26), (110, .bool false)]) (fun _ => [(b15, .cells #[.int .i64 r12.Why, .int .u32 r12.Src, .int .i64 r12.U.Src, .int .i64 r12.U.Dst, .bool r12.U.NoSum, .string r12.U.Body] 47 (0, 0)), (b22, .cells #[.int .i64 r17.Vid, .int .i64 r17.Vni, slcV A21 r17.Peers.length] 35 (0, 0)), ((b22 + 1), .cells #[.int .u64 r18.Dst, .int .u64 r18.Src, .bool r18.Tag.Has, .int .i64 r18.Tag.Pri, .bool r18.Tag.Dei, .int .i64 r18.Tag.Vid, .int .i64 r18.Type_, .string r18.Body] 29 (0, 0)), (b30, .cells #[.int .u64 a2.Dst, .int .u64 a2.Src, .bool false, .int .i64 0, .bool false, .int .i64 0, .int .i64 a2.Type_, .string t2] 29 (0, 0))]) (fun _ => []) (fun _ => by kernel_rfl) (fun _ => ?_)
        exact WL.sub [6, 14, 19, 110] (by kernel_rfl) (WL.pick [1] (by kernel_rfl) (by kernel_rfl) (WL.lessF [0, 1, 2, 3, 4, 5, 6] (by kernel_rfl) (K3 false hM)))

end Go.Proofs.YtbodofjnfmjbpaaGreatDoor
