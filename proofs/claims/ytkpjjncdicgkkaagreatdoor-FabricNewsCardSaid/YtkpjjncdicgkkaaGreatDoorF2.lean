/- The walks of the functions that the laws reach: each shows that a call returns what its plain model says, wherever the model gives an answer. -/
import Derived.Test.YtkpjjncdicgkkaaGreatDoorF1

namespace Go.Proofs.YtkpjjncdicgkkaaGreatDoor
set_option maxRecDepth 100000
set_option linter.unusedVariables false
set_option linter.unusedSimpArgs false
open Go Eng
def bk.l1 (a0 : (List Int)) : Nat → Int → Int → Option (Int)
 | 0, _, _ => none
 | n + 1, x1, x2 =>
  bif decide (x2 < (a0.length : Int)) then
   (cI a0.length a0 x2).bind fun t4 =>
   (ki.f t4).bind fun r6 =>
   bif r6 then
    some x2
   else
    bk.l1 a0 n x1 (i64 (x2 + 1))
  else
   some (-1)
def bk.f (k : Nat) (a0 : (List Int)) : Option (Int) :=
 bk.l1 a0 k 0 0
theorem gJ (k : Nat) (A00 : av Unit) (a0 : (List Int)) (r : Int) (h : bk.f k a0 = some r) : Pure Tryz.prog ([Row 1 (pl (aE .i64)) aA A00 a0] ++ aI) 100 #[ae A00 a0.length, .func (.func 65) #[] #[]] (vI r) := by
 intro w Z hS
 refine bh (args := [ae A00 a0.length, .func (.func 65) #[] #[]]) (L := [(0, ae A00 a0.length), (1, .func (.func 65) #[] #[])]) (N := 19) Tryz.func100 hS ?_
 have hM := h
 clear h hS
 unfold bk.f at hM
 refine WP.seq (WP.rn [] [(4, vI 0)] ?_)
 refine WP.seq (WP.seq (WP.rn [] [(7, vI (a0.length : Int)), (8, vI 0)] ?_))
 refine WP.block ?_
 refine WP.sub [0, 1, 4, 7, 8] (L' := [(0, ae A00 a0.length), (1, .func (.func 65) #[] #[]), (4, vI 0), (7, vI (a0.length : Int)), (8, vI 0)]) rfl ?_
 refine WP.aQ [0] (F' := [Row 1 (pl (aE .i64)) aA A00 a0]) rfl ?_
 refine WP.loop (σ := Int × Int) (fun n st => bk.l1 a0 n st.1 st.2) r (fun st => [(0, ae A00 a0.length), (1, .func (.func 65) #[] #[]), (4, vI st.1), (7, vI (a0.length : Int)), (8, vI st.2)]) (fun st => Sat w Z [] [] ([Row 1 (pl (aE .i64)) aA A00 a0] ++ aI)) (st := (0, 0)) (fun n st hM => ?_) hM
 rcases n with _ | n
 ·exact nomatch (show (none : Option _) = some r from hM)
 obtain ⟨x1, x2⟩ := st
 replace hM : bk.l1 a0 (n + 1) x1 x2 = some r := hM
 rw [bk.l1] at hM
 try dsimp only
 refine WP.seq (WP.rn [] [(9, vB (decide (x2 < (a0.length : Int))))] ?_)
 refine WP.seq ?_
 refine WP.cond (decide (x2 < (a0.length : Int))) rfl rfl (fun c3 => ?_) (fun c3 => ?_)
 ·replace hM := aG hM c3
  refine WP.skip (WP.seq (WP.block (WP.seq (WP.rn [] [(5, vI x2), (10, vI x2)] ?_))))
  refine WP.seq (WP.region ?_)
  refine WL.rn 3 [] [(11, .func (.func 65) #[] #[]), (12, ae A00 a0.length), (13, vI x2)] ?_
  obtain ⟨t4, h5, hM⟩ := bind_some hM
  refine WL.cd (φ := Row 1 (pl (aE .i64)) aA A00 a0) (ar 0 rfl) (fun w hR => aJ (A := A00) (xs := a0) (i := x2) (k := .i64) (e := 3) (m := 1) rfl rfl h5 rfl rfl hR) (by kernel_rfl) rfl rfl ?_
  refine WL.cd (φ := Row 1 (pl (aE .i64)) aA A00 a0) (ar 0 rfl) (fun w hR => bp (A := A00) (xs := a0) (i := x2) (j := 0) (v := vI t4) h5 (fun _ => by kernel_rfl) rfl rfl hR) (by kernel_rfl) rfl rfl ?_
  obtain ⟨r6, h7, hM⟩ := bind_some hM
  refine WL.cQ [] [] (nP t4 _ h7) (fun _ h => List.mem_append_right _ h) (by kernel_rfl) rfl rfl ?_
  refine WP.done ?_
  refine WP.cond r6 rfl rfl (fun c8 => ?_) (fun c8 => ?_)
  ·replace hM := aG hM c8
   refine WP.seq (WP.rn [] [(4, vI x2), (17, vI x2)] ?_)
   obtain rfl := oI hM
   exact WP.dI [] [] [0]
  ·replace hM := aH hM c8
   refine WP.skip (WP.leave (WP.rn [] [(8, vI (i64 (x2 + 1))), (18, vI (i64 (x2 + 1)))] ?_))
   exact WP.cN [0, 1, 4, 7, 8] (x1, i64 (x2 + 1)) hM rfl (fun _ h => (h.pick [] rfl).aQ [0] rfl)
 ·replace hM := aH hM c3
  refine WP.exit rfl (WP.seq (WP.rn [] [(4, vI (-1))] ?_))
  obtain rfl := oI hM
  exact WP.dI [] [] [0]
def cV.f (k : Nat) (a0 : (List Int)) : Option (Bool) :=
 (bk.f k a0).bind fun r1 =>
 some (decide (r1 ≥ 0))
theorem gh (k : Nat) (A00 : av Unit) (a0 : (List Int)) (r : Bool) (h : cV.f k a0 = some r) : Pure Tryz.prog ([Row 1 (pl (aE .i64)) aA A00 a0] ++ aI) 66 #[ae A00 a0.length, .func (.func 65) #[] #[]] (vB r) := by
 intro w Z hS
 refine bh (args := [ae A00 a0.length, .func (.func 65) #[] #[]]) (L := [(0, ae A00 a0.length), (1, .func (.func 65) #[] #[])]) (N := 9) Tryz.func66 hS ?_
 have hM := h
 clear h hS
 unfold cV.f at hM
 refine WP.seq (WP.rn [] [(4, vB false)] ?_)
 refine WP.seq (WP.region ?_)
 refine WL.rn 2 [] [(5, ae A00 a0.length), (6, .func (.func 65) #[] #[])] ?_
 obtain ⟨r1, h2, hM⟩ := bind_some hM
 refine WL.cQ [] [] (gJ k A00 a0 _ h2) (bE [0] rfl) (by kernel_rfl) rfl rfl ?_
 refine WL.rn 2 [] [(4, vB (decide (r1 ≥ 0)))] ?_
 refine WP.done ?_
 obtain rfl := oI hM
 exact WP.dI [] [] [0]
def cW.l2 (a1 : (List Int)) (a2 : (List Bool)) (a0 : Int) : Nat → Int → (List an) → Option (dT × Int)
 | 0, _, _ => none
 | n + 1, x18, x19 =>
  bif decide (x18 < (a1.length : Int)) then
   (cI a1.length a1 x18).bind fun t22 =>
   (cI a2.length a2 x18).bind fun t24 =>
   (ey 120 (x19 ++ ([(an.mk (cJ.mk false t22 false (bK.mk 0 0 0 0 0)) t24 0 0 0 0 false 0)] : List an)).length).bind fun u28 =>
   cW.l2 a1 a2 a0 n (i64 (x18 + 1)) (x19 ++ ([(an.mk (cJ.mk false t22 false (bK.mk 0 0 0 0 0)) t24 0 0 0 0 false 0)] : List an))
  else
   some ((dT.mk a0 x19 0), 0)
def cW.k1 (a1 : (List Int)) (a2 : (List Bool)) (a0 : Int) (k : Nat) (x5 : Bool) : Option (dT × Int) :=
 bif x5 then
  some ((dT.mk 0 ([] : List an) 0), 1)
 else
  cW.l2 a1 a2 a0 k 0 ([] : List an)
def cW.f (k : Nat) (a0 : Int) (a1 : (List Int)) (a2 : (List Bool)) : Option (dT × Int) :=
 bif ((decide ((a1.length : Int) > 64)) || ((a1.length : Int) != (a2.length : Int))) then
  cW.k1 a1 a2 a0 k true
 else
  (cV.f k a1).bind fun r3 =>
  cW.k1 a1 a2 a0 k r3
theorem pJ (k : Nat) (A00 : av Unit) (A01 : av Unit) (a0 : Int) (a1 : (List Int)) (a2 : (List Bool)) (r : dT × Int) (h : cW.f k a0 a1 a2 = some r) : eT Tryz.prog 30 #[vU a0, ae A00 a1.length, ae A01 a2.length] [] ([Row 1 (pl (aE .i64)) aA A00 a1, Row 1 (pl ca) aA A01 a2] ++ aI) (fun x : (av Unit) => .tuple #[.agg #[vU r.1.aK, ae x r.1.aX.length, vI r.1.vq], vI r.2]) (fun x => []) (fun _ => []) (fun x => [Row 15 (pl an.enc) aA x r.1.aX] ++ ([Row 1 (pl (aE .i64)) aA A00 a1, Row 1 (pl ca) aA A01 a2] ++ aI)) := by
 intro w Z hS
 refine bh (args := [vU a0, ae A00 a1.length, ae A01 a2.length]) (L := [(0, vU a0), (1, ae A00 a1.length), (2, ae A01 a2.length)]) (N := 51) Tryz.func30 hS ?_
 have hM := h
 clear h hS
 unfold cW.f at hM
 refine WP.seq ?_
 refine WP.rh [] (fun b1 => [(6, vP b1 0), (7, vI 0)]) (fun b1 => []) (fun b1 => [(b1, .cells #[vU 0, .slice none 0 0, vI 0] 101 (0, 0))]) (fun b1 => ?_)
 refine WP.seq ?_
 refine WP.rn [] [(8, .func (.func 65) #[] #[])] ?_
 refine WP.seq (WP.seq (WP.region (WL.rn 4 [] [(15, vB (decide ((a1.length : Int) > 64)))] ?_)))
 refine WL.bo 15 (decide ((a1.length : Int) > 64)) 6 [] [] (fun b' => [(21, vB (b' || ((a1.length : Int) != (a2.length : Int))))]) ?_
 refine WL.rn 1 [] [(22, vB ((decide ((a1.length : Int) > 64)) || ((a1.length : Int) != (a2.length : Int))))] ?_
 refine WL.join (σ := Bool) 4 (fun st => cW.k1 a1 a2 a0 k st = some r) (fun st => [(0, vU a0), (1, ae A00 a1.length), (2, ae A01 a2.length), (6, vP b1 0), (7, vI 0), (26, vB st)]) (fun st => Sat w Z [(b1, .cells #[vU 0, .slice none 0 0, vI 0] 101 (0, 0))] [] ([Row 1 (pl (aE .i64)) aA A00 a1, Row 1 (pl ca) aA A01 a2] ++ aI)) (fun st hM => ?_) (fun K1 => ?_)
 ·
  obtain ⟨x5, rfl⟩ : ∃ y, y = st := ⟨st, rfl⟩
  replace hM : cW.k1 a1 a2 a0 k x5 = some r := hM
  unfold cW.k1 at hM
  try dsimp only
  refine WP.done ?_
  refine WP.cond x5 rfl rfl (fun c6 => ?_) (fun c6 => ?_)
  ·replace hM := aG hM c6
   refine WP.seq (WP.rn [0, 0, 0] [(7, vI 1)] ?_)
   refine WP.ez (Row 15 (pl an.enc) aA (av.nil (fun _ => ())) ([] : List an)) [] [] rfl (fun w _ => eU.empty (fun _ => rfl)) ?_
   obtain rfl := oI hM
   exact WP.ret [0, 0, 0] [b1, b1, b1] (.tuple #[.agg #[vU 0, ae (av.nil (fun _ => ())) ([] : List an).length, vI 0], vI 1]) (by kernel_rfl) (fun w' hw => ⟨(av.nil (fun _ => ())), rfl, (hw.pick [] rfl).less (aT [0] [1, 2] rfl rfl)⟩)
  ·replace hM := aH hM c6
   refine WP.skip (WP.seq ?_)
   refine WP.rh [1, 1, 1] (fun b7 => [(9, vP b7 0)]) (fun b7 => []) (fun b7 => [(b7, .cells #[vU a0, .slice none 0 0, vI 0] 101 (0, 0))]) (fun b7 => ?_)
   refine WP.seq (WP.seq (WP.rn [] [(30, ae A00 a1.length), (31, vI (a1.length : Int)), (32, vI 0)] ?_))
   refine WP.block ?_
   refine WP.fH 15 182 (pl an.enc) aA (fun _ => ()) ?_
   skip
   refine WP.sub [2, 6, 7, 9, 30, 31, 32] (L' := [(2, ae A01 a2.length), (6, vP b1 0), (7, vI 0), (9, vP b7 0), (30, ae A00 a1.length), (31, vI (a1.length : Int)), (32, vI 0)]) rfl ?_
   refine WP.aQ [0, 0, 1, 2] (F' := [bC aA (av.nil (fun _ => ())) ([] : List an), bC aA (av.nil (fun _ => ())) ([] : List an), Row 1 (pl (aE .i64)) aA A00 a1, Row 1 (pl ca) aA A01 a2]) rfl ?_
   refine WP.loop (σ := Int × (List an) × av Unit) (fun n st => cW.l2 a1 a2 a0 n st.1 st.2.1) r (fun st => [(2, ae A01 a2.length), (6, vP b1 0), (7, vI 0), (9, vP b7 0), (30, ae A00 a1.length), (31, vI (a1.length : Int)), (32, vI st.1)]) (fun st => Sat w Z [(b1, .cells #[vU 0, .slice none 0 0, vI 0] 101 (0, 0)), (b7, .cells #[vU a0, ae st.2.2 st.2.1.length, vI 0] 101 (0, 0))] [bL 15 182 (pl an.enc) st.2.2 st.2.1] ([bC aA st.2.2 st.2.1, bC aA (av.nil (fun _ => ())) ([] : List an), Row 1 (pl (aE .i64)) aA A00 a1, Row 1 (pl ca) aA A01 a2] ++ aI)) (st := (0, ([] : List an), (av.nil (fun _ => ())))) (fun n st hM => ?_) hM
   rcases n with _ | n
   ·exact nomatch (show (none : Option _) = some r from hM)
   obtain ⟨x18, x19, A20⟩ := st
   replace hM : cW.l2 a1 a2 a0 (n + 1) x18 x19 = some r := hM
   rw [cW.l2] at hM
   try dsimp only
   refine WP.seq (WP.rn [] [(33, vB (decide (x18 < (a1.length : Int))))] ?_)
   refine WP.seq ?_
   refine WP.cond (decide (x18 < (a1.length : Int))) rfl rfl (fun c21 => ?_) (fun c21 => ?_)
   ·replace hM := aG hM c21
    refine WP.skip (WP.seq (WP.block (WP.seq (WP.region (WL.rn 1 [] [(34, vI x18)] ?_)))))
    obtain ⟨t22, h23, hM⟩ := bind_some hM
    refine WL.cd (φ := Row 1 (pl (aE .i64)) aA A00 a1) (ar 2 rfl) (fun w hR => aJ (A := A00) (xs := a1) (i := x18) (k := .i64) (e := 3) (m := 1) rfl rfl h23 rfl rfl hR) (by kernel_rfl) rfl rfl ?_
    refine WL.cd (φ := Row 1 (pl (aE .i64)) aA A00 a1) (ar 2 rfl) (fun w hR => bp (A := A00) (xs := a1) (i := x18) (j := 0) (v := vI t22) h23 (fun _ => by kernel_rfl) rfl rfl hR) (by kernel_rfl) rfl rfl ?_
    refine WL.rn 2 [] [(10, vI x18), (11, vI t22)] ?_
    refine WP.done ?_
    obtain ⟨t24, h25, hM⟩ := bind_some hM
    obtain ⟨u28, h27, hM⟩ := bind_some hM
    refine WP.rs [2, 6, 7, 9, 10, 11, 30, 31, 32, 33, 34, 35, 36] ?_
    refine WP.fB (X := (Nat × (av Unit))) 13 6 [⟨0, 13, fun _ => [(b1, .cells #[vU 0, .slice none 0 0, vI 0] 101 (0, 0))], fun _ => []⟩, ⟨0, 12, fun _ => [(b7, .cells #[vU a0, ae A20 x19.length, vI 0] 101 (0, 0))], fun _ => []⟩, ⟨0, 10, fun _ => [], fun _ => [bL 15 182 (pl an.enc) A20 x19]⟩, ⟨10, 10, fun ξ => [((ξ 9).1, .cells #[vB false, vI t22, vB false, vU 0, vI 0, vU 0, vI 0, vI 0, vB t24, vI 0, vI 0, vI 0, vI 0, vB false, vI 0] 182 (0, 0))], fun ξ => []⟩, ⟨11, 13, fun ξ => [], fun ξ => [bL 15 182 (pl an.enc) (ξ 10).2 (x19 ++ ([(an.mk (cJ.mk false t22 false (bK.mk 0 0 0 0 0)) t24 0 0 0 0 false 0)] : List an))]⟩, ⟨13, 13, fun ξ => [(b7, .cells #[vU a0, ae (ξ 10).2 (x19 ++ ([(an.mk (cJ.mk false t22 false (bK.mk 0 0 0 0 0)) t24 0 0 0 0 false 0)] : List an)).length, vI 0] 101 (0, 0))], fun ξ => []⟩] [⟨[], [], [], [], [], fun _ => vP b7 1, fun _ => []⟩, ⟨[0], [1], [1], [], [], fun _ => ae A20 x19.length, fun _ => []⟩, ⟨[], [], [], [], [], fun _ => vI t22, fun _ => []⟩, ⟨[2], [], [], [], [], fun _ => .agg #[vB false, vI t22, vB false, vU 0, vI 0, vU 0, vI 0, vI 0], fun _ => []⟩, ⟨[], [], [], [], [], fun _ => ae A01 a2.length, fun _ => []⟩, ⟨[], [], [], [], [], fun _ => vI x18, fun _ => []⟩, ⟨[4, 5], [], [], [], [], fun _ => dM A01 (Int.toNat x18 * 1), fun _ => []⟩, ⟨[4, 5, 6], [], [], [], [], fun _ => vB t24, fun _ => []⟩, ⟨[2, 3, 4, 5, 6, 7], [], [], [], [], fun _ => .agg #[vB false, vI t22, vB false, vU 0, vI 0, vU 0, vI 0, vI 0, vB t24, vI 0, vI 0, vI 0, vI 0, vB false, vI 0], fun _ => []⟩, ⟨[2, 3, 4, 5, 6, 7, 8], [], [3], [], [], fun ξ => .slice (some ⟨(ξ 9).1, 0, none⟩) 1 1, fun ξ => []⟩, ⟨[0, 1, 2, 3, 4, 5, 6, 7, 8, 9], [3, 2], [4], [9], [], fun ξ => ae (ξ 10).2 (x19 ++ ([(an.mk (cJ.mk false t22 false (bK.mk 0 0 0 0 0)) t24 0 0 0 0 false 0)] : List an)).length, fun ξ => [bC aA (ξ 10).2 (x19 ++ ([(an.mk (cJ.mk false t22 false (bK.mk 0 0 0 0 0)) t24 0 0 0 0 false 0)] : List an)), Row 15 (pl an.enc) aA (av.at (ξ 9).1 1 (fun _ => ())) ([(an.mk (cJ.mk false t22 false (bK.mk 0 0 0 0 0)) t24 0 0 0 0 false 0)] : List an)]⟩, ⟨[0, 1, 2, 3, 4, 5, 6, 7, 8, 9, 10], [], [], [], [], fun _ => vP b7 1, fun _ => []⟩, ⟨[0, 1, 2, 3, 4, 5, 6, 7, 8, 9, 10, 11], [1], [5], [10], [], fun _ => .tuple #[], fun _ => []⟩] (fun ξ => [(37, vP b7 1), (39, vI t22), (40, .agg #[vB false, vI t22, vB false, vU 0, vI 0, vU 0, vI 0, vI 0]), (41, ae A01 a2.length), (42, vI x18), (43, dM A01 (Int.toNat x18 * 1)), (44, vB t24), (45, .agg #[vB false, vI t22, vB false, vU 0, vI 0, vU 0, vI 0, vI 0, vB t24, vI 0, vI 0, vI 0, vI 0, vB false, vI 0]), (47, ae (ξ 10).2 (x19 ++ ([(an.mk (cJ.mk false t22 false (bK.mk 0 0 0 0 0)) t24 0 0 0 0 false 0)] : List an)).length), (48, vP b7 1)]) (fun ξ => [(b1, .cells #[vU 0, .slice none 0 0, vI 0] 101 (0, 0)), (b7, .cells #[vU a0, ae (ξ 10).2 (x19 ++ ([(an.mk (cJ.mk false t22 false (bK.mk 0 0 0 0 0)) t24 0 0 0 0 false 0)] : List an)).length, vI 0] 101 (0, 0))]) (fun ξ => [bL 15 182 (pl an.enc) (ξ 10).2 (x19 ++ ([(an.mk (cJ.mk false t22 false (bK.mk 0 0 0 0 0)) t24 0 0 0 0 false 0)] : List an))]) (fun ξ => [bC aA (ξ 10).2 (x19 ++ ([(an.mk (cJ.mk false t22 false (bK.mk 0 0 0 0 0)) t24 0 0 0 0 false 0)] : List an)), Row 15 (pl an.enc) aA (av.at (ξ 9).1 1 (fun _ => ())) ([(an.mk (cJ.mk false t22 false (bK.mk 0 0 0 0 0)) t24 0 0 0 0 false 0)] : List an)]) (aq.cons ?_ (aq.cons ?_ (aq.cons ?_ (aq.cons ?_ (aq.cons ?_ (aq.cons ?_ (aq.cons ?_ (aq.cons ?_ (aq.cons ?_ (aq.cons ?_ (aq.cons ?_ (aq.cons ?_ (aq.cons ?_ aq.nil))))))))))))) (aq.cons (bf.c rfl) (aq.cons (bf.c rfl) (aq.cons (bf.c rfl) (aq.cons (bf.c rfl) (aq.cons (bf.c rfl) (aq.cons (bf.c rfl) (aq.cons (bf.c rfl) (aq.cons (bf.c rfl) (aq.cons (bf.c rfl) (aq.cons (fun t ht ξ ξ' h => by cases ht; have e9 : ξ 9 = ξ' 9 := h 9 (aC.1 rfl); exact ⟨by first | rfl | simp only [e9], by first | rfl | simp only [e9]⟩) (aq.cons (fun t ht ξ ξ' h => by cases ht; have e9 : ξ 9 = ξ' 9 := h 9 (aC.1 rfl); have yZ : ξ 10 = ξ' 10 := h 10 (aC.1 rfl); exact ⟨by first | rfl | simp only [e9, yZ], by first | rfl | simp only [e9, yZ]⟩) (aq.cons (bf.c rfl) (aq.cons (bf.c rfl) aq.nil))))))))))))) (aq.cons (dA.c rfl) (aq.cons (dA.c rfl) (aq.cons (dA.c rfl) (aq.cons (fun r hr ξ ξ' h => by cases hr; have e9 : ξ 9 = ξ' 9 := h 9 (aC.1 rfl); exact ⟨by first | rfl | simp only [e9], by first | rfl | simp only [e9]⟩) (aq.cons (fun r hr ξ ξ' h => by cases hr; have yZ : ξ 10 = ξ' 10 := h 10 (aC.1 rfl); exact ⟨by first | rfl | simp only [yZ], by first | rfl | simp only [yZ]⟩) (aq.cons (fun r hr ξ ξ' h => by cases hr; have yZ : ξ 10 = ξ' 10 := h 10 (aC.1 rfl); exact ⟨by first | rfl | simp only [yZ], by first | rfl | simp only [yZ]⟩) aq.nil)))))) (fun ξ => ?_)
    ·
     intro o t ho ht ξ Gr Γr Lr Q hk
     cases ho; cases ht
     refine WL.rn 1 [] [(37, vP b7 1)] ?_
     exact WL.fin (hk default)
    ·
     intro o t ho ht ξ Gr Γr Lr Q hk
     cases ho; cases ht
     refine WL.rn 1 [0] [(38, ae A20 x19.length)] ?_
     exact WL.fin (hk default)
    ·
     intro o t ho ht ξ Gr Γr Lr Q hk
     cases ho; cases ht
     refine WL.rn 1 [] [(39, vI t22)] ?_
     exact WL.fin (hk default)
    ·
     intro o t ho ht ξ Gr Γr Lr Q hk
     cases ho; cases ht
     refine WL.rn 1 [] [(40, .agg #[vB false, vI t22, vB false, vU 0, vI 0, vU 0, vI 0, vI 0])] ?_
     exact WL.fin (hk default)
    ·
     intro o t ho ht ξ Gr Γr Lr Q hk
     cases ho; cases ht
     refine WL.rn 1 [] [(41, ae A01 a2.length)] ?_
     exact WL.fin (hk default)
    ·
     intro o t ho ht ξ Gr Γr Lr Q hk
     cases ho; cases ht
     refine WL.rn 1 [] [(42, vI x18)] ?_
     exact WL.fin (hk default)
    ·
     intro o t ho ht ξ Gr Γr Lr Q hk
     cases ho; cases ht
     refine WL.cd (φ := Row 1 (pl ca) aA A01 a2) (ar 3 rfl) (fun w hR => aJ (A := A01) (xs := a2) (i := x18) (k := .i64) (e := 4) (m := 1) rfl rfl h25 rfl rfl hR) (by kernel_rfl) rfl rfl ?_
     exact WL.fin (hk default)
    ·
     intro o t ho ht ξ Gr Γr Lr Q hk
     cases ho; cases ht
     refine WL.cd (φ := Row 1 (pl ca) aA A01 a2) (ar 3 rfl) (fun w hR => bp (A := A01) (xs := a2) (i := x18) (j := 0) (v := vB t24) h25 (fun _ => by kernel_rfl) rfl rfl hR) (by kernel_rfl) rfl rfl ?_
     exact WL.fin (hk default)
    ·
     intro o t ho ht ξ Gr Γr Lr Q hk
     cases ho; cases ht
     refine WL.rn 1 [] [(45, .agg #[vB false, vI t22, vB false, vU 0, vI 0, vU 0, vI 0, vI 0, vB t24, vI 0, vI 0, vI 0, vI 0, vB false, vI 0])] ?_
     exact WL.fin (hk default)
    ·
     intro o t ho ht ξ Gr Γr Lr Q hk
     cases ho; cases ht
     refine WL.rh 1 [] (fun b26 => [(46, .slice (some ⟨b26, 0, none⟩) 1 1)]) (fun b26 => []) (fun b26 => [(b26, .cells #[vB false, vI t22, vB false, vU 0, vI 0, vU 0, vI 0, vI 0, vB t24, vI 0, vI 0, vI 0, vI 0, vB false, vI 0] 182 (0, 0))]) (fun b26 => ?_)
     exact WL.fin (hk (b26, default))
    ·
     intro o t ho ht ξ Gr Γr Lr Q hk
     cases ho; cases ht
     refine WL.tW (H' := []) (Row 15 (pl an.enc) aA (av.at (ξ 9).1 1 (fun _ => ())) ([(an.mk (cJ.mk false t22 false (bK.mk 0 0 0 0 0)) t24 0 0 0 0 false 0)] : List an)) 0 (b := (ξ 9).1) (ob := .cells #[vB false, vI t22, vB false, vU 0, vI 0, vU 0, vI 0, vI 0, vB t24, vI 0, vI 0, vI 0, vI 0, vB false, vI 0] 182 (0, 0)) rfl [] [] rfl (fun w hb hψ => cl hb (fun _ _ => rfl) ⟨[], by kernel_rfl⟩ (nB rfl) (jj.no _ _)) rfl ?_
     refine WL.dW (G' := Gr) (A := A20) (B := (av.at (ξ 9).1 1 (fun _ => ()))) (xs := x19) (ys := ([(an.mk (cJ.mk false t22 false (bK.mk 0 0 0 0 0)) t24 0 0 0 0 false 0)] : List an)) (m := 15) (by_ := 120) (e := 182) (z := .agg #[vB false, vI 0, vB false, vU 0, vI 0, vU 0, vI 0, vI 0, vB false, vI 0, vI 0, vI 0, vI 0, vB false, vI 0]) (f := (pl an.enc)) (K := aA) (d := 47) 0 rfl rfl rfl rfl rfl rfl rfl (fun _ _ => rfl) (fun _ _ => rfl) (by kernel_rfl) rfl rfl rfl rfl (ar 1 rfl) (ar 0 rfl) h27 rfl (fun A29 => ?_)
     refine WL.less (Φ' := (([bC aA A29 (x19 ++ ([(an.mk (cJ.mk false t22 false (bK.mk 0 0 0 0 0)) t24 0 0 0 0 false 0)] : List an)), Row 15 (pl an.enc) aA (av.at (ξ 9).1 1 (fun _ => ())) ([(an.mk (cJ.mk false t22 false (bK.mk 0 0 0 0 0)) t24 0 0 0 0 false 0)] : List an), bC aA A20 x19, bC aA (av.nil (fun _ => ())) ([] : List an), Row 1 (pl (aE .i64)) aA A00 a1, Row 1 (pl ca) aA A01 a2] ++ Γr) ++ aI)) (fun _ h => h) ?_
     exact WL.fin (hk (default, A29))
    ·
     intro o t ho ht ξ Gr Γr Lr Q hk
     cases ho; cases ht
     refine WL.rn 1 [] [(48, vP b7 1)] ?_
     exact WL.fin (hk default)
    ·
     intro o t ho ht ξ Gr Γr Lr Q hk
     cases ho; cases ht
     refine WL.rh 1 [0] (fun _ => []) (fun _ => [(0, 1, [ae (ξ 10).2 (x19 ++ ([(an.mk (cJ.mk false t22 false (bK.mk 0 0 0 0 0)) t24 0 0 0 0 false 0)] : List an)).length])]) (fun _ => []) (fun _ => ?_)
     exact WL.fin (hk default)
    generalize (ξ 9).1 = b26
    generalize (ξ 10).2 = A29
    refine WP.less (Φ' := ([bC aA A29 (x19 ++ ([(an.mk (cJ.mk false t22 false (bK.mk 0 0 0 0 0)) t24 0 0 0 0 false 0)] : List an)), Row 15 (pl an.enc) aA (av.at b26 1 (fun _ => ())) ([(an.mk (cJ.mk false t22 false (bK.mk 0 0 0 0 0)) t24 0 0 0 0 false 0)] : List an), bC aA A20 x19, bC aA (av.nil (fun _ => ())) ([] : List an), Row 1 (pl (aE .i64)) aA A00 a1, Row 1 (pl ca) aA A01 a2] ++ aI)) (fun _ h => h) ?_
    refine WP.leave (WP.rn [] [(32, vI (i64 (x18 + 1))), (49, vI (i64 (x18 + 1)))] ?_)
    exact WP.cN [2, 6, 7, 9, 30, 31, 32] (i64 (x18 + 1), (x19 ++ ([(an.mk (cJ.mk false t22 false (bK.mk 0 0 0 0 0)) t24 0 0 0 0 false 0)] : List an)), A29) hM rfl (fun _ h => ((h.pick [0, 1] rfl).aQ [0, 3, 4, 5] rfl).dE [0] [] 1 rfl (by decide) rfl)
   ·replace hM := aH hM c21
    refine WP.exit rfl (WP.seq ?_)
    refine WP.rh [1, 1, 1, 0, 0, 0] (fun _ => [(7, vI 0)]) (fun _ => [(0, 0, [vU a0, ae A20 x19.length])]) (fun _ => []) (fun _ => ?_)
    refine WP.kp [true, false] ?_
    refine WP.dD (G' := []) (m := 15) (e := 182) (f := (pl an.enc)) (K := aA) (A := A20) (xs := x19) 0 0 rfl rfl (fun _ _ => rfl) rfl ?_
    obtain rfl := oI hM
    exact WP.ret [0, 0, 0] [b1, b1, b1] (.tuple #[.agg #[vU a0, ae A20 x19.length, vI 0], vI 0]) (by kernel_rfl) (fun w' hw => ⟨A20, rfl, (hw.pick [] rfl).less (aT [0] [3, 4] rfl rfl)⟩)
 ·
  refine WL.sp 22 ((decide ((a1.length : Int) > 64)) || ((a1.length : Int) != (a2.length : Int))) (fun c2 => ?_) (fun c2 => ?_)
  ·replace hM := aG hM c2
   refine WL.rn 4 [] [(26, vB true)] ?_
   exact WL.sub [0, 1, 2, 6, 7, 26] rfl (WL.pick [0] rfl rfl (WL.aQ [0, 1] rfl (K1 true hM)))
  ·replace hM := aH hM c2
   refine WL.rn 2 [] [(23, ae A00 a1.length), (24, .func (.func 65) #[] #[])] ?_
   obtain ⟨r3, h4, hM⟩ := bind_some hM
   refine WL.cQ [] [] (gh k A00 a1 _ h4) (bE [0] rfl) (by kernel_rfl) rfl rfl ?_
   refine WL.rn 1 [] [(26, vB r3)] ?_
   exact WL.sub [0, 1, 2, 6, 7, 26] rfl (WL.pick [0] rfl rfl (WL.aQ [0, 1] rfl (K1 r3 hM)))
def fE.f (a0 : Int) (a1 : Int) : Option (Int) :=
 (ir.f a0 a1).bind fun r1 =>
 bif (r1 != 0) then
  some r1
 else
  some 0
theorem nq (a0 : Int) (a1 : Int) (r : Int) (h : fE.f a0 a1 = some r) : eT Tryz.prog 31 #[vI a0, vI a1] [] ([] ++ aI) (fun x : (Option Addr) => .tuple #[.pointer x, vI r]) (fun x => []) (fun _ => []) (fun x => [] ++ ([] ++ aI)) := by
 intro w Z hS
 refine bh (args := [vI a0, vI a1]) (L := [(0, vI a0), (1, vI a1)]) (N := 21) Tryz.func31 hS ?_
 have hM := h
 clear h hS
 unfold fE.f at hM
 refine WP.seq (WP.rn [] [(4, .pointer none), (5, vI 0)] ?_)
 refine WP.seq (WP.region (WL.rn 2 [] [(9, vI a0), (10, vI a1)] ?_))
 obtain ⟨r1, h2, hM⟩ := bind_some hM
 refine WL.c0 (F0 := []) [] [] [] (fun _ => _) [] rfl (jg a0 a1 _ h2) rfl rfl (by kernel_rfl) rfl (fun _ => rfl) (fun A3 => ?_)
 refine WL.rn 5 [] [(6, .pointer A3), (7, vI r1)] ?_
 refine WP.done (WP.seq (WP.seq (WP.rn [] [(15, vB (r1 != 0))] ?_)))
 refine WP.cond (r1 != 0) rfl rfl (fun c4 => ?_) (fun c4 => ?_)
 ·replace hM := aG hM c4
  refine WP.seq (WP.rn [] [(4, .pointer none), (5, vI r1)] ?_)
  obtain rfl := oI hM
  exact WP.ret [] [] (.tuple #[.pointer none, vI r1]) (by kernel_rfl) (fun w' hw => ⟨(none : Option Addr), rfl, (hw.pick [] rfl).less (aT [] [] rfl rfl)⟩)
 ·replace hM := aH hM c4
  refine WP.skip (WP.seq ?_)
  refine WP.rh [] (fun b5 => [(4, vP b5 0), (5, vI 0)]) (fun b5 => []) (fun b5 => [(b5, .cells #[.pointer A3] 189 (0, 0))]) (fun b5 => ?_)
  obtain rfl := oI hM
  exact WP.ret [] [] (.tuple #[vP b5 0, vI 0]) (by kernel_rfl) (fun w' hw => ⟨(some ⟨b5, 0, none⟩), rfl, (hw.pick [] rfl).less (aT [] [] rfl rfl)⟩)
def jw.f (a0 : Int) : Option (Bool) :=
 some ((eu .u64 a0 1099511627776) != 0)
theorem nz (a0 : Int) (r : Bool) (h : jw.f a0 = some r) : Pure Tryz.prog aI 102 #[vU a0] (vB r) := by
 intro w Z hS
 refine bh (args := [vU a0]) (L := [(0, vU a0)]) (N := 6) Tryz.func102 hS ?_
 have hM := h
 clear h hS
 unfold jw.f at hM
 refine WP.seq (WP.rn [] [(2, vB false)] ?_)
 refine WP.seq (WP.rn [] [(2, vB ((eu .u64 a0 1099511627776) != 0))] ?_)
 obtain rfl := oI hM
 exact WP.lY [] []
def eE.k1 (x4 : Bool) : Option (Bool) :=
 some x4
def eE.f (a0 : Int) : Option (Bool) :=
 bif ((a0 != 0) && (decide (a0 < 281474976710656))) then
  (jw.f a0).bind fun r2 =>
  eE.k1 (!r2)
 else
  eE.k1 false
theorem pf (a0 : Int) (r : Bool) (h : eE.f a0 = some r) : Pure Tryz.prog aI 69 #[vU a0] (vB r) := by
 intro w Z hS
 refine bh (args := [vU a0]) (L := [(0, vU a0)]) (N := 14) Tryz.func69 hS ?_
 have hM := h
 clear h hS
 unfold eE.f at hM
 refine WP.seq (WP.rn [] [(2, vB false)] ?_)
 refine WP.seq (WP.region (WL.rn 3 [] [(5, vB (a0 != 0))] ?_))
 refine WL.bo 5 (a0 != 0) 3 [] [] (fun b' => [(8, vB (b' && (decide (a0 < 281474976710656))))]) ?_
 refine WL.rn 1 [] [(9, vB ((a0 != 0) && (decide (a0 < 281474976710656))))] ?_
 refine WL.join (σ := Bool) 4 (fun st => eE.k1 st = some r) (fun st => [(2, vB false), (13, vB st)]) (fun st => Sat w Z [] [] aI) (fun st hM => ?_) (fun K1 => ?_)
 ·
  obtain ⟨x4, rfl⟩ : ∃ y, y = st := ⟨st, rfl⟩
  replace hM : eE.k1 x4 = some r := hM
  unfold eE.k1 at hM
  try dsimp only
  refine WL.rn 1 [] [(2, vB x4)] ?_
  refine WP.done ?_
  obtain rfl := oI hM
  exact WP.lY [] []
 ·
  refine WL.sp 9 ((a0 != 0) && (decide (a0 < 281474976710656))) (fun c1 => ?_) (fun c1 => ?_)
  ·replace hM := aG hM c1
   refine WL.rn 1 [] [(10, vU a0)] ?_
   obtain ⟨r2, h3, hM⟩ := bind_some hM
   refine WL.cQ [] [] (nz a0 _ h3) (fun _ h => h) (by kernel_rfl) rfl rfl ?_
   refine WL.rn 2 [] [(13, vB (!r2))] ?_
   exact WL.sub [2, 13] rfl (WL.pick [] rfl rfl (K1 (!r2) hM))
  ·replace hM := aH hM c1
   refine WL.rn 4 [] [(13, vB false)] ?_
   exact WL.sub [2, 13] rfl (WL.pick [] rfl rfl (K1 false hM))
def ig.f (a0 : Int) : Option (Bool) :=
 some ((decide (a0 ≥ 1)) && (decide (a0 ≤ 64)))
theorem gn (a0 : Int) (r : Bool) (h : ig.f a0 = some r) : Pure Tryz.prog aI 68 #[vI a0] (vB r) := by
 intro w Z hS
 refine bh (args := [vI a0]) (L := [(0, vI a0)]) (N := 9) Tryz.func68 hS ?_
 have hM := h
 clear h hS
 unfold ig.f at hM
 refine WP.seq (WP.rn [] [(2, vB false)] ?_)
 refine WP.seq (WP.region (WL.rn 3 [] [(5, vB (decide (a0 ≥ 1)))] ?_))
 refine WL.bo 5 (decide (a0 ≥ 1)) 3 [] [] (fun b' => [(8, vB (b' && (decide (a0 ≤ 64))))]) ?_
 refine WL.rn 1 [] [(2, vB ((decide (a0 ≥ 1)) && (decide (a0 ≤ 64))))] ?_
 refine WP.done ?_
 obtain rfl := oI hM
 exact WP.lY [] []
def bZ.k1 (x20 : Bool) : Option (Int) :=
 bif x20 then
  some 1
 else
  some 0
def bZ.k2 (a0 : bj) (x16 : Bool) : Option (Int) :=
 bif x16 then
  bZ.k1 true
 else
  (ig.f a0.bn).bind fun r18 =>
  bZ.k1 (!r18)
def bZ.k3 (a0 : bj) (x12 : Bool) : Option (Int) :=
 bif x12 then
  bZ.k2 a0 true
 else
  (ig.f a0.br).bind fun r14 =>
  bZ.k2 a0 (!r14)
def bZ.k4 (a0 : bj) (x8 : Bool) : Option (Int) :=
 bif (x8 || (a0.Ip == 0)) then
  bZ.k3 a0 true
 else
  (ig.f a0.cp).bind fun r10 =>
  bZ.k3 a0 (!r10)
def bZ.f (a0 : bj) : Option (Int) :=
 (ir.f a0.Room a0.aY).bind fun r2 =>
 bif (r2 != 0) then
  bZ.k4 a0 true
 else
  (eE.f a0.bx).bind fun r6 =>
  bZ.k4 a0 (!r6)
theorem o5 (a0 : bj) (r : Int) (h : bZ.f a0 = some r) : eT Tryz.prog 32 #[bj.v a0] [] ([] ++ aI) (fun x : (Option Addr) => .tuple #[.pointer x, vI r]) (fun x => []) (fun _ => []) (fun x => [] ++ ([] ++ aI)) := by
 intro w Z hS
 refine bh (args := [bj.v a0]) (L := [(0, bj.v a0)]) (N := 53) Tryz.func32 hS ?_
 have hM := h
 clear h hS
 unfold bZ.f at hM
 refine WP.seq ?_
 refine WP.rh [] (fun b1 => [(1, vP b1 0), (2, .pointer none), (3, vI 0)]) (fun b1 => []) (fun b1 => [(b1, bj.o a0)]) (fun b1 => ?_)
 refine WP.seq (WP.region (WL.rn 4 [0, 0] [(9, vI a0.Room), (11, vI a0.aY)] ?_))
 obtain ⟨r2, h3, hM⟩ := bind_some hM
 refine WL.c0 (F0 := []) [] [] [false] (fun _ => _) [] rfl (jg a0.Room a0.aY _ h3) rfl rfl (by kernel_rfl) rfl (fun _ => rfl) (fun A4 => ?_)
 refine WL.rn 5 [] [(4, .pointer A4), (5, vI r2)] ?_
 refine WP.done (WP.seq ?_)
 refine WP.rn [] [(6, .func (.func 68) #[] #[])] ?_
 refine WP.seq (WP.seq (WP.region (WL.rn 3 [] [(17, vB (r2 != 0))] ?_)))
 refine WL.join (σ := Bool) 5 (fun st => bZ.k4 a0 st = some r) (fun st => [(1, vP b1 0), (2, .pointer none), (3, vI 0), (4, .pointer A4), (6, .func (.func 68) #[] #[]), (22, vB st)]) (fun st => Sat w Z [(b1, bj.o a0)] [] ([] ++ aI)) (fun st hM => ?_) (fun K4 => ?_)
 ·
  obtain ⟨x8, rfl⟩ : ∃ y, y = st := ⟨st, rfl⟩
  replace hM : bZ.k4 a0 x8 = some r := hM
  unfold bZ.k4 at hM
  try dsimp only
  refine WL.rn 1 [] [(23, vB x8)] ?_
  refine WL.bo 23 x8 4 [] [0] (fun b' => [(27, vB (b' || (a0.Ip == 0)))]) ?_
  refine WL.rn 1 [] [(28, vB (x8 || (a0.Ip == 0)))] ?_
  refine WL.join (σ := Bool) 6 (fun st => bZ.k3 a0 st = some r) (fun st => [(1, vP b1 0), (2, .pointer none), (3, vI 0), (4, .pointer A4), (6, .func (.func 68) #[] #[]), (34, vB st)]) (fun st => Sat w Z [(b1, bj.o a0)] [] ([] ++ aI)) (fun st hM => ?_) (fun K3 => ?_)
  ·
   obtain ⟨x12, rfl⟩ : ∃ y, y = st := ⟨st, rfl⟩
   replace hM : bZ.k3 a0 x12 = some r := hM
   unfold bZ.k3 at hM
   try dsimp only
   refine WL.rn 1 [] [(35, vB x12)] ?_
   refine WL.join (σ := Bool) 6 (fun st => bZ.k2 a0 st = some r) (fun st => [(1, vP b1 0), (2, .pointer none), (3, vI 0), (4, .pointer A4), (6, .func (.func 68) #[] #[]), (41, vB st)]) (fun st => Sat w Z [(b1, bj.o a0)] [] ([] ++ aI)) (fun st hM => ?_) (fun K2 => ?_)
   ·
    obtain ⟨x16, rfl⟩ : ∃ y, y = st := ⟨st, rfl⟩
    replace hM : bZ.k2 a0 x16 = some r := hM
    unfold bZ.k2 at hM
    try dsimp only
    refine WL.rn 1 [] [(42, vB x16)] ?_
    refine WL.join (σ := Bool) 6 (fun st => bZ.k1 st = some r) (fun st => [(1, vP b1 0), (2, .pointer none), (3, vI 0), (4, .pointer A4), (48, vB st)]) (fun st => Sat w Z [(b1, bj.o a0)] [] ([] ++ aI)) (fun st hM => ?_) (fun K1 => ?_)
    ·
     obtain ⟨x20, rfl⟩ : ∃ y, y = st := ⟨st, rfl⟩
     replace hM : bZ.k1 x20 = some r := hM
     unfold bZ.k1 at hM
     try dsimp only
     refine WP.done ?_
     refine WP.cond x20 rfl rfl (fun c21 => ?_) (fun c21 => ?_)
     ·replace hM := aG hM c21
      refine WP.seq (WP.rn [] [(2, .pointer none), (3, vI 1)] ?_)
      obtain rfl := oI hM
      exact WP.ret [] [] (.tuple #[.pointer none, vI 1]) (by kernel_rfl) (fun w' hw => ⟨(none : Option Addr), rfl, (hw.pick [] rfl).less (aT [] [] rfl rfl)⟩)
     ·replace hM := aH hM c21
      refine WP.skip (WP.seq ?_)
      refine WP.rh [0, 0, 0, 0, 0, 0, 0] (fun b22 => [(2, vP b22 0), (3, vI 0)]) (fun b22 => []) (fun b22 => [(b22, .cells #[vU a0.bx, vT a0.Ip, vI a0.Room, vI a0.aY, vI a0.cp, vI a0.br, vI a0.bn, .pointer A4, .slice none 0 0, .slice none 0 0, vI 0] 194 (0, 0))]) (fun b22 => ?_)
      refine WP.kp [false, true] ?_
      obtain rfl := oI hM
      exact WP.ret [] [] (.tuple #[vP b22 0, vI 0]) (by kernel_rfl) (fun w' hw => ⟨(some ⟨b22, 0, none⟩), rfl, (hw.pick [] rfl).less (aT [] [] rfl rfl)⟩)
    ·
     refine WL.sp 42 x16 (fun c17 => ?_) (fun c17 => ?_)
     ·replace hM := aG hM c17
      refine WL.rn 6 [] [(48, vB true)] ?_
      exact WL.sub [1, 2, 3, 4, 48] rfl (WL.pick [0] rfl rfl (WL.aQ [] rfl (K1 true hM)))
     ·replace hM := aH hM c17
      refine WL.rn 3 [0] [(43, .func (.func 68) #[] #[]), (45, vI a0.bn)] ?_
      obtain ⟨r18, h19, hM⟩ := bind_some hM
      refine WL.cQ [] [] (gn a0.bn _ h19) (fun _ h => List.mem_append_right _ h) (by kernel_rfl) rfl rfl ?_
      refine WL.rn 2 [] [(48, vB (!r18))] ?_
      exact WL.sub [1, 2, 3, 4, 48] rfl (WL.pick [0] rfl rfl (WL.aQ [] rfl (K1 (!r18) hM)))
   ·
    refine WL.sp 35 x12 (fun c13 => ?_) (fun c13 => ?_)
    ·replace hM := aG hM c13
     refine WL.rn 6 [] [(41, vB true)] ?_
     exact WL.sub [1, 2, 3, 4, 6, 41] rfl (WL.pick [0] rfl rfl (WL.aQ [] rfl (K2 true hM)))
    ·replace hM := aH hM c13
     refine WL.rn 3 [0] [(36, .func (.func 68) #[] #[]), (38, vI a0.br)] ?_
     obtain ⟨r14, h15, hM⟩ := bind_some hM
     refine WL.cQ [] [] (gn a0.br _ h15) (fun _ h => List.mem_append_right _ h) (by kernel_rfl) rfl rfl ?_
     refine WL.rn 2 [] [(41, vB (!r14))] ?_
     exact WL.sub [1, 2, 3, 4, 6, 41] rfl (WL.pick [0] rfl rfl (WL.aQ [] rfl (K2 (!r14) hM)))
  ·
   refine WL.sp 28 (x8 || (a0.Ip == 0)) (fun c9 => ?_) (fun c9 => ?_)
   ·replace hM := aG hM c9
    refine WL.rn 6 [] [(34, vB true)] ?_
    exact WL.sub [1, 2, 3, 4, 6, 34] rfl (WL.pick [0] rfl rfl (WL.aQ [] rfl (K3 true hM)))
   ·replace hM := aH hM c9
    refine WL.rn 3 [0] [(29, .func (.func 68) #[] #[]), (31, vI a0.cp)] ?_
    obtain ⟨r10, h11, hM⟩ := bind_some hM
    refine WL.cQ [] [] (gn a0.cp _ h11) (fun _ h => List.mem_append_right _ h) (by kernel_rfl) rfl rfl ?_
    refine WL.rn 2 [] [(34, vB (!r10))] ?_
    exact WL.sub [1, 2, 3, 4, 6, 34] rfl (WL.pick [0] rfl rfl (WL.aQ [] rfl (K3 (!r10) hM)))
 ·
  refine WL.sp 17 (r2 != 0) (fun c5 => ?_) (fun c5 => ?_)
  ·replace hM := aG hM c5
   refine WL.rn 5 [] [(22, vB true)] ?_
   exact WL.sub [1, 2, 3, 4, 6, 22] rfl (WL.pick [0] rfl rfl (WL.aQ [] rfl (K4 true hM)))
  ·replace hM := aH hM c5
   refine WL.rn 2 [0] [(19, vU a0.bx)] ?_
   obtain ⟨r6, h7, hM⟩ := bind_some hM
   refine WL.cQ [] [] (pf a0.bx _ h7) (fun _ h => List.mem_append_right _ h) (by kernel_rfl) rfl rfl ?_
   refine WL.rn 2 [] [(22, vB (!r6))] ?_
   exact WL.sub [1, 2, 3, 4, 6, 22] rfl (WL.pick [0] rfl rfl (WL.aQ [] rfl (K4 (!r6) hM)))
def ee.f (k : Nat) : Option (List (aS Int)) := if 33 < k then some (List.replicate 33 (aS.nil : aS Int)) else none
def ee.M (n : Nat) (bs : List Nat) : Option (List (aS Int)) := if bs.length ≤ 33 ∧ 33 - bs.length < n then some (List.replicate 33 (aS.nil : aS Int)) else none
theorem nT (k : Nat) (r : (List (aS Int))) (h : ee.f k = some r) : oV Tryz.prog 70 #[] [] [] ([] ++ aI) (fun x : (Nat × List Nat) => vP x.1 0) (fun _ => []) (fun x => [ke 249 33 .u32 (Value.int .u32) x r]) (fun x => [] ++ ([] ++ aI)) := by
 intro w Z hS
 refine gz (args := []) (L := []) (N := 16) (S := Sat w Z [] [] ([] ++ aI)) Tryz.func70 rfl rfl (nB rfl) rfl hS ?_
 have hM : ee.M k [] = some r := by
  unfold ee.f at h
  unfold ee.M
  simp only [List.length_nil, Nat.zero_le, true_and, Nat.sub_zero]
  exact h
 clear h hS
 refine WP.seq (WP.rn [] [(0, .pointer none)] ?_)
 refine WP.seq ?_
 refine WP.rh [] (fun b1 => [(1, vP b1 0)]) (fun b1 => []) (fun b1 => [(b1, .cells #[.map none, .map none, .map none, .map none, .map none, .map none, .map none, .map none, .map none, .map none, .map none, .map none, .map none, .map none, .map none, .map none, .map none, .map none, .map none, .map none, .map none, .map none, .map none, .map none, .map none, .map none, .map none, .map none, .map none, .map none, .map none, .map none, .map none] 249 (0, 0))]) (fun b1 => ?_)
 refine WP.yS (b := b1) (e := 249) (cs := #[.map none, .map none, .map none, .map none, .map none, .map none, .map none, .map none, .map none, .map none, .map none, .map none, .map none, .map none, .map none, .map none, .map none, .map none, .map none, .map none, .map none, .map none, .map none, .map none, .map none, .map none, .map none, .map none, .map none, .map none, .map none, .map none, .map none]) (n := 33) 0 rfl rfl (H' := []) rfl ?_
 refine WP.seq (WP.seq (WP.rn [] [(5, vI 0)] ?_))
 refine WP.block ?_
 refine WP.sub [1, 5] (L' := [(1, vP b1 0), (5, vI (([] : List Nat).length : Int))]) rfl ?_
 refine WP.loop (σ := List Nat) (fun n bs => ee.M n bs) r (fun bs => [(1, vP b1 0), (5, vI (bs.length : Int))]) (fun bs => Sat w Z [] [pj 249 33 (b1, bs)] ([] ++ aI)) (st := []) (fun n bs hM => ?_) hM
 obtain ⟨hle, hlt, hr⟩ : bs.length ≤ 33 ∧ 33 - bs.length < n ∧ List.replicate 33 (aS.nil : aS Int) = r := by
  have hM' := hM
  unfold ee.M at hM'
  split at hM'
  ·rename_i hh; exact ⟨hh.1, hh.2, oI hM'⟩
  ·cases hM'
 rcases n with _ | n
 ·omega
 clear hM
 show WP _ _ _ _ _ [(1, vP b1 0), (5, vI (bs.length : Int))] (Sat w Z [] [pj 249 33 (b1, bs)] ([] ++ aI))
 refine WP.seq (WP.rn [] [(6, vB (decide ((bs.length : Int) < 33)))] ?_)
 refine WP.seq ?_
 refine WP.cond (decide ((bs.length : Int) < 33)) rfl rfl (fun c11 => ?_) (fun c11 => ?_)
 ·have hl : bs.length < 33 := by have := of_decide_eq_true c11; omega
  refine WP.skip (WP.seq (WP.block (WP.seq (WP.rn [] [(7, vI (bs.length : Int)), (2, vI (bs.length : Int))] ?_))))
  refine WP.region ?_
  refine WL.rh 5 [] (fun b2 => [(8, vP b1 0), (9, vI (bs.length : Int)), (10, .map (some b2)), (11, vP b1 0), (12, vP b1 0)]) (fun b2 => []) (fun b2 => [(b2, .map #[] 0)]) (fun b2 => ?_)
  have hg : cI 33 (List.replicate 33 ()) (bs.length : Int) = some () := by
   unfold cI
   rw [if_pos ⟨by omega, by omega⟩, List.getElem?_replicate, if_pos (by omega)]
  refine WL.val (v := .pointer (some ⟨b1, 0 + Int.toNat (bs.length : Int) * 1, none⟩)) (fun _ => mo (xs := List.replicate 33 ()) (u := ()) (n := 33) (e := 246) (sz := 1) (k := .i64) (i := (bs.length : Int)) (b := b1) (o := 0) rfl rfl rfl rfl hg) (by kernel_rfl) rfl rfl ?_
  refine WL.Ag (b' := b2) (i := (bs.length : Int)) (H' := []) 0 (fun _ => by kernel_rfl) rfl rfl rfl rfl (by simp) hl rfl rfl rfl ?_
  refine WP.done (WP.leave (WP.rn [] [(14, vI (i64 ((bs.length : Int) + 1))), (5, vI (i64 ((bs.length : Int) + 1)))] ?_))
  have e : i64 ((bs.length : Int) + 1) = (((bs ++ [b2]).length : Nat) : Int) := by
   rw [List.length_append, List.length_singleton]
   simp [i64, IntKind.wrap, IntKind.bits, IntKind.signed]; omega
  rw [e]
  refine WP.cN [1, 5] (bs ++ [b2]) ?_ rfl (fun _ h => h)
  show ee.M n (bs ++ [b2]) = some r
  unfold ee.M
  rw [if_pos ⟨by rw [List.length_append, List.length_singleton]; omega, by rw [List.length_append, List.length_singleton]; omega⟩, hr]
 ·have hl : bs.length = 33 := by have := of_decide_eq_false c11; omega
  refine WP.exit rfl (WP.Ah (V := Int) .u32 (Value.int .u32) hl ?_)
  rw [hr]
  refine WP.seq ?_
  refine WP.rn [] [(15, vP b1 0), (0, vP b1 0)] ?_
  exact WP.ret [] [] (vP b1 0) (by kernel_rfl) (fun w' hw => ⟨(b1, bs), rfl, hw⟩)
def eS.l1 (a0 : bA) : Nat → Int → Int → Option (Int)
 | 0, _, _ => none
 | n + 1, x2, x3 =>
  bif decide (x3 < (i64 (32 - a0.cL))) then
   eS.l1 a0 n (zx .u32 (u32 (x2 * 2)) 1) (i64 (x3 + 1))
  else
   some x2
def eS.f (k : Nat) (a0 : bA) : Option (Int) :=
 eS.l1 a0 k 0 0
theorem oz (k : Nat) (a0 : bA) (r : Int) (h : eS.f k a0 = some r) : Pure Tryz.prog aI 139 #[bA.v a0] (vT r) := by
 intro w Z hS
 refine bh (args := [bA.v a0]) (L := [(0, bA.v a0)]) (N := 14) Tryz.func139 hS ?_
 have hM := h
 clear h hS
 unfold eS.f at hM
 refine WP.seq ?_
 refine WP.rh [] (fun b1 => [(1, vP b1 0), (2, vT 0)]) (fun b1 => []) (fun b1 => [(b1, bA.o a0)]) (fun b1 => ?_)
 refine WP.seq (WP.rn [] [(3, vT 0)] ?_)
 refine WP.seq (WP.seq (WP.rn [0] [(6, vI (i64 (32 - a0.cL))), (7, vI 0)] ?_))
 refine WP.kp [false] ?_
 refine WP.block (WP.sub [2, 3, 6, 7] (L' := [(2, vT 0), (3, vT 0), (6, vI (i64 (32 - a0.cL))), (7, vI 0)]) rfl ?_)
 refine WP.loop (σ := Int × Int) (fun n st => eS.l1 a0 n st.1 st.2) r (fun st => [(2, vT 0), (3, vT st.1), (6, vI (i64 (32 - a0.cL))), (7, vI st.2)]) (fun st => Sat w Z [] [] aI) (st := (0, 0)) (fun n st hM => ?_) hM
 rcases n with _ | n
 ·exact nomatch (show (none : Option _) = some r from hM)
 obtain ⟨x2, x3⟩ := st
 replace hM : eS.l1 a0 (n + 1) x2 x3 = some r := hM
 rw [eS.l1] at hM
 try dsimp only
 refine WP.seq (WP.rn [] [(8, vB (decide (x3 < (i64 (32 - a0.cL)))))] ?_)
 refine WP.seq ?_
 refine WP.cond (decide (x3 < (i64 (32 - a0.cL)))) rfl rfl (fun c4 => ?_) (fun c4 => ?_)
 ·replace hM := aG hM c4
  refine WP.skip (WP.seq (WP.block (WP.rn [] [(3, vT (zx .u32 (u32 (x2 * 2)) 1)), (9, vT x2), (10, vT (u32 (x2 * 2))), (11, vT (zx .u32 (u32 (x2 * 2)) 1))] ?_)))
  refine WP.leave (WP.rn [] [(7, vI (i64 (x3 + 1))), (12, vI (i64 (x3 + 1)))] ?_)
  exact WP.cN [2, 3, 6, 7] (zx .u32 (u32 (x2 * 2)) 1, i64 (x3 + 1)) hM rfl (fun _ h => h.pick [] rfl)
 ·replace hM := aH hM c4
  refine WP.exit rfl (WP.seq (WP.rn [] [(2, vT x2)] ?_))
  obtain rfl := oI hM
  exact WP.lY [] []
def dL.k1 (x5 : Bool) : Option (Bool) :=
 some x5
def dL.f (k : Nat) (a0 : bA) : Option (Bool) :=
 bif ((decide (a0.cL ≥ 0)) && (decide (a0.cL ≤ 32))) then
  (eS.f k a0).bind fun r3 =>
  dL.k1 ((eu .u32 a0.Ip r3) == 0)
 else
  dL.k1 false
theorem pg (k : Nat) (a0 : bA) (r : Bool) (h : dL.f k a0 = some r) : Pure Tryz.prog aI 103 #[bA.v a0] (vB r) := by
 intro w Z hS
 refine bh (args := [bA.v a0]) (L := [(0, bA.v a0)]) (N := 19) Tryz.func103 hS ?_
 have hM := h
 clear h hS
 unfold dL.f at hM
 refine WP.seq ?_
 refine WP.rh [] (fun b1 => [(1, vP b1 0), (2, vB false)]) (fun b1 => []) (fun b1 => [(b1, bA.o a0)]) (fun b1 => ?_)
 refine WP.seq (WP.quiet rfl (by kernel_rfl) ?_)
 refine QL.rn 4 [0] [(6, vB (decide (a0.cL ≥ 0)))] ?_
 refine QL.bo 6 (decide (a0.cL ≥ 0)) 4 [0] [] (fun b' => [(10, vB (b' && (decide (a0.cL ≤ 32))))]) ?_
 refine QL.rn 1 [] [(11, vB ((decide (a0.cL ≥ 0)) && (decide (a0.cL ≤ 32))))] ?_
 refine QL.join (σ := Bool) 7 (fun st => dL.k1 st = some r) (fun st => [(2, vB false), (18, vB st)]) (fun st hM => ?_) (fun K1 => ?_)
 ·
  obtain ⟨x5, rfl⟩ : ∃ y, y = st := ⟨st, rfl⟩
  replace hM : dL.k1 x5 = some r := hM
  unfold dL.k1 at hM
  show QL _ _ _ _ _ _ [(2, vB false), (18, vB x5)]
  refine QL.rn 1 [] [(2, vB x5)] ?_
  refine QL.done ?_
  refine WP.kp [false] ?_
  obtain rfl := oI hM
  exact WP.lY [] []
 ·
  refine QL.sp 11 ((decide (a0.cL ≥ 0)) && (decide (a0.cL ≤ 32))) (fun c2 => ?_) (fun c2 => ?_)
  ·replace hM := aG hM c2
   refine QL.rn 3 [0, 0, 0] [(13, vT a0.Ip), (14, bA.v a0)] ?_
   obtain ⟨r3, h4, hM⟩ := bind_some hM
   refine QL.cQ [] [] (oz k a0 _ h4) (fun _ h => h) (by kernel_rfl) rfl rfl ?_
   refine QL.rn 3 [] [(18, vB ((eu .u32 a0.Ip r3) == 0))] ?_
   exact QL.sub [2, 18] rfl (K1 ((eu .u32 a0.Ip r3) == 0) hM)
  ·replace hM := aH hM c2
   refine QL.rn 7 [] [(18, vB false)] ?_
   exact QL.sub [2, 18] rfl (K1 false hM)
def bW.l1 (a0 : (List (aS Int))) : Nat → Int → Int → Option (Int)
 | 0, _, _ => none
 | n + 1, x1, x2 =>
  bif decide (x2 < 33) then
   (cI 33 a0 x2).bind fun t4 =>
   bW.l1 a0 n (i64 (x1 + (aS.len t4))) (i64 (x2 + 1))
  else
   some x1
def bW.f (k : Nat) (a0 : (List (aS Int))) : Option (Int) :=
 bW.l1 a0 k 0 0
theorem jR (k : Nat) (A00 : (Nat × List Nat)) (a0 : (List (aS Int))) (r : Int) (h : bW.f k a0 = some r) : oV Tryz.prog 104 #[vP A00.1 0] [] [ke 249 33 .u32 (Value.int .u32) A00 a0] ([] ++ aI) (fun x : Unit => vI r) (fun x => []) (fun x => [ke 249 33 .u32 (Value.int .u32) A00 a0]) (fun x => [] ++ ([] ++ aI)) := by
 intro w Z hS
 refine bh (args := [vP A00.1 0]) (L := [(0, vP A00.1 0)]) (N := 19) Tryz.func104 hS ?_
 have hM := h
 clear h hS
 unfold bW.f at hM
 refine WP.seq (WP.rn [] [(2, vI 0)] ?_)
 refine WP.seq (WP.rn [] [(3, vI 0)] ?_)
 refine WP.seq (WP.seq (WP.region ?_))
 refine WL.rn 3 [] [(8, vP A00.1 0)] ?_
 refine WL.wy (v := .agg (iT A00.2)) (p := ke 249 33 .u32 (Value.int .u32) A00 a0) 0 rfl (fun w hp => uR hp (fun _ => by kernel_rfl) rfl rfl) (by kernel_rfl) rfl rfl ?_
 refine WL.rn 1 [] [(10, vI 0)] ?_
 refine WP.done (WP.block (WP.sub [2, 3, 9, 10] (L' := [(2, vI 0), (3, vI 0), (9, .agg (iT A00.2)), (10, vI 0)]) rfl ?_))
 refine WP.aQ [] (F' := []) rfl ?_
 refine WP.loop (σ := Int × Int) (fun n st => bW.l1 a0 n st.1 st.2) r (fun st => [(2, vI 0), (3, vI st.1), (9, .agg (iT A00.2)), (10, vI st.2)]) (fun st => Sat w Z [] [ke 249 33 .u32 (Value.int .u32) A00 a0] ([] ++ aI)) (st := (0, 0)) (fun n st hM => ?_) hM
 rcases n with _ | n
 ·exact nomatch (show (none : Option _) = some r from hM)
 obtain ⟨x1, x2⟩ := st
 replace hM : bW.l1 a0 (n + 1) x1 x2 = some r := hM
 rw [bW.l1] at hM
 try dsimp only
 refine WP.seq (WP.rn [] [(11, vB (decide (x2 < 33)))] ?_)
 refine WP.seq ?_
 refine WP.cond (decide (x2 < 33)) rfl rfl (fun c3 => ?_) (fun c3 => ?_)
 ·replace hM := aG hM c3
  refine WP.skip (WP.seq (WP.block (WP.seq (WP.region ?_))))
  obtain ⟨t4, h5, hM⟩ := bind_some hM
  refine WL.wy (v := .map (some (A00.2.getD (Int.toNat x2) 0))) (p := ke 249 33 .u32 (Value.int .u32) A00 a0) 0 rfl (fun w hp => uP (i := x2) (m := t4) (k := .i64) (e' := 246) hp rfl rfl (fun _ => by kernel_rfl) rfl rfl h5) (by kernel_rfl) rfl rfl ?_
  refine WL.rn 1 [] [(5, .map (some (A00.2.getD (Int.toNat x2) 0)))] ?_
  refine WP.done (WP.region (WL.rn 2 [] [(13, vI x1), (14, .map (some (A00.2.getD (Int.toNat x2) 0)))] ?_))
  refine WL.wy (v := vI (aS.len t4)) (p := ke 249 33 .u32 (Value.int .u32) A00 a0) 0 rfl (fun w hp => uO (i := x2) (m := t4) (kt := 50) (et := 50) hp rfl rfl rfl h5) (by kernel_rfl) rfl rfl ?_
  refine WL.rn 2 [] [(3, vI (i64 (x1 + (aS.len t4)))), (16, vI (i64 (x1 + (aS.len t4))))] ?_
  refine WP.done (WP.leave (WP.rn [] [(10, vI (i64 (x2 + 1))), (17, vI (i64 (x2 + 1)))] ?_))
  exact WP.cN [2, 3, 9, 10] (i64 (x1 + (aS.len t4)), i64 (x2 + 1)) hM rfl (fun _ h => ((h.pick [] rfl).aQ [] rfl).dE [0] [] 1 rfl (by decide) rfl)
 ·replace hM := aH hM c3
  refine WP.exit rfl (WP.seq (WP.rn [] [(2, vI x1)] ?_))
  obtain rfl := oI hM
  exact WP.ret [] [] (vI x1) (by kernel_rfl) (fun w' hw => ⟨(), rfl, (hw.pick [] rfl).less (aT [] [] rfl rfl)⟩)
def cf.k1 (a0 : (List (aS Int))) (a1 : aj) (x11 : Bool) : Option (Int × (List (aS Int))) :=
 bif x11 then
  some (181, a0)
 else
  (cI 33 a0 a1.To.cL).bind fun t13 =>
  some (0, (List.set a0 (Int.toNat a1.To.cL) (aS.set t13 a1.To.Ip a1.xw)))
def cf.f (k : Nat) (a0 : (List (aS Int))) (a1 : aj) : Option (Int × (List (aS Int))) :=
 (dL.f k a1.To).bind fun r2 =>
 bif !r2 then
  some (180, a0)
 else
  (cI 33 a0 a1.To.cL).bind fun t5 =>
  bif !((aS.get t5 a1.To.Ip).isSome) then
   (bW.f k a0).bind fun r8 =>
   cf.k1 a0 a1 (decide (r8 ≥ 256))
  else
   cf.k1 a0 a1 false
theorem kj (k : Nat) (A00 : (Nat × List Nat)) (a0 : (List (aS Int))) (a1 : aj) (r : Int × (List (aS Int))) (h : cf.f k a0 a1 = some r) : oV Tryz.prog 71 #[vP A00.1 0, aj.v a1] [] [ke 249 33 .u32 (Value.int .u32) A00 a0] ([] ++ aI) (fun x : Unit => vI r.1) (fun x => []) (fun x => [ke 249 33 .u32 (Value.int .u32) A00 r.2]) (fun x => [] ++ ([] ++ aI)) := by
 intro w Z hS
 refine bh (args := [vP A00.1 0, aj.v a1]) (L := [(0, vP A00.1 0), (1, aj.v a1)]) (N := 46) Tryz.func71 hS ?_
 have hM := h
 clear h hS
 unfold cf.f at hM
 refine WP.seq ?_
 refine WP.rh [] (fun b1 => [(3, vP b1 0), (4, vI 0)]) (fun b1 => []) (fun b1 => [(b1, aj.o a1)]) (fun b1 => ?_)
 refine WP.seq (WP.seq (WP.region (WL.rn 2 [0, 0] [(8, bA.v a1.To)] ?_)))
 obtain ⟨r2, h3, hM⟩ := bind_some hM
 refine WL.cQ [] [] (pg k a1.To _ h3) (fun _ h => List.mem_append_right _ h) (by kernel_rfl) rfl rfl ?_
 refine WL.rn 1 [] [(10, vB (!r2))] ?_
 refine WP.done ?_
 refine WP.cond (!r2) rfl rfl (fun c4 => ?_) (fun c4 => ?_)
 ·replace hM := aG hM c4
  refine WP.seq (WP.rn [] [(4, vI 180)] ?_)
  obtain rfl := oI hM
  exact WP.ret [] [] (vI 180) (by kernel_rfl) (fun w' hw => ⟨(), rfl, (hw.pick [] rfl).less (aT [] [] rfl rfl)⟩)
 ·replace hM := aH hM c4
  refine WP.skip (WP.seq ?_)
  obtain ⟨t5, h6, hM⟩ := bind_some hM
  refine WP.rs [0, 3, 4] ?_
  refine WP.fB (X := Unit) 17 2 [⟨0, 17, fun _ => [(b1, aj.o a1)], fun _ => []⟩, ⟨0, 17, fun _ => [], fun _ => [ke 249 33 .u32 (Value.int .u32) A00 a0]⟩] [⟨[], [], [], [], [], fun _ => vP A00.1 0, fun _ => []⟩, ⟨[], [], [], [], [], fun _ => vP b1 0, fun _ => []⟩, ⟨[1], [], [], [], [], fun _ => vP b1 1, fun _ => []⟩, ⟨[1, 2], [0], [0], [], [], fun _ => vI a1.To.cL, fun _ => []⟩, ⟨[0], [], [], [], [], fun _ => vP A00.1 0, fun _ => []⟩, ⟨[0, 4], [], [], [], [], fun _ => vP A00.1 0, fun _ => []⟩, ⟨[0, 1, 2, 3, 4, 5], [1], [1], [], [], fun _ => .pointer (some ⟨A00.1, 0 + Int.toNat a1.To.cL * 1, none⟩), fun _ => []⟩, ⟨[0, 1, 2, 3, 4, 5, 6], [1], [1], [], [], fun _ => .map (some (A00.2.getD (Int.toNat a1.To.cL) 0)), fun _ => []⟩, ⟨[], [], [], [], [], fun _ => vP b1 0, fun _ => []⟩, ⟨[8], [], [], [], [], fun _ => vP b1 0, fun _ => []⟩, ⟨[8, 9], [0], [0], [], [], fun _ => vT a1.To.Ip, fun _ => []⟩, ⟨[0, 1, 2, 3, 4, 5, 6, 7, 8, 9, 10], [1], [1], [], [], fun _ => .tuple #[vT ((aS.get t5 a1.To.Ip).getD 0), vB ((aS.get t5 a1.To.Ip).isSome)], fun _ => []⟩, ⟨[0, 1, 2, 3, 4, 5, 6, 7, 8, 9, 10, 11], [], [], [], [], fun _ => .tuple #[vT ((aS.get t5 a1.To.Ip).getD 0), vB ((aS.get t5 a1.To.Ip).isSome)], fun _ => []⟩, ⟨[0, 1, 2, 3, 4, 5, 6, 7, 8, 9, 10, 11, 12], [], [], [], [], fun _ => vT ((aS.get t5 a1.To.Ip).getD 0), fun _ => []⟩, ⟨[0, 1, 2, 3, 4, 5, 6, 7, 8, 9, 10, 11, 12], [], [], [], [], fun _ => vB ((aS.get t5 a1.To.Ip).isSome), fun _ => []⟩, ⟨[0, 1, 2, 3, 4, 5, 6, 7, 8, 9, 10, 11, 12, 13], [], [], [], [], fun _ => vT ((aS.get t5 a1.To.Ip).getD 0), fun _ => []⟩, ⟨[0, 1, 2, 3, 4, 5, 6, 7, 8, 9, 10, 11, 12, 13, 14, 15], [], [], [], [], fun _ => vB ((aS.get t5 a1.To.Ip).isSome), fun _ => []⟩] (fun ξ => [(6, vB ((aS.get t5 a1.To.Ip).isSome))]) (fun ξ => [(b1, aj.o a1)]) (fun ξ => [ke 249 33 .u32 (Value.int .u32) A00 a0]) (fun ξ => []) (aq.cons ?_ (aq.cons ?_ (aq.cons ?_ (aq.cons ?_ (aq.cons ?_ (aq.cons ?_ (aq.cons ?_ (aq.cons ?_ (aq.cons ?_ (aq.cons ?_ (aq.cons ?_ (aq.cons ?_ (aq.cons ?_ (aq.cons ?_ (aq.cons ?_ (aq.cons ?_ (aq.cons ?_ aq.nil))))))))))))))))) (aq.cons (bf.c rfl) (aq.cons (bf.c rfl) (aq.cons (bf.c rfl) (aq.cons (bf.c rfl) (aq.cons (bf.c rfl) (aq.cons (bf.c rfl) (aq.cons (bf.c rfl) (aq.cons (bf.c rfl) (aq.cons (bf.c rfl) (aq.cons (bf.c rfl) (aq.cons (bf.c rfl) (aq.cons (bf.c rfl) (aq.cons (bf.c rfl) (aq.cons (bf.c rfl) (aq.cons (bf.c rfl) (aq.cons (bf.c rfl) (aq.cons (bf.c rfl) aq.nil))))))))))))))))) (aq.cons (dA.c rfl) (aq.cons (dA.c rfl) aq.nil)) (fun ξ => ?_)
  ·
   intro o t ho ht ξ Gr Γr Lr Q hk
   cases ho; cases ht
   refine WL.rn 1 [] [(12, vP A00.1 0)] ?_
   exact WL.fin (hk default)
  ·
   intro o t ho ht ξ Gr Γr Lr Q hk
   cases ho; cases ht
   refine WL.rn 1 [] [(13, vP b1 0)] ?_
   exact WL.fin (hk default)
  ·
   intro o t ho ht ξ Gr Γr Lr Q hk
   cases ho; cases ht
   refine WL.rn 1 [] [(14, vP b1 1)] ?_
   exact WL.fin (hk default)
  ·
   intro o t ho ht ξ Gr Γr Lr Q hk
   cases ho; cases ht
   refine WL.rn 1 [0] [(15, vI a1.To.cL)] ?_
   exact WL.fin (hk default)
  ·
   intro o t ho ht ξ Gr Γr Lr Q hk
   cases ho; cases ht
   refine WL.rn 1 [] [(16, vP A00.1 0)] ?_
   exact WL.fin (hk default)
  ·
   intro o t ho ht ξ Gr Γr Lr Q hk
   cases ho; cases ht
   refine WL.rn 1 [] [(17, vP A00.1 0)] ?_
   exact WL.fin (hk default)
  ·
   intro o t ho ht ξ Gr Γr Lr Q hk
   cases ho; cases ht
   refine WL.val (v := .pointer (some ⟨A00.1, 0 + Int.toNat a1.To.cL * 1, none⟩)) (fun _ => mo (xs := a0) (u := t5) (n := 33) (e := 246) (sz := 1) (k := .i64) (i := a1.To.cL) (b := A00.1) (o := 0) rfl rfl rfl rfl h6) (by kernel_rfl) rfl rfl ?_
   exact WL.fin (hk default)
  ·
   intro o t ho ht ξ Gr Γr Lr Q hk
   cases ho; cases ht
   refine WL.wy (v := .map (some (A00.2.getD (Int.toNat a1.To.cL) 0))) (p := ke 249 33 .u32 (Value.int .u32) A00 a0) 0 rfl (fun w hp => oC (i := a1.To.cL) (m := t5) hp (fun _ => by kernel_rfl) rfl h6) (by kernel_rfl) rfl rfl ?_
   exact WL.fin (hk default)
  ·
   intro o t ho ht ξ Gr Γr Lr Q hk
   cases ho; cases ht
   refine WL.rn 1 [] [(20, vP b1 0)] ?_
   exact WL.fin (hk default)
  ·
   intro o t ho ht ξ Gr Γr Lr Q hk
   cases ho; cases ht
   refine WL.rn 1 [] [(21, vP b1 0)] ?_
   exact WL.fin (hk default)
  ·
   intro o t ho ht ξ Gr Γr Lr Q hk
   cases ho; cases ht
   refine WL.rn 1 [0] [(22, vT a1.To.Ip)] ?_
   exact WL.fin (hk default)
  ·
   intro o t ho ht ξ Gr Γr Lr Q hk
   cases ho; cases ht
   refine WL.wy (v := .tuple #[vT ((aS.get t5 a1.To.Ip).getD 0), vB ((aS.get t5 a1.To.Ip).isSome)]) (p := ke 249 33 .u32 (Value.int .u32) A00 a0) 0 rfl (fun w hp => uQ (i := a1.To.cL) (m := t5) (k := a1.To.Ip) (kt := 50) (et := 50) (ok := true) 0 hp rfl rfl (fun _ => by kernel_rfl) rfl rfl h6) (by kernel_rfl) rfl rfl ?_
   exact WL.fin (hk default)
  ·
   intro o t ho ht ξ Gr Γr Lr Q hk
   cases ho; cases ht
   refine WL.rn 1 [] [(11, .tuple #[vT ((aS.get t5 a1.To.Ip).getD 0), vB ((aS.get t5 a1.To.Ip).isSome)])] ?_
   exact WL.fin (hk default)
  ·
   intro o t ho ht ξ Gr Γr Lr Q hk
   cases ho; cases ht
   refine WL.rn 1 [] [(24, vT ((aS.get t5 a1.To.Ip).getD 0))] ?_
   exact WL.fin (hk default)
  ·
   intro o t ho ht ξ Gr Γr Lr Q hk
   cases ho; cases ht
   refine WL.rn 1 [] [(25, vB ((aS.get t5 a1.To.Ip).isSome))] ?_
   exact WL.fin (hk default)
  ·
   intro o t ho ht ξ Gr Γr Lr Q hk
   cases ho; cases ht
   refine WL.rn 1 [] [(5, vT ((aS.get t5 a1.To.Ip).getD 0))] ?_
   exact WL.fin (hk default)
  ·
   intro o t ho ht ξ Gr Γr Lr Q hk
   cases ho; cases ht
   refine WL.rn 1 [] [(6, vB ((aS.get t5 a1.To.Ip).isSome))] ?_
   exact WL.fin (hk default)
  refine WP.less (Φ' := ([] ++ aI)) (fun _ h => h) ?_
  refine WP.seq (WP.seq (WP.region (WL.rn 3 [] [(28, vB (!((aS.get t5 a1.To.Ip).isSome)))] ?_)))
  refine WL.join (σ := Bool) 4 (fun st => cf.k1 a0 a1 st = some r) (fun st => [(0, vP A00.1 0), (3, vP b1 0), (4, vI 0), (32, vB st)]) (fun st => Sat w Z [(b1, aj.o a1)] [ke 249 33 .u32 (Value.int .u32) A00 a0] ([] ++ aI)) (fun st hM => ?_) (fun K1 => ?_)
  ·
   obtain ⟨x11, rfl⟩ : ∃ y, y = st := ⟨st, rfl⟩
   replace hM : cf.k1 a0 a1 x11 = some r := hM
   unfold cf.k1 at hM
   try dsimp only
   refine WP.done ?_
   refine WP.cond x11 rfl rfl (fun c12 => ?_) (fun c12 => ?_)
   ·replace hM := aG hM c12
    refine WP.seq (WP.rn [] [(4, vI 181)] ?_)
    obtain rfl := oI hM
    exact WP.ret [] [] (vI 181) (by kernel_rfl) (fun w' hw => ⟨(), rfl, (hw.pick [] rfl).less (aT [] [] rfl rfl)⟩)
   ·replace hM := aH hM c12
    refine WP.skip (WP.seq ?_)
    obtain ⟨t13, h14, hM⟩ := bind_some hM
    refine WP.rs [0, 3, 4] ?_
    refine WP.fB (X := Unit) 14 3 [⟨0, 14, fun _ => [(b1, aj.o a1)], fun _ => []⟩, ⟨0, 13, fun _ => [], fun _ => [ke 249 33 .u32 (Value.int .u32) A00 a0]⟩, ⟨14, 14, fun _ => [], fun _ => [ke 249 33 .u32 (Value.int .u32) A00 (List.set a0 (Int.toNat a1.To.cL) (aS.set t13 a1.To.Ip a1.xw))]⟩] [⟨[], [], [], [], [], fun _ => vP A00.1 0, fun _ => []⟩, ⟨[], [], [], [], [], fun _ => vP b1 0, fun _ => []⟩, ⟨[1], [], [], [], [], fun _ => vP b1 1, fun _ => []⟩, ⟨[1, 2], [0], [0], [], [], fun _ => vI a1.To.cL, fun _ => []⟩, ⟨[0], [], [], [], [], fun _ => vP A00.1 0, fun _ => []⟩, ⟨[0, 4], [], [], [], [], fun _ => vP A00.1 0, fun _ => []⟩, ⟨[0, 1, 2, 3, 4, 5], [1], [1], [], [], fun _ => .pointer (some ⟨A00.1, 0 + Int.toNat a1.To.cL * 1, none⟩), fun _ => []⟩, ⟨[0, 1, 2, 3, 4, 5, 6], [1], [1], [], [], fun _ => .map (some (A00.2.getD (Int.toNat a1.To.cL) 0)), fun _ => []⟩, ⟨[], [], [], [], [], fun _ => vP b1 0, fun _ => []⟩, ⟨[8], [], [], [], [], fun _ => vP b1 0, fun _ => []⟩, ⟨[8, 9], [0], [0], [], [], fun _ => vT a1.To.Ip, fun _ => []⟩, ⟨[], [], [], [], [], fun _ => vP b1 2, fun _ => []⟩, ⟨[11], [0], [0], [], [], fun _ => vT a1.xw, fun _ => []⟩, ⟨[0, 1, 2, 3, 4, 5, 6, 7, 8, 9, 10, 11, 12], [1], [2], [], [], fun _ => .tuple #[], fun _ => []⟩] (fun ξ => []) (fun ξ => [(b1, aj.o a1)]) (fun ξ => [ke 249 33 .u32 (Value.int .u32) A00 (List.set a0 (Int.toNat a1.To.cL) (aS.set t13 a1.To.Ip a1.xw))]) (fun ξ => []) (aq.cons ?_ (aq.cons ?_ (aq.cons ?_ (aq.cons ?_ (aq.cons ?_ (aq.cons ?_ (aq.cons ?_ (aq.cons ?_ (aq.cons ?_ (aq.cons ?_ (aq.cons ?_ (aq.cons ?_ (aq.cons ?_ (aq.cons ?_ aq.nil)))))))))))))) (aq.cons (bf.c rfl) (aq.cons (bf.c rfl) (aq.cons (bf.c rfl) (aq.cons (bf.c rfl) (aq.cons (bf.c rfl) (aq.cons (bf.c rfl) (aq.cons (bf.c rfl) (aq.cons (bf.c rfl) (aq.cons (bf.c rfl) (aq.cons (bf.c rfl) (aq.cons (bf.c rfl) (aq.cons (bf.c rfl) (aq.cons (bf.c rfl) (aq.cons (bf.c rfl) aq.nil)))))))))))))) (aq.cons (dA.c rfl) (aq.cons (dA.c rfl) (aq.cons (dA.c rfl) aq.nil))) (fun ξ => ?_)
    ·
     intro o t ho ht ξ Gr Γr Lr Q hk
     cases ho; cases ht
     refine WL.rn 1 [] [(33, vP A00.1 0)] ?_
     exact WL.fin (hk default)
    ·
     intro o t ho ht ξ Gr Γr Lr Q hk
     cases ho; cases ht
     refine WL.rn 1 [] [(34, vP b1 0)] ?_
     exact WL.fin (hk default)
    ·
     intro o t ho ht ξ Gr Γr Lr Q hk
     cases ho; cases ht
     refine WL.rn 1 [] [(35, vP b1 1)] ?_
     exact WL.fin (hk default)
    ·
     intro o t ho ht ξ Gr Γr Lr Q hk
     cases ho; cases ht
     refine WL.rn 1 [0] [(36, vI a1.To.cL)] ?_
     exact WL.fin (hk default)
    ·
     intro o t ho ht ξ Gr Γr Lr Q hk
     cases ho; cases ht
     refine WL.rn 1 [] [(37, vP A00.1 0)] ?_
     exact WL.fin (hk default)
    ·
     intro o t ho ht ξ Gr Γr Lr Q hk
     cases ho; cases ht
     refine WL.rn 1 [] [(38, vP A00.1 0)] ?_
     exact WL.fin (hk default)
    ·
     intro o t ho ht ξ Gr Γr Lr Q hk
     cases ho; cases ht
     refine WL.val (v := .pointer (some ⟨A00.1, 0 + Int.toNat a1.To.cL * 1, none⟩)) (fun _ => mo (xs := a0) (u := t13) (n := 33) (e := 246) (sz := 1) (k := .i64) (i := a1.To.cL) (b := A00.1) (o := 0) rfl rfl rfl rfl h14) (by kernel_rfl) rfl rfl ?_
     exact WL.fin (hk default)
    ·
     intro o t ho ht ξ Gr Γr Lr Q hk
     cases ho; cases ht
     refine WL.wy (v := .map (some (A00.2.getD (Int.toNat a1.To.cL) 0))) (p := ke 249 33 .u32 (Value.int .u32) A00 a0) 0 rfl (fun w hp => oC (i := a1.To.cL) (m := t13) hp (fun _ => by kernel_rfl) rfl h14) (by kernel_rfl) rfl rfl ?_
     exact WL.fin (hk default)
    ·
     intro o t ho ht ξ Gr Γr Lr Q hk
     cases ho; cases ht
     refine WL.rn 1 [] [(41, vP b1 0)] ?_
     exact WL.fin (hk default)
    ·
     intro o t ho ht ξ Gr Γr Lr Q hk
     cases ho; cases ht
     refine WL.rn 1 [] [(42, vP b1 0)] ?_
     exact WL.fin (hk default)
    ·
     intro o t ho ht ξ Gr Γr Lr Q hk
     cases ho; cases ht
     refine WL.rn 1 [0] [(43, vT a1.To.Ip)] ?_
     exact WL.fin (hk default)
    ·
     intro o t ho ht ξ Gr Γr Lr Q hk
     cases ho; cases ht
     refine WL.rn 1 [] [(44, vP b1 2)] ?_
     exact WL.fin (hk default)
    ·
     intro o t ho ht ξ Gr Γr Lr Q hk
     cases ho; cases ht
     refine WL.rn 1 [0] [(45, vT a1.xw)] ?_
     exact WL.fin (hk default)
    ·
     intro o t ho ht ξ Gr Γr Lr Q hk
     cases ho; cases ht
     refine WL.B7 (G' := Gr) (kt := 50) (et := 50) (e := 249) (n := 33) (kk := .u32) (f := (Value.int .u32)) (S := A00) (ms := a0) (m := t13) (i := a1.To.cL) (k := a1.To.Ip) 0 a1.xw rfl rfl rfl rfl rfl rfl rfl rfl h14 rfl ?_
     exact WL.fin (hk default)
    refine WP.less (Φ' := ([] ++ aI)) (fun _ h => h) ?_
    refine WP.kp [false] ?_
    refine WP.seq (WP.rn [] [(4, vI 0)] ?_)
    obtain rfl := oI hM
    exact WP.ret [] [] (vI 0) (by kernel_rfl) (fun w' hw => ⟨(), rfl, (hw.pick [] rfl).less (aT [] [] rfl rfl)⟩)
  ·
   refine WL.sp 28 (!((aS.get t5 a1.To.Ip).isSome)) (fun c7 => ?_) (fun c7 => ?_)
   ·replace hM := aG hM c7
    refine WL.rn 1 [] [(29, vP A00.1 0)] ?_
    obtain ⟨r8, h9, hM⟩ := bind_some hM
    refine WL.nj (Gr := []) (F0 := []) [] [] [false] (fun _ => _) [] rfl (jR k A00 a0 _ h9) rfl rfl rfl (by kernel_rfl) rfl (fun _ => rfl) (fun A10 => ?_)
    refine WL.rn 2 [] [(32, vB (decide (r8 ≥ 256)))] ?_
    exact WL.sub [0, 3, 4, 32] rfl (WL.pick [0] rfl rfl (WL.dE [0] [] 1 rfl (by decide) rfl (WL.aQ [] rfl (K1 (decide (r8 ≥ 256)) hM))))
   ·replace hM := aH hM c7
    refine WL.rn 4 [] [(32, vB false)] ?_
    exact WL.sub [0, 3, 4, 32] rfl (WL.pick [0] rfl rfl (WL.dE [0] [] 1 rfl (by decide) rfl (WL.aQ [] rfl (K1 false hM))))
def da.l1 (a0 : (List aj)) (k : Nat) : Nat → Bool → Int → (List (aS Int)) → Option (Bool)
 | 0, _, _, _ => none
 | n + 1, x15, x16, x17 =>
  bif decide (x16 < (a0.length : Int)) then
   (cI a0.length a0 x16).bind fun t19 =>
   (cf.f k x17 t19).bind fun (r22, r23) =>
   bif (r22 != 0) then
    some false
   else
    da.l1 a0 k n x15 (i64 (x16 + 1)) r23
  else
   some true
def da.f (k : Nat) (a0 : (List aj)) : Option (Bool) :=
 (ee.f k).bind fun r1 =>
 da.l1 a0 k k false 0 r1
theorem oX (k : Nat) (A00 : av Unit) (a0 : (List aj)) (r : Bool) (h : da.f k a0 = some r) : eT Tryz.prog 33 #[ae A00 a0.length] [] ([Row 3 (pl aj.enc) aA A00 a0] ++ aI) (fun x : (Option Addr) => .tuple #[.pointer x, vB r]) (fun x => []) (fun _ => []) (fun x => [] ++ ([Row 3 (pl aj.enc) aA A00 a0] ++ aI)) := by
 intro w Z hS
 refine bh (args := [ae A00 a0.length]) (L := [(0, ae A00 a0.length)]) (N := 20) Tryz.func33 hS ?_
 have hM := h
 clear h hS
 unfold da.f at hM
 refine WP.seq (WP.rn [] [(2, .pointer none), (3, vB false)] ?_)
 refine WP.seq (WP.region ?_)
 obtain ⟨r1, h2, hM⟩ := bind_some hM
 refine WL.nj (Gr := []) (F0 := []) [] [] [] (fun _ => _) [] rfl (nT k _ h2) rfl rfl rfl (by kernel_rfl) rfl (fun _ => rfl) (fun A3 => ?_)
 refine WL.rn 1 [] [(4, vP A3.1 0)] ?_
 refine WP.done (WP.seq (WP.seq (WP.rn [] [(8, ae A00 a0.length), (9, vI (a0.length : Int)), (10, vI 0)] ?_)))
 refine WP.block ?_
 refine WP.sub [3, 4, 8, 9, 10] (L' := [(3, vB false), (4, vP A3.1 0), (8, ae A00 a0.length), (9, vI (a0.length : Int)), (10, vI 0)]) rfl ?_
 refine WP.aQ [0] (F' := [Row 3 (pl aj.enc) aA A00 a0]) rfl ?_
 refine WP.loop (σ := Bool × Int × (List (aS Int))) (fun n st => da.l1 a0 k n st.1 st.2.1 st.2.2) r (fun st => [(3, vB st.1), (4, vP A3.1 0), (8, ae A00 a0.length), (9, vI (a0.length : Int)), (10, vI st.2.1)]) (fun st => Sat w Z [] [ke 249 33 .u32 (Value.int .u32) A3 st.2.2] ([Row 3 (pl aj.enc) aA A00 a0] ++ aI)) (st := (false, 0, r1)) (fun n st hM => ?_) hM
 rcases n with _ | n
 ·exact nomatch (show (none : Option _) = some r from hM)
 obtain ⟨x15, x16, x17⟩ := st
 replace hM : da.l1 a0 k (n + 1) x15 x16 x17 = some r := hM
 rw [da.l1] at hM
 try dsimp only
 refine WP.seq (WP.rn [] [(11, vB (decide (x16 < (a0.length : Int))))] ?_)
 refine WP.seq ?_
 refine WP.cond (decide (x16 < (a0.length : Int))) rfl rfl (fun c18 => ?_) (fun c18 => ?_)
 ·replace hM := aG hM c18
  refine WP.skip (WP.seq (WP.block (WP.seq (WP.region ?_))))
  obtain ⟨t19, h20, hM⟩ := bind_some hM
  refine WL.cd (φ := Row 3 (pl aj.enc) aA A00 a0) (ar 0 rfl) (fun w hR => aJ (A := A00) (xs := a0) (i := x16) (k := .i64) (e := 163) (m := 3) rfl rfl h20 rfl rfl hR) (by kernel_rfl) rfl rfl ?_
  refine WL.cd (φ := Row 3 (pl aj.enc) aA A00 a0) (ar 0 rfl) (fun w hR => b4 (A := A00) (xs := a0) (i := x16) (j := 0) (n := 3) (vs := [vT t19.To.Ip, vI t19.To.cL, vT t19.xw]) h20 (fun _ => by kernel_rfl) rfl rfl rfl rfl hR) (by kernel_rfl) rfl rfl ?_
  refine WL.rh 2 [0, 0, 0] (fun b21 => [(6, vP b21 0)]) (fun b21 => []) (fun b21 => [(b21, aj.o t19)]) (fun b21 => ?_)
  refine WP.done (WP.seq (WP.region ?_))
  refine WL.rn 2 [0, 0, 0] [(14, vP A3.1 0), (15, aj.v t19)] ?_
  obtain ⟨⟨r22, r23⟩, h24, hM⟩ := bind_some hM
  dsimp only at hM
  refine WL.nj (Gr := []) (F0 := []) [] [] [false] (fun _ => _) [] rfl (kj k A3 x17 t19 _ h24) rfl rfl rfl (by kernel_rfl) rfl (fun _ => rfl) (fun A25 => ?_)
  refine WL.rn 1 [] [(17, vB (r22 != 0))] ?_
  refine WP.done ?_
  refine WP.cond (r22 != 0) rfl rfl (fun c26 => ?_) (fun c26 => ?_)
  ·replace hM := aG hM c26
   refine WP.seq (WP.rn [] [(2, .pointer none), (3, vB false)] ?_)
   refine WP.dE (G' := []) [] [0] 1 rfl (by decide) rfl ?_
   obtain rfl := oI hM
   exact WP.ret [] [] (.tuple #[.pointer none, vB false]) (by kernel_rfl) (fun w' hw => ⟨(none : Option Addr), rfl, (hw.pick [] rfl).less (aT [] [0] rfl rfl)⟩)
  ·replace hM := aH hM c26
   refine WP.skip (WP.leave (WP.rn [] [(10, vI (i64 (x16 + 1))), (18, vI (i64 (x16 + 1)))] ?_))
   exact WP.cN [3, 4, 8, 9, 10] (x15, i64 (x16 + 1), r23) hM rfl (fun _ h => ((h.pick [] rfl).aQ [0] rfl).dE [0] [] 1 rfl (by decide) rfl)
 ·replace hM := aH hM c18
  refine WP.exit rfl (WP.seq ?_)
  refine WP.rn [] [(2, vP A3.1 0), (3, vB true)] ?_
  refine WP.dE (G' := []) [] [0] 1 rfl (by decide) rfl ?_
  obtain rfl := oI hM
  exact WP.ret [] [] (.tuple #[vP A3.1 0, vB true]) (by kernel_rfl) (fun w' hw => ⟨(some ⟨A3.1, 0, none⟩), rfl, (hw.pick [] rfl).less (aT [] [0] rfl rfl)⟩)
def hZ.f (a0 : Int) (a0_1 : Int) (a0_2 : (List Int)) : Option (Bool) :=
 some (decide ((a0_2.length : Int) > 16))
theorem mK (A00 : av Unit) (a0 : Int) (a0_1 : Int) (a0_2 : (List Int)) (r : Bool) (h : hZ.f a0 a0_1 a0_2 = some r) : Pure Tryz.prog ([Row 1 (pl (aE .u32)) aA A00 a0_2] ++ aI) 73 #[.agg #[vI a0, vI a0_1, ae A00 a0_2.length]] (vB r) := by
 intro w Z hS
 refine bh (args := [.agg #[vI a0, vI a0_1, ae A00 a0_2.length]]) (L := [(0, .agg #[vI a0, vI a0_1, ae A00 a0_2.length])]) (N := 7) Tryz.func73 hS ?_
 have hM := h
 clear h hS
 unfold hZ.f at hM
 refine WP.seq ?_
 refine WP.rh [] (fun b1 => [(1, vP b1 0), (2, vB false)]) (fun b1 => []) (fun b1 => [(b1, .cells #[vI a0, vI a0_1, ae A00 a0_2.length] 143 (0, 0))]) (fun b1 => ?_)
 refine WP.seq (WP.rn [0] [(2, vB (decide ((a0_2.length : Int) > 16)))] ?_)
 refine WP.kp [false] ?_
 obtain rfl := oI hM
 exact WP.dI [] [] [0]
def dc.l1 (a0 : (List ag)) : Nat → Int → Int → Option (Int)
 | 0, _, _ => none
 | n + 1, x1, x2 =>
  bif decide (x2 < (a0.length : Int)) then
   (cI a0.length a0 x2).bind fun t4 =>
   (hZ.f t4.bd t4.bV t4.aD).bind fun r6 =>
   bif r6 then
    some x2
   else
    dc.l1 a0 n x1 (i64 (x2 + 1))
  else
   some (-1)
def dc.f (k : Nat) (a0 : (List ag)) : Option (Int) :=
 dc.l1 a0 k 0 0
theorem pc (k : Nat) (A00 : av (av Unit)) (a0 : (List ag)) (r : Int) (h : dc.f k a0 = some r) : Pure Tryz.prog ([Row 3 ag.au ag.aN A00 a0] ++ aI) 105 #[ae A00 a0.length, .func (.func 73) #[] #[]] (vI r) := by
 intro w Z hS
 refine bh (args := [ae A00 a0.length, .func (.func 73) #[] #[]]) (L := [(0, ae A00 a0.length), (1, .func (.func 73) #[] #[])]) (N := 19) Tryz.func105 hS ?_
 have hM := h
 clear h hS
 unfold dc.f at hM
 refine WP.seq (WP.rn [] [(4, vI 0)] ?_)
 refine WP.seq (WP.seq (WP.rn [] [(7, vI (a0.length : Int)), (8, vI 0)] ?_))
 refine WP.block ?_
 refine WP.sub [0, 1, 4, 7, 8] (L' := [(0, ae A00 a0.length), (1, .func (.func 73) #[] #[]), (4, vI 0), (7, vI (a0.length : Int)), (8, vI 0)]) rfl ?_
 refine WP.aQ [0] (F' := [Row 3 ag.au ag.aN A00 a0]) rfl ?_
 refine WP.loop (σ := Int × Int) (fun n st => dc.l1 a0 n st.1 st.2) r (fun st => [(0, ae A00 a0.length), (1, .func (.func 73) #[] #[]), (4, vI st.1), (7, vI (a0.length : Int)), (8, vI st.2)]) (fun st => Sat w Z [] [] ([Row 3 ag.au ag.aN A00 a0] ++ aI)) (st := (0, 0)) (fun n st hM => ?_) hM
 rcases n with _ | n
 ·exact nomatch (show (none : Option _) = some r from hM)
 obtain ⟨x1, x2⟩ := st
 replace hM : dc.l1 a0 (n + 1) x1 x2 = some r := hM
 rw [dc.l1] at hM
 try dsimp only
 refine WP.seq (WP.rn [] [(9, vB (decide (x2 < (a0.length : Int))))] ?_)
 refine WP.seq ?_
 refine WP.cond (decide (x2 < (a0.length : Int))) rfl rfl (fun c3 => ?_) (fun c3 => ?_)
 ·replace hM := aG hM c3
  refine WP.skip (WP.seq (WP.block (WP.seq (WP.rn [] [(5, vI x2), (10, vI x2)] ?_))))
  refine WP.seq (WP.region ?_)
  refine WL.rn 3 [] [(11, .func (.func 73) #[] #[]), (12, ae A00 a0.length), (13, vI x2)] ?_
  obtain ⟨t4, h5, hM⟩ := bind_some hM
  refine WL.cd (φ := Row 3 ag.au ag.aN A00 a0) (ar 0 rfl) (fun w hR => aJ (A := A00) (xs := a0) (i := x2) (k := .i64) (e := 143) (m := 3) rfl rfl h5 rfl rfl hR) (by kernel_rfl) rfl rfl ?_
  refine WL.cd (φ := Row 3 ag.au ag.aN A00 a0) (ar 0 rfl) (fun w hR => b4 (A := A00) (xs := a0) (i := x2) (j := 0) (n := 3) (vs := [vI t4.bd, vI t4.bV, ae (A00.s (Int.toNat x2)) t4.aD.length]) h5 (fun _ => by kernel_rfl) rfl rfl rfl rfl hR) (by kernel_rfl) rfl rfl ?_
  refine WL.ez (Row 1 (pl (aE .u32)) aA (A00.s (Int.toNat x2)) t4.aD) [0] [Row 3 ag.au ag.aN A00 a0] rfl (fun w hψ => ((hψ _ (List.mem_singleton.2 rfl)).inner _ _ (bg h5).2)) ?_
  obtain ⟨r6, h7, hM⟩ := bind_some hM
  refine WL.cQ [] [] (mK (A00.s (Int.toNat x2)) t4.bd t4.bV t4.aD _ h7) (bE [0] rfl) (by kernel_rfl) rfl rfl ?_
  refine WP.done ?_
  refine WP.cond r6 rfl rfl (fun c8 => ?_) (fun c8 => ?_)
  ·replace hM := aG hM c8
   refine WP.seq (WP.rn [] [(4, vI x2), (17, vI x2)] ?_)
   obtain rfl := oI hM
   exact WP.dI [] [] [1]
  ·replace hM := aH hM c8
   refine WP.skip (WP.leave (WP.rn [] [(8, vI (i64 (x2 + 1))), (18, vI (i64 (x2 + 1)))] ?_))
   exact WP.cN [0, 1, 4, 7, 8] (x1, i64 (x2 + 1)) hM rfl (fun _ h => (h.pick [] rfl).aQ [1] rfl)
 ·replace hM := aH hM c3
  refine WP.exit rfl (WP.seq (WP.rn [] [(4, vI (-1))] ?_))
  obtain rfl := oI hM
  exact WP.dI [] [] [0]
def gS.f (k : Nat) (a0 : (List ag)) : Option (Bool) :=
 (dc.f k a0).bind fun r1 =>
 some (decide (r1 ≥ 0))
theorem pd (k : Nat) (A00 : av (av Unit)) (a0 : (List ag)) (r : Bool) (h : gS.f k a0 = some r) : Pure Tryz.prog ([Row 3 ag.au ag.aN A00 a0] ++ aI) 72 #[ae A00 a0.length, .func (.func 73) #[] #[]] (vB r) := by
 intro w Z hS
 refine bh (args := [ae A00 a0.length, .func (.func 73) #[] #[]]) (L := [(0, ae A00 a0.length), (1, .func (.func 73) #[] #[])]) (N := 9) Tryz.func72 hS ?_
 have hM := h
 clear h hS
 unfold gS.f at hM
 refine WP.seq (WP.rn [] [(4, vB false)] ?_)
 refine WP.seq (WP.region ?_)
 refine WL.rn 2 [] [(5, ae A00 a0.length), (6, .func (.func 73) #[] #[])] ?_
 obtain ⟨r1, h2, hM⟩ := bind_some hM
 refine WL.cQ [] [] (pc k A00 a0 _ h2) (bE [0] rfl) (by kernel_rfl) rfl rfl ?_
 refine WL.rn 2 [] [(4, vB (decide (r1 ≥ 0)))] ?_
 refine WP.done ?_
 obtain rfl := oI hM
 exact WP.dI [] [] [0]
def bB.l1 (a0 : (List Int)) : Nat → Bool → Int → (aS Bool) → Option (Bool)
 | 0, _, _, _ => none
 | n + 1, x8, x9, x10 =>
  bif decide (x9 < (a0.length : Int)) then
   (cI a0.length a0 x9).bind fun t12 =>
   bif ((aS.get x10 t12).getD false) then
    some true
   else
    bB.l1 a0 n x8 (i64 (x9 + 1)) (aS.set x10 t12 true)
  else
   some false
def bB.f (k : Nat) (a0 : (List Int)) : Option (Bool) :=
 bB.l1 a0 k false 0 (aS.nil : aS Bool)
theorem kf (k : Nat) (A00 : av Unit) (a0 : (List Int)) (r : Bool) (h : bB.f k a0 = some r) : Pure Tryz.prog ([Row 1 (pl (aE .u32)) aA A00 a0] ++ aI) 106 #[ae A00 a0.length] (vB r) := by
 intro w Z hS
 refine bh (args := [ae A00 a0.length]) (L := [(0, ae A00 a0.length)]) (N := 19) Tryz.func106 hS ?_
 have hM := h
 clear h hS
 unfold bB.f at hM
 refine WP.seq (WP.rn [] [(2, vB false)] ?_)
 refine WP.seq ?_
 refine WP.rh [] (fun b1 => [(3, .map (some b1))]) (fun b1 => []) (fun b1 => [(b1, .map (eo .u32 Value.bool (aS.nil : aS Bool)) (aS.nil : aS Bool).c)]) (fun b1 => ?_)
 refine WP.seq (WP.seq (WP.rn [] [(7, ae A00 a0.length), (8, vI (a0.length : Int)), (9, vI 0)] ?_))
 refine WP.block (WP.sub [2, 3, 7, 8, 9] (L' := [(2, vB false), (3, .map (some b1)), (7, ae A00 a0.length), (8, vI (a0.length : Int)), (9, vI 0)]) rfl ?_)
 refine WP.aQ [0] (F' := [Row 1 (pl (aE .u32)) aA A00 a0]) rfl ?_
 refine WP.loop (σ := Bool × Int × (aS Bool)) (fun n st => bB.l1 a0 n st.1 st.2.1 st.2.2) r (fun st => [(2, vB st.1), (3, .map (some b1)), (7, ae A00 a0.length), (8, vI (a0.length : Int)), (9, vI st.2.1)]) (fun st => Sat w Z [(b1, .map (eo .u32 Value.bool st.2.2) st.2.2.c)] [] ([Row 1 (pl (aE .u32)) aA A00 a0] ++ aI)) (st := (false, 0, (aS.nil : aS Bool))) (fun n st hM => ?_) hM
 rcases n with _ | n
 ·exact nomatch (show (none : Option _) = some r from hM)
 obtain ⟨x8, x9, x10⟩ := st
 replace hM : bB.l1 a0 (n + 1) x8 x9 x10 = some r := hM
 rw [bB.l1] at hM
 try dsimp only
 refine WP.seq (WP.rn [] [(10, vB (decide (x9 < (a0.length : Int))))] ?_)
 refine WP.seq ?_
 refine WP.cond (decide (x9 < (a0.length : Int))) rfl rfl (fun c11 => ?_) (fun c11 => ?_)
 ·replace hM := aG hM c11
  refine WP.skip (WP.seq (WP.block (WP.seq (WP.region ?_))))
  obtain ⟨t12, h13, hM⟩ := bind_some hM
  refine WL.cd (φ := Row 1 (pl (aE .u32)) aA A00 a0) (ar 0 rfl) (fun w hR => aJ (A := A00) (xs := a0) (i := x9) (k := .i64) (e := 50) (m := 1) rfl rfl h13 rfl rfl hR) (by kernel_rfl) rfl rfl ?_
  refine WL.cd (φ := Row 1 (pl (aE .u32)) aA A00 a0) (ar 0 rfl) (fun w hR => bp (A := A00) (xs := a0) (i := x9) (j := 0) (v := vT t12) h13 (fun _ => by kernel_rfl) rfl rfl hR) (by kernel_rfl) rfl rfl ?_
  refine WL.rn 1 [] [(5, vT t12)] ?_
  refine WP.done (WP.seq (WP.seq (WP.region (WL.rn 2 [] [(13, .map (some b1)), (14, vT t12)] ?_))))
  refine WL.yC (kt := 50) (et := 4) (kk := .u32) (f := Value.bool) (m := x10) (b := b1) (k := t12) 0 false rfl rfl (fun _ => by kernel_rfl) rfl rfl rfl rfl rfl rfl ?_
  refine WP.done ?_
  refine WP.cond ((aS.get x10 t12).getD false) rfl rfl (fun c14 => ?_) (fun c14 => ?_)
  ·replace hM := aG hM c14
   refine WP.seq (WP.rn [] [(2, vB true)] ?_)
   obtain rfl := oI hM
   exact WP.dI [] [] [0]
  ·replace hM := aH hM c14
   refine WP.skip (WP.region (WL.rn 2 [] [(16, .map (some b1)), (17, vT t12)] ?_))
   refine WL.qg (kt := 50) (et := 4) (kk := .u32) (f := Value.bool) (m := x10) (b := b1) (k := t12) 0 true rfl rfl rfl rfl rfl rfl rfl rfl ?_
   refine WP.done (WP.leave (WP.rn [] [(9, vI (i64 (x9 + 1))), (18, vI (i64 (x9 + 1)))] ?_))
   exact WP.cN [2, 3, 7, 8, 9] (x8, i64 (x9 + 1), (aS.set x10 t12 true)) hM rfl (fun _ h => (h.pick [0] rfl).aQ [0] rfl)
 ·replace hM := aH hM c11
  refine WP.exit rfl (WP.seq (WP.rn [] [(2, vB false)] ?_))
  refine WP.kp [false] ?_
  obtain rfl := oI hM
  exact WP.dI [] [] [0]
def bb.l1 (a0 : (List Int)) (a1 : Int) : Nat → Int → Int → Option (Int)
 | 0, _, _ => none
 | n + 1, x1, x2 =>
  bif decide (x2 < (a0.length : Int)) then
   (cI a0.length a0 x2).bind fun t4 =>
   bif (a1 == t4) then
    some x2
   else
    bb.l1 a0 a1 n x1 (i64 (x2 + 1))
  else
   some (-1)
def bb.f (k : Nat) (a0 : (List Int)) (a1 : Int) : Option (Int) :=
 bb.l1 a0 a1 k 0 0
theorem gk (k : Nat) (A00 : av Unit) (a0 : (List Int)) (a1 : Int) (r : Int) (h : bb.f k a0 a1 = some r) : Pure Tryz.prog ([Row 1 (pl (aE .u32)) aA A00 a0] ++ aI) 140 #[ae A00 a0.length, vT a1] (vI r) := by
 intro w Z hS
 refine bh (args := [ae A00 a0.length, vT a1]) (L := [(0, ae A00 a0.length), (1, vT a1)]) (N := 19) Tryz.func140 hS ?_
 have hM := h
 clear h hS
 unfold bb.f at hM
 refine WP.seq (WP.rn [] [(4, vI 0)] ?_)
 refine WP.seq (WP.seq (WP.rn [] [(7, vI (a0.length : Int)), (8, vI 0)] ?_))
 refine WP.block (WP.sub [0, 1, 4, 7, 8] (L' := [(0, ae A00 a0.length), (1, vT a1), (4, vI 0), (7, vI (a0.length : Int)), (8, vI 0)]) rfl ?_)
 refine WP.aQ [0] (F' := [Row 1 (pl (aE .u32)) aA A00 a0]) rfl ?_
 refine WP.loop (σ := Int × Int) (fun n st => bb.l1 a0 a1 n st.1 st.2) r (fun st => [(0, ae A00 a0.length), (1, vT a1), (4, vI st.1), (7, vI (a0.length : Int)), (8, vI st.2)]) (fun st => Sat w Z [] [] ([Row 1 (pl (aE .u32)) aA A00 a0] ++ aI)) (st := (0, 0)) (fun n st hM => ?_) hM
 rcases n with _ | n
 ·exact nomatch (show (none : Option _) = some r from hM)
 obtain ⟨x1, x2⟩ := st
 replace hM : bb.l1 a0 a1 (n + 1) x1 x2 = some r := hM
 rw [bb.l1] at hM
 try dsimp only
 refine WP.seq (WP.rn [] [(9, vB (decide (x2 < (a0.length : Int))))] ?_)
 refine WP.seq ?_
 refine WP.cond (decide (x2 < (a0.length : Int))) rfl rfl (fun c3 => ?_) (fun c3 => ?_)
 ·replace hM := aG hM c3
  refine WP.skip (WP.seq (WP.block (WP.seq (WP.rn [] [(5, vI x2), (10, vI x2)] ?_))))
  refine WP.seq (WP.region (WL.rn 3 [] [(11, vT a1), (12, ae A00 a0.length), (13, vI x2)] ?_))
  obtain ⟨t4, h5, hM⟩ := bind_some hM
  refine WL.cd (φ := Row 1 (pl (aE .u32)) aA A00 a0) (ar 0 rfl) (fun w hR => aJ (A := A00) (xs := a0) (i := x2) (k := .i64) (e := 50) (m := 1) rfl rfl h5 rfl rfl hR) (by kernel_rfl) rfl rfl ?_
  refine WL.cd (φ := Row 1 (pl (aE .u32)) aA A00 a0) (ar 0 rfl) (fun w hR => bp (A := A00) (xs := a0) (i := x2) (j := 0) (v := vT t4) h5 (fun _ => by kernel_rfl) rfl rfl hR) (by kernel_rfl) rfl rfl ?_
  refine WL.rn 1 [] [(16, vB (a1 == t4))] ?_
  refine WP.done ?_
  refine WP.cond (a1 == t4) rfl rfl (fun c6 => ?_) (fun c6 => ?_)
  ·replace hM := aG hM c6
   refine WP.seq (WP.rn [] [(4, vI x2), (17, vI x2)] ?_)
   obtain rfl := oI hM
   exact WP.dI [] [] [0]
  ·replace hM := aH hM c6
   refine WP.skip (WP.leave (WP.rn [] [(8, vI (i64 (x2 + 1))), (18, vI (i64 (x2 + 1)))] ?_))
   exact WP.cN [0, 1, 4, 7, 8] (x1, i64 (x2 + 1)) hM rfl (fun _ h => (h.pick [] rfl).aQ [0] rfl)
 ·replace hM := aH hM c3
  refine WP.exit rfl (WP.seq (WP.rn [] [(4, vI (-1))] ?_))
  obtain rfl := oI hM
  exact WP.dI [] [] [0]
def cx.f (k : Nat) (a0 : (List Int)) (a1 : Int) : Option (Bool) :=
 (bb.f k a0 a1).bind fun r1 =>
 some (decide (r1 ≥ 0))
theorem ew (k : Nat) (A00 : av Unit) (a0 : (List Int)) (a1 : Int) (r : Bool) (h : cx.f k a0 a1 = some r) : Pure Tryz.prog ([Row 1 (pl (aE .u32)) aA A00 a0] ++ aI) 107 #[ae A00 a0.length, vT a1] (vB r) := by
 intro w Z hS
 refine bh (args := [ae A00 a0.length, vT a1]) (L := [(0, ae A00 a0.length), (1, vT a1)]) (N := 9) Tryz.func107 hS ?_
 have hM := h
 clear h hS
 unfold cx.f at hM
 refine WP.seq (WP.rn [] [(4, vB false)] ?_)
 refine WP.seq (WP.region (WL.rn 2 [] [(5, ae A00 a0.length), (6, vT a1)] ?_))
 obtain ⟨r1, h2, hM⟩ := bind_some hM
 refine WL.cQ [] [] (gk k A00 a0 a1 _ h2) (bE [0] rfl) (by kernel_rfl) rfl rfl ?_
 refine WL.rn 2 [] [(4, vB (decide (r1 ≥ 0)))] ?_
 refine WP.done ?_
 obtain rfl := oI hM
 exact WP.dI [] [] [0]
def cb.k1 (x13 : Bool) : Option (Bool) :=
 some x13
def cb.k2 (k : Nat) (a1_2 : (List Int)) (a0 : Int) (x9 : Bool) : Option (Bool) :=
 bif x9 then
  (cx.f k a1_2 a0).bind fun r11 =>
  cb.k1 (!r11)
 else
  cb.k1 false
def cb.k3 (k : Nat) (a1_2 : (List Int)) (a0 : Int) (x5 : Bool) : Option (Bool) :=
 bif x5 then
  (cx.f k a1_2 0).bind fun r7 =>
  cb.k2 k a1_2 a0 (!r7)
 else
  cb.k2 k a1_2 a0 false
def cb.f (k : Nat) (a0 : Int) (a1 : Int) (a1_1 : Int) (a1_2 : (List Int)) : Option (Bool) :=
 bif ((((decide (a1 ≥ 1)) && (decide (a1 ≤ 4094))) && (decide (a1_1 ≥ 0))) && (decide (a1_1 ≤ 16777215))) then
  (bB.f k a1_2).bind fun r3 =>
  cb.k3 k a1_2 a0 (!r3)
 else
  cb.k3 k a1_2 a0 false
theorem oY (k : Nat) (A00 : av Unit) (a0 : Int) (a1 : Int) (a1_1 : Int) (a1_2 : (List Int)) (r : Bool) (h : cb.f k a0 a1 a1_1 a1_2 = some r) : Pure Tryz.prog ([Row 1 (pl (aE .u32)) aA A00 a1_2] ++ aI) 74 #[vT a0, .agg #[vI a1, vI a1_1, ae A00 a1_2.length]] (vB r) := by
 intro w Z hS
 refine bh (args := [vT a0, .agg #[vI a1, vI a1_1, ae A00 a1_2.length]]) (L := [(0, vT a0), (1, .agg #[vI a1, vI a1_1, ae A00 a1_2.length])]) (N := 42) Tryz.func74 hS ?_
 have hM := h
 clear h hS
 unfold cb.f at hM
 refine WP.seq ?_
 refine WP.rh [] (fun b1 => [(3, vP b1 0), (4, vB false)]) (fun b1 => []) (fun b1 => [(b1, .cells #[vI a1, vI a1_1, ae A00 a1_2.length] 143 (0, 0))]) (fun b1 => ?_)
 refine WP.seq (WP.region (WL.rn 4 [0] [(8, vB (decide (a1 ≥ 1)))] ?_))
 refine WL.bo 8 (decide (a1 ≥ 1)) 4 [0] [] (fun b' => [(12, vB (b' && (decide (a1 ≤ 4094))))]) ?_
 refine WL.rn 1 [] [(13, vB ((decide (a1 ≥ 1)) && (decide (a1 ≤ 4094))))] ?_
 refine WL.bo 13 ((decide (a1 ≥ 1)) && (decide (a1 ≤ 4094))) 4 [0] [] (fun b' => [(17, vB (b' && (decide (a1_1 ≥ 0))))]) ?_
 refine WL.rn 1 [] [(18, vB (((decide (a1 ≥ 1)) && (decide (a1 ≤ 4094))) && (decide (a1_1 ≥ 0))))] ?_
 refine WL.bo 18 (((decide (a1 ≥ 1)) && (decide (a1 ≤ 4094))) && (decide (a1_1 ≥ 0))) 4 [0] [] (fun b' => [(22, vB (b' && (decide (a1_1 ≤ 16777215))))]) ?_
 refine WL.rn 1 [] [(23, vB ((((decide (a1 ≥ 1)) && (decide (a1 ≤ 4094))) && (decide (a1_1 ≥ 0))) && (decide (a1_1 ≤ 16777215))))] ?_
 refine WL.join (σ := Bool) 5 (fun st => cb.k3 k a1_2 a0 st = some r) (fun st => [(0, vT a0), (3, vP b1 0), (4, vB false), (28, vB st)]) (fun st => Sat w Z [(b1, .cells #[vI a1, vI a1_1, ae A00 a1_2.length] 143 (0, 0))] [] ([Row 1 (pl (aE .u32)) aA A00 a1_2] ++ aI)) (fun st hM => ?_) (fun K3 => ?_)
 ·
  obtain ⟨x5, rfl⟩ : ∃ y, y = st := ⟨st, rfl⟩
  replace hM : cb.k3 k a1_2 a0 x5 = some r := hM
  unfold cb.k3 at hM
  try dsimp only
  refine WL.rn 1 [] [(29, vB x5)] ?_
  refine WL.join (σ := Bool) 5 (fun st => cb.k2 k a1_2 a0 st = some r) (fun st => [(0, vT a0), (3, vP b1 0), (4, vB false), (34, vB st)]) (fun st => Sat w Z [(b1, .cells #[vI a1, vI a1_1, ae A00 a1_2.length] 143 (0, 0))] [] ([Row 1 (pl (aE .u32)) aA A00 a1_2] ++ aI)) (fun st hM => ?_) (fun K2 => ?_)
  ·
   obtain ⟨x9, rfl⟩ : ∃ y, y = st := ⟨st, rfl⟩
   replace hM : cb.k2 k a1_2 a0 x9 = some r := hM
   unfold cb.k2 at hM
   try dsimp only
   refine WL.rn 1 [] [(35, vB x9)] ?_
   refine WL.join (σ := Bool) 6 (fun st => cb.k1 st = some r) (fun st => [(4, vB false), (41, vB st)]) (fun st => Sat w Z [] [] ([Row 1 (pl (aE .u32)) aA A00 a1_2] ++ aI)) (fun st hM => ?_) (fun K1 => ?_)
   ·
    obtain ⟨x13, rfl⟩ : ∃ y, y = st := ⟨st, rfl⟩
    replace hM : cb.k1 x13 = some r := hM
    unfold cb.k1 at hM
    try dsimp only
    refine WL.rn 1 [] [(4, vB x13)] ?_
    refine WP.done ?_
    obtain rfl := oI hM
    exact WP.dI [] [] [0]
   ·
    refine WL.sp 35 x9 (fun c10 => ?_) (fun c10 => ?_)
    ·replace hM := aG hM c10
     refine WL.rn 3 [0] [(37, ae A00 a1_2.length), (38, vT a0)] ?_
     obtain ⟨r11, h12, hM⟩ := bind_some hM
     refine WL.cQ [] [] (ew k A00 a1_2 a0 _ h12) (bE [0] rfl) (by kernel_rfl) rfl rfl ?_
     refine WL.rn 2 [] [(41, vB (!r11))] ?_
     exact WL.sub [4, 41] rfl (WL.pick [] rfl rfl (WL.aQ [0] rfl (K1 (!r11) hM)))
    ·replace hM := aH hM c10
     refine WL.rn 6 [] [(41, vB false)] ?_
     exact WL.sub [4, 41] rfl (WL.pick [] rfl rfl (WL.aQ [0] rfl (K1 false hM)))
  ·
   refine WL.sp 29 x5 (fun c6 => ?_) (fun c6 => ?_)
   ·replace hM := aG hM c6
    refine WL.rn 2 [0] [(31, ae A00 a1_2.length)] ?_
    obtain ⟨r7, h8, hM⟩ := bind_some hM
    refine WL.cQ [] [] (ew k A00 a1_2 0 _ h8) (bE [0] rfl) (by kernel_rfl) rfl rfl ?_
    refine WL.rn 2 [] [(34, vB (!r7))] ?_
    exact WL.sub [0, 3, 4, 34] rfl (WL.pick [0] rfl rfl (WL.aQ [0] rfl (K2 (!r7) hM)))
   ·replace hM := aH hM c6
    refine WL.rn 5 [] [(34, vB false)] ?_
    exact WL.sub [0, 3, 4, 34] rfl (WL.pick [0] rfl rfl (WL.aQ [0] rfl (K2 false hM)))
 ·
  refine WL.sp 23 ((((decide (a1 ≥ 1)) && (decide (a1 ≤ 4094))) && (decide (a1_1 ≥ 0))) && (decide (a1_1 ≤ 16777215))) (fun c2 => ?_) (fun c2 => ?_)
  ·replace hM := aG hM c2
   refine WL.rn 2 [0] [(25, ae A00 a1_2.length)] ?_
   obtain ⟨r3, h4, hM⟩ := bind_some hM
   refine WL.cQ [] [] (kf k A00 a1_2 _ h4) (bE [0] rfl) (by kernel_rfl) rfl rfl ?_
   refine WL.rn 2 [] [(28, vB (!r3))] ?_
   exact WL.sub [0, 3, 4, 28] rfl (WL.pick [0] rfl rfl (WL.aQ [0] rfl (K3 (!r3) hM)))
  ·replace hM := aH hM c2
   refine WL.rn 5 [] [(28, vB false)] ?_
   exact WL.sub [0, 3, 4, 28] rfl (WL.pick [0] rfl rfl (WL.aQ [0] rfl (K3 false hM)))
def bD.l1 (a0 : (List Int)) : Nat → Bool → Int → (aS Bool) → Option (Bool)
 | 0, _, _, _ => none
 | n + 1, x8, x9, x10 =>
  bif decide (x9 < (a0.length : Int)) then
   (cI a0.length a0 x9).bind fun t12 =>
   bif ((aS.get x10 t12).getD false) then
    some true
   else
    bD.l1 a0 n x8 (i64 (x9 + 1)) (aS.set x10 t12 true)
  else
   some false
def bD.f (k : Nat) (a0 : (List Int)) : Option (Bool) :=
 bD.l1 a0 k false 0 (aS.nil : aS Bool)
theorem iD (k : Nat) (A00 : av Unit) (a0 : (List Int)) (r : Bool) (h : bD.f k a0 = some r) : Pure Tryz.prog ([Row 1 (pl (aE .i64)) aA A00 a0] ++ aI) 75 #[ae A00 a0.length] (vB r) := by
 intro w Z hS
 refine bh (args := [ae A00 a0.length]) (L := [(0, ae A00 a0.length)]) (N := 19) Tryz.func75 hS ?_
 have hM := h
 clear h hS
 unfold bD.f at hM
 refine WP.seq (WP.rn [] [(2, vB false)] ?_)
 refine WP.seq ?_
 refine WP.rh [] (fun b1 => [(3, .map (some b1))]) (fun b1 => []) (fun b1 => [(b1, .map (eo .i64 Value.bool (aS.nil : aS Bool)) (aS.nil : aS Bool).c)]) (fun b1 => ?_)
 refine WP.seq (WP.seq (WP.rn [] [(7, ae A00 a0.length), (8, vI (a0.length : Int)), (9, vI 0)] ?_))
 refine WP.block (WP.sub [2, 3, 7, 8, 9] (L' := [(2, vB false), (3, .map (some b1)), (7, ae A00 a0.length), (8, vI (a0.length : Int)), (9, vI 0)]) rfl ?_)
 refine WP.aQ [0] (F' := [Row 1 (pl (aE .i64)) aA A00 a0]) rfl ?_
 refine WP.loop (σ := Bool × Int × (aS Bool)) (fun n st => bD.l1 a0 n st.1 st.2.1 st.2.2) r (fun st => [(2, vB st.1), (3, .map (some b1)), (7, ae A00 a0.length), (8, vI (a0.length : Int)), (9, vI st.2.1)]) (fun st => Sat w Z [(b1, .map (eo .i64 Value.bool st.2.2) st.2.2.c)] [] ([Row 1 (pl (aE .i64)) aA A00 a0] ++ aI)) (st := (false, 0, (aS.nil : aS Bool))) (fun n st hM => ?_) hM
 rcases n with _ | n
 ·exact nomatch (show (none : Option _) = some r from hM)
 obtain ⟨x8, x9, x10⟩ := st
 replace hM : bD.l1 a0 (n + 1) x8 x9 x10 = some r := hM
 rw [bD.l1] at hM
 try dsimp only
 refine WP.seq (WP.rn [] [(10, vB (decide (x9 < (a0.length : Int))))] ?_)
 refine WP.seq ?_
 refine WP.cond (decide (x9 < (a0.length : Int))) rfl rfl (fun c11 => ?_) (fun c11 => ?_)
 ·replace hM := aG hM c11
  refine WP.skip (WP.seq (WP.block (WP.seq (WP.region ?_))))
  obtain ⟨t12, h13, hM⟩ := bind_some hM
  refine WL.cd (φ := Row 1 (pl (aE .i64)) aA A00 a0) (ar 0 rfl) (fun w hR => aJ (A := A00) (xs := a0) (i := x9) (k := .i64) (e := 3) (m := 1) rfl rfl h13 rfl rfl hR) (by kernel_rfl) rfl rfl ?_
  refine WL.cd (φ := Row 1 (pl (aE .i64)) aA A00 a0) (ar 0 rfl) (fun w hR => bp (A := A00) (xs := a0) (i := x9) (j := 0) (v := vI t12) h13 (fun _ => by kernel_rfl) rfl rfl hR) (by kernel_rfl) rfl rfl ?_
  refine WL.rn 1 [] [(5, vI t12)] ?_
  refine WP.done (WP.seq (WP.seq (WP.region (WL.rn 2 [] [(13, .map (some b1)), (14, vI t12)] ?_))))
  refine WL.yC (kt := 3) (et := 4) (kk := .i64) (f := Value.bool) (m := x10) (b := b1) (k := t12) 0 false rfl rfl (fun _ => by kernel_rfl) rfl rfl rfl rfl rfl rfl ?_
  refine WP.done ?_
  refine WP.cond ((aS.get x10 t12).getD false) rfl rfl (fun c14 => ?_) (fun c14 => ?_)
  ·replace hM := aG hM c14
   refine WP.seq (WP.rn [] [(2, vB true)] ?_)
   obtain rfl := oI hM
   exact WP.dI [] [] [0]
  ·replace hM := aH hM c14
   refine WP.skip (WP.region (WL.rn 2 [] [(16, .map (some b1)), (17, vI t12)] ?_))
   refine WL.qg (kt := 3) (et := 4) (kk := .i64) (f := Value.bool) (m := x10) (b := b1) (k := t12) 0 true rfl rfl rfl rfl rfl rfl rfl rfl ?_
   refine WP.done (WP.leave (WP.rn [] [(9, vI (i64 (x9 + 1))), (18, vI (i64 (x9 + 1)))] ?_))
   exact WP.cN [2, 3, 7, 8, 9] (x8, i64 (x9 + 1), (aS.set x10 t12 true)) hM rfl (fun _ h => (h.pick [0] rfl).aQ [0] rfl)
 ·replace hM := aH hM c11
  refine WP.exit rfl (WP.seq (WP.rn [] [(2, vB false)] ?_))
  refine WP.kp [false] ?_
  obtain rfl := oI hM
  exact WP.dI [] [] [0]
def aZ.k2 (x6 : (List Int)) (t13 : ag) (x8 : (List Int)) (x11 : Int) (rec_l3 : (List Int) → (List Int) → Bool → Int → Option (Int)) (x27 : Bool) (x28 : Bool) : Option (Int) :=
 rec_l3 (x6 ++ ([t13.bd] : List Int)) (x8 ++ ([t13.bV] : List Int)) x28 (i64 (x11 + 1))
def aZ.k4 (x36 : Bool) : Option (Int) :=
 bif x36 then
  some 210
 else
  some 0
def aZ.k5 (k : Nat) (x8 : (List Int)) (x32 : Bool) : Option (Int) :=
 bif x32 then
  aZ.k4 true
 else
  (bD.f k x8).bind fun r34 =>
  aZ.k4 r34
def aZ.l3 (a1 : (List ag)) (k : Nat) (a0 : Int) : Nat → (List Int) → (List Int) → Bool → Int → Option (Int)
 | 0, _, _, _, _ => none
 | n + 1, x6, x8, x10, x11 =>
  bif decide (x11 < (a1.length : Int)) then
   (cI a1.length a1 x11).bind fun t13 =>
   (ey 8 (x6 ++ ([t13.bd] : List Int)).length).bind fun u18 =>
   (ey 8 (x8 ++ ([t13.bV] : List Int)).length).bind fun u22 =>
   bif x10 then
    (cb.f k a0 t13.bd t13.bV t13.aD).bind fun r25 =>
    aZ.k2 x6 t13 x8 x11 (aZ.l3 a1 k a0 n) true r25
   else
    aZ.k2 x6 t13 x8 x11 (aZ.l3 a1 k a0 n) false false
  else
   bif !x10 then
    aZ.k5 k x8 true
   else
    (bD.f k x6).bind fun r30 =>
    aZ.k5 k x8 r30
def aZ.k1 (a1 : (List ag)) (k : Nat) (a0 : Int) (x4 : Bool) : Option (Int) :=
 bif x4 then
  some 2
 else
  aZ.l3 a1 k a0 k ([] : List Int) ([] : List Int) (a0 != 0) 0
def aZ.f (k : Nat) (a0 : Int) (a1 : (List ag)) : Option (Int) :=
 bif decide ((a1.length : Int) > 256) then
  aZ.k1 a1 k a0 true
 else
  (gS.f k a1).bind fun r2 =>
  aZ.k1 a1 k a0 r2
theorem oZ (k : Nat) (A00 : av (av Unit)) (a0 : Int) (a1 : (List ag)) (r : Int) (h : aZ.f k a0 a1 = some r) : Pure Tryz.prog ([Row 3 ag.au ag.aN A00 a1] ++ aI) 34 #[vT a0, ae A00 a1.length] (vI r) := by
 intro w Z hS
 refine bh (args := [vT a0, ae A00 a1.length]) (L := [(0, vT a0), (1, ae A00 a1.length)]) (N := 52) Tryz.func34 hS ?_
 have hM := h
 clear h hS
 unfold aZ.f at hM
 refine WP.seq (WP.rn [] [(4, vI 0)] ?_)
 refine WP.seq (WP.seq (WP.region (WL.rn 4 [] [(13, vB (decide ((a1.length : Int) > 256)))] ?_)))
 refine WL.join (σ := Bool) 3 (fun st => aZ.k1 a1 k a0 st = some r) (fun st => [(0, vT a0), (1, ae A00 a1.length), (4, vI 0), (16, vB st)]) (fun st => Sat w Z [] [] ([Row 3 ag.au ag.aN A00 a1] ++ aI)) (fun st hM => ?_) (fun K1 => ?_)
 ·
  obtain ⟨x4, rfl⟩ : ∃ y, y = st := ⟨st, rfl⟩
  replace hM : aZ.k1 a1 k a0 x4 = some r := hM
  unfold aZ.k1 at hM
  try dsimp only
  refine WP.done ?_
  refine WP.cond x4 rfl rfl (fun c5 => ?_) (fun c5 => ?_)
  ·replace hM := aG hM c5
   refine WP.seq (WP.rn [] [(4, vI 2)] ?_)
   obtain rfl := oI hM
   exact WP.dI [] [] [0]
  ·replace hM := aH hM c5
   refine WP.skip (WP.seq (WP.rn [] [(5, .slice none 0 0), (6, .slice none 0 0)] ?_))
   refine WP.seq (WP.rn [] [(7, vB (a0 != 0))] ?_)
   refine WP.seq (WP.seq (WP.rn [] [(19, ae A00 a1.length), (20, vI (a1.length : Int)), (21, vI 0)] ?_))
   refine WP.block ?_
   refine WP.fH 1 3 (pl (aE .i64)) aA (fun _ => ()) ?_
   refine WP.fH 1 3 (pl (aE .i64)) aA (fun _ => ()) ?_
   refine WP.sub [0, 4, 5, 6, 7, 19, 20, 21] (L' := [(0, vT a0), (4, vI 0), (5, ae (av.nil (fun _ => ())) ([] : List Int).length), (6, ae (av.nil (fun _ => ())) ([] : List Int).length), (7, vB (a0 != 0)), (19, ae A00 a1.length), (20, vI (a1.length : Int)), (21, vI 0)]) rfl ?_
   refine WP.aQ [0, 0, 0, 1, 2] (F' := [bC aA (av.nil (fun _ => ())) ([] : List Int), bC aA (av.nil (fun _ => ())) ([] : List Int), bC aA (av.nil (fun _ => ())) ([] : List Int), bC aA (av.nil (fun _ => ())) ([] : List Int), Row 3 ag.au ag.aN A00 a1]) rfl ?_
   refine WP.loop (σ := (List Int) × av Unit × (List Int) × av Unit × Bool × Int) (fun n st => aZ.l3 a1 k a0 n st.1 st.2.2.1 st.2.2.2.2.1 st.2.2.2.2.2) r (fun st => [(0, vT a0), (4, vI 0), (5, ae st.2.1 st.1.length), (6, ae st.2.2.2.1 st.2.2.1.length), (7, vB st.2.2.2.2.1), (19, ae A00 a1.length), (20, vI (a1.length : Int)), (21, vI st.2.2.2.2.2)]) (fun st => Sat w Z [] [bL 1 3 (pl (aE .i64)) st.2.1 st.1, bL 1 3 (pl (aE .i64)) st.2.2.2.1 st.2.2.1] ([bC aA st.2.1 st.1, bC aA st.2.2.2.1 st.2.2.1, bC aA (av.nil (fun _ => ())) ([] : List Int), bC aA (av.nil (fun _ => ())) ([] : List Int), Row 3 ag.au ag.aN A00 a1] ++ aI)) (st := (([] : List Int), (av.nil (fun _ => ())), ([] : List Int), (av.nil (fun _ => ())), (a0 != 0), 0)) (fun n st hM => ?_) hM
   rcases n with _ | n
   ·exact nomatch (show (none : Option _) = some r from hM)
   obtain ⟨x6, A7, x8, A9, x10, x11⟩ := st
   replace hM : aZ.l3 a1 k a0 (n + 1) x6 x8 x10 x11 = some r := hM
   rw [aZ.l3] at hM
   try dsimp only
   refine WP.seq (WP.rn [] [(22, vB (decide (x11 < (a1.length : Int))))] ?_)
   refine WP.seq ?_
   refine WP.cond (decide (x11 < (a1.length : Int))) rfl rfl (fun c12 => ?_) (fun c12 => ?_)
   ·replace hM := aG hM c12
    refine WP.skip (WP.seq (WP.block (WP.seq (WP.region ?_))))
    obtain ⟨t13, h14, hM⟩ := bind_some hM
    refine WL.cd (φ := Row 3 ag.au ag.aN A00 a1) (ar 4 rfl) (fun w hR => aJ (A := A00) (xs := a1) (i := x11) (k := .i64) (e := 143) (m := 3) rfl rfl h14 rfl rfl hR) (by kernel_rfl) rfl rfl ?_
    refine WL.cd (φ := Row 3 ag.au ag.aN A00 a1) (ar 4 rfl) (fun w hR => b4 (A := A00) (xs := a1) (i := x11) (j := 0) (n := 3) (vs := [vI t13.bd, vI t13.bV, ae (A00.s (Int.toNat x11)) t13.aD.length]) h14 (fun _ => by kernel_rfl) rfl rfl rfl rfl hR) (by kernel_rfl) rfl rfl ?_
    refine WL.ez (Row 1 (pl (aE .u32)) aA (A00.s (Int.toNat x11)) t13.aD) [4] [Row 3 ag.au ag.aN A00 a1] rfl (fun w hψ => ((hψ _ (List.mem_singleton.2 rfl)).inner _ _ (bg h14).2)) ?_
    refine WL.rh 2 [0, 0, 0] (fun b15 => [(9, vP b15 0)]) (fun b15 => []) (fun b15 => [(b15, .cells #[vI t13.bd, vI t13.bV, ae (A00.s (Int.toNat x11)) t13.aD.length] 143 (0, 0))]) (fun b15 => ?_)
    refine WP.done (WP.seq ?_)
    obtain ⟨u18, h17, hM⟩ := bind_some hM
    obtain ⟨u22, h21, hM⟩ := bind_some hM
    refine WP.rs [0, 4, 5, 6, 7, 9, 19, 20, 21, 22, 23, 24] ?_
    refine WP.fB (X := (Nat × (av Unit) × Nat × (av Unit))) 12 7 [⟨0, 12, fun _ => [(b15, .cells #[vI t13.bd, vI t13.bV, ae (A00.s (Int.toNat x11)) t13.aD.length] 143 (0, 0))], fun _ => []⟩, ⟨0, 4, fun _ => [], fun _ => [bL 1 3 (pl (aE .i64)) A7 x6]⟩, ⟨0, 9, fun _ => [], fun _ => [bL 1 3 (pl (aE .i64)) A9 x8]⟩, ⟨4, 4, fun ξ => [((ξ 3).1, .cells #[vI t13.bd] 3 (0, 0))], fun ξ => []⟩, ⟨5, 12, fun ξ => [], fun ξ => [bL 1 3 (pl (aE .i64)) (ξ 4).2.1 (x6 ++ ([t13.bd] : List Int))]⟩, ⟨9, 9, fun ξ => [((ξ 8).2.2.1, .cells #[vI t13.bV] 3 (0, 0))], fun ξ => []⟩, ⟨10, 12, fun ξ => [], fun ξ => [bL 1 3 (pl (aE .i64)) (ξ 9).2.2.2 (x8 ++ ([t13.bV] : List Int))]⟩] [⟨[], [], [], [], [], fun _ => ae A7 x6.length, fun _ => []⟩, ⟨[], [], [], [], [], fun _ => vP b15 0, fun _ => []⟩, ⟨[1], [0], [0], [], [], fun _ => vI t13.bd, fun _ => []⟩, ⟨[1, 2], [], [3], [], [], fun ξ => .slice (some ⟨(ξ 3).1, 0, none⟩) 1 1, fun ξ => []⟩, ⟨[0, 1, 2, 3], [3, 1], [4], [3], [], fun ξ => ae (ξ 4).2.1 (x6 ++ ([t13.bd] : List Int)).length, fun ξ => [bC aA (ξ 4).2.1 (x6 ++ ([t13.bd] : List Int)), Row 1 (pl (aE .i64)) aA (av.at (ξ 3).1 1 (fun _ => ())) ([t13.bd] : List Int)]⟩, ⟨[], [], [], [], [], fun _ => ae A9 x8.length, fun _ => []⟩, ⟨[], [], [], [], [], fun _ => vP b15 1, fun _ => []⟩, ⟨[6], [0], [0], [], [], fun _ => vI t13.bV, fun _ => []⟩, ⟨[6, 7], [], [5], [], [], fun ξ => .slice (some ⟨(ξ 8).2.2.1, 0, none⟩) 1 1, fun ξ => []⟩, ⟨[0, 1, 2, 3, 4, 5, 6, 7, 8], [5, 2], [6], [8], [], fun ξ => ae (ξ 9).2.2.2 (x8 ++ ([t13.bV] : List Int)).length, fun ξ => [bC aA (ξ 9).2.2.2 (x8 ++ ([t13.bV] : List Int)), Row 1 (pl (aE .i64)) aA (av.at (ξ 8).2.2.1 1 (fun _ => ())) ([t13.bV] : List Int)]⟩, ⟨[0, 1, 2, 3, 4, 5, 6, 7, 8, 9], [], [], [4], [], fun ξ => ae (ξ 4).2.1 (x6 ++ ([t13.bd] : List Int)).length, fun ξ => []⟩, ⟨[0, 1, 2, 3, 4, 5, 6, 7, 8, 9, 10], [], [], [9], [5], fun ξ => ae (ξ 9).2.2.2 (x8 ++ ([t13.bV] : List Int)).length, fun ξ => []⟩] (fun ξ => [(5, ae (ξ 4).2.1 (x6 ++ ([t13.bd] : List Int)).length), (6, ae (ξ 9).2.2.2 (x8 ++ ([t13.bV] : List Int)).length), (26, vP b15 0), (27, vI t13.bd), (29, ae (ξ 4).2.1 (x6 ++ ([t13.bd] : List Int)).length), (31, vP b15 1), (32, vI t13.bV), (34, ae (ξ 9).2.2.2 (x8 ++ ([t13.bV] : List Int)).length)]) (fun ξ => [(b15, .cells #[vI t13.bd, vI t13.bV, ae (A00.s (Int.toNat x11)) t13.aD.length] 143 (0, 0))]) (fun ξ => [bL 1 3 (pl (aE .i64)) (ξ 4).2.1 (x6 ++ ([t13.bd] : List Int)), bL 1 3 (pl (aE .i64)) (ξ 9).2.2.2 (x8 ++ ([t13.bV] : List Int))]) (fun ξ => [bC aA (ξ 4).2.1 (x6 ++ ([t13.bd] : List Int)), Row 1 (pl (aE .i64)) aA (av.at (ξ 3).1 1 (fun _ => ())) ([t13.bd] : List Int), bC aA (ξ 9).2.2.2 (x8 ++ ([t13.bV] : List Int)), Row 1 (pl (aE .i64)) aA (av.at (ξ 8).2.2.1 1 (fun _ => ())) ([t13.bV] : List Int)]) (aq.cons ?_ (aq.cons ?_ (aq.cons ?_ (aq.cons ?_ (aq.cons ?_ (aq.cons ?_ (aq.cons ?_ (aq.cons ?_ (aq.cons ?_ (aq.cons ?_ (aq.cons ?_ (aq.cons ?_ aq.nil)))))))))))) (aq.cons (bf.c rfl) (aq.cons (bf.c rfl) (aq.cons (bf.c rfl) (aq.cons (fun t ht ξ ξ' h => by cases ht; have e3 : ξ 3 = ξ' 3 := h 3 (aC.1 rfl); exact ⟨by first | rfl | simp only [e3], by first | rfl | simp only [e3]⟩) (aq.cons (fun t ht ξ ξ' h => by cases ht; have e3 : ξ 3 = ξ' 3 := h 3 (aC.1 rfl); have e4 : ξ 4 = ξ' 4 := h 4 (aC.1 rfl); exact ⟨by first | rfl | simp only [e3, e4], by first | rfl | simp only [e3, e4]⟩) (aq.cons (bf.c rfl) (aq.cons (bf.c rfl) (aq.cons (bf.c rfl) (aq.cons (fun t ht ξ ξ' h => by cases ht; have e8 : ξ 8 = ξ' 8 := h 8 (aC.1 rfl); exact ⟨by first | rfl | simp only [e8], by first | rfl | simp only [e8]⟩) (aq.cons (fun t ht ξ ξ' h => by cases ht; have e8 : ξ 8 = ξ' 8 := h 8 (aC.1 rfl); have e9 : ξ 9 = ξ' 9 := h 9 (aC.1 rfl); exact ⟨by first | rfl | simp only [e8, e9], by first | rfl | simp only [e8, e9]⟩) (aq.cons (fun t ht ξ ξ' h => by cases ht; have e4 : ξ 4 = ξ' 4 := h 4 (aC.1 rfl); exact ⟨by first | rfl | simp only [e4], by first | rfl | simp only [e4]⟩) (aq.cons (fun t ht ξ ξ' h => by cases ht; have e9 : ξ 9 = ξ' 9 := h 9 (aC.1 rfl); exact ⟨by first | rfl | simp only [e9], by first | rfl | simp only [e9]⟩) aq.nil)))))))))))) (aq.cons (dA.c rfl) (aq.cons (dA.c rfl) (aq.cons (dA.c rfl) (aq.cons (fun r hr ξ ξ' h => by cases hr; have e3 : ξ 3 = ξ' 3 := h 3 (aC.1 rfl); exact ⟨by first | rfl | simp only [e3], by first | rfl | simp only [e3]⟩) (aq.cons (fun r hr ξ ξ' h => by cases hr; have e4 : ξ 4 = ξ' 4 := h 4 (aC.1 rfl); exact ⟨by first | rfl | simp only [e4], by first | rfl | simp only [e4]⟩) (aq.cons (fun r hr ξ ξ' h => by cases hr; have e8 : ξ 8 = ξ' 8 := h 8 (aC.1 rfl); exact ⟨by first | rfl | simp only [e8], by first | rfl | simp only [e8]⟩) (aq.cons (fun r hr ξ ξ' h => by cases hr; have e9 : ξ 9 = ξ' 9 := h 9 (aC.1 rfl); exact ⟨by first | rfl | simp only [e9], by first | rfl | simp only [e9]⟩) aq.nil))))))) (fun ξ => ?_)
    ·
     intro o t ho ht ξ Gr Γr Lr Q hk
     cases ho; cases ht
     refine WL.rn 1 [] [(25, ae A7 x6.length)] ?_
     exact WL.fin (hk default)
    ·
     intro o t ho ht ξ Gr Γr Lr Q hk
     cases ho; cases ht
     refine WL.rn 1 [] [(26, vP b15 0)] ?_
     exact WL.fin (hk default)
    ·
     intro o t ho ht ξ Gr Γr Lr Q hk
     cases ho; cases ht
     refine WL.rn 1 [0] [(27, vI t13.bd)] ?_
     exact WL.fin (hk default)
    ·
     intro o t ho ht ξ Gr Γr Lr Q hk
     cases ho; cases ht
     refine WL.rh 1 [] (fun b16 => [(28, .slice (some ⟨b16, 0, none⟩) 1 1)]) (fun b16 => []) (fun b16 => [(b16, .cells #[vI t13.bd] 3 (0, 0))]) (fun b16 => ?_)
     exact WL.fin (hk (b16, default, default, default))
    ·
     intro o t ho ht ξ Gr Γr Lr Q hk
     cases ho; cases ht
     refine WL.tW (H' := []) (Row 1 (pl (aE .i64)) aA (av.at (ξ 3).1 1 (fun _ => ())) ([t13.bd] : List Int)) 0 (b := (ξ 3).1) (ob := .cells #[vI t13.bd] 3 (0, 0)) rfl [] [] rfl (fun w hb hψ => cl hb (fun _ _ => rfl) ⟨[], by kernel_rfl⟩ (nB rfl) (jj.no _ _)) rfl ?_
     refine WL.dW (G' := Gr) (A := A7) (B := (av.at (ξ 3).1 1 (fun _ => ()))) (xs := x6) (ys := ([t13.bd] : List Int)) (m := 1) (by_ := 8) (e := 3) (z := vI 0) (f := (pl (aE .i64))) (K := aA) (d := 29) 0 rfl rfl rfl rfl rfl rfl rfl (fun _ _ => rfl) (fun _ _ => rfl) (by kernel_rfl) rfl rfl rfl rfl (ar 2 rfl) (ar 0 rfl) h17 rfl (fun A19 => ?_)
     refine WL.less (Φ' := (([bC aA A19 (x6 ++ ([t13.bd] : List Int)), Row 1 (pl (aE .i64)) aA (av.at (ξ 3).1 1 (fun _ => ())) ([t13.bd] : List Int), Row 1 (pl (aE .u32)) aA (A00.s (Int.toNat x11)) t13.aD, bC aA A7 x6, bC aA A9 x8, bC aA (av.nil (fun _ => ())) ([] : List Int), bC aA (av.nil (fun _ => ())) ([] : List Int), Row 3 ag.au ag.aN A00 a1] ++ Γr) ++ aI)) (fun _ h => h) ?_
     exact WL.fin (hk (default, A19, default, default))
    ·
     intro o t ho ht ξ Gr Γr Lr Q hk
     cases ho; cases ht
     refine WL.rn 1 [] [(30, ae A9 x8.length)] ?_
     exact WL.fin (hk default)
    ·
     intro o t ho ht ξ Gr Γr Lr Q hk
     cases ho; cases ht
     refine WL.rn 1 [] [(31, vP b15 1)] ?_
     exact WL.fin (hk default)
    ·
     intro o t ho ht ξ Gr Γr Lr Q hk
     cases ho; cases ht
     refine WL.rn 1 [0] [(32, vI t13.bV)] ?_
     exact WL.fin (hk default)
    ·
     intro o t ho ht ξ Gr Γr Lr Q hk
     cases ho; cases ht
     refine WL.rh 1 [] (fun b20 => [(33, .slice (some ⟨b20, 0, none⟩) 1 1)]) (fun b20 => []) (fun b20 => [(b20, .cells #[vI t13.bV] 3 (0, 0))]) (fun b20 => ?_)
     exact WL.fin (hk (default, default, b20, default))
    ·
     intro o t ho ht ξ Gr Γr Lr Q hk
     cases ho; cases ht
     refine WL.tW (H' := []) (Row 1 (pl (aE .i64)) aA (av.at (ξ 8).2.2.1 1 (fun _ => ())) ([t13.bV] : List Int)) 0 (b := (ξ 8).2.2.1) (ob := .cells #[vI t13.bV] 3 (0, 0)) rfl [] [] rfl (fun w hb hψ => cl hb (fun _ _ => rfl) ⟨[], by kernel_rfl⟩ (nB rfl) (jj.no _ _)) rfl ?_
     refine WL.dW (G' := Gr) (A := A9) (B := (av.at (ξ 8).2.2.1 1 (fun _ => ()))) (xs := x8) (ys := ([t13.bV] : List Int)) (m := 1) (by_ := 8) (e := 3) (z := vI 0) (f := (pl (aE .i64))) (K := aA) (d := 34) 0 rfl rfl rfl rfl rfl rfl rfl (fun _ _ => rfl) (fun _ _ => rfl) (by kernel_rfl) rfl rfl rfl rfl (ar 5 rfl) (ar 0 rfl) h21 rfl (fun A23 => ?_)
     refine WL.less (Φ' := (([bC aA A23 (x8 ++ ([t13.bV] : List Int)), Row 1 (pl (aE .i64)) aA (av.at (ξ 8).2.2.1 1 (fun _ => ())) ([t13.bV] : List Int), bC aA (ξ 4).2.1 (x6 ++ ([t13.bd] : List Int)), Row 1 (pl (aE .i64)) aA (av.at (ξ 3).1 1 (fun _ => ())) ([t13.bd] : List Int), Row 1 (pl (aE .u32)) aA (A00.s (Int.toNat x11)) t13.aD, bC aA A7 x6, bC aA A9 x8, bC aA (av.nil (fun _ => ())) ([] : List Int), bC aA (av.nil (fun _ => ())) ([] : List Int), Row 3 ag.au ag.aN A00 a1] ++ Γr) ++ aI)) (fun _ h => h) ?_
     exact WL.fin (hk (default, default, default, A23))
    ·
     intro o t ho ht ξ Gr Γr Lr Q hk
     cases ho; cases ht
     refine WL.rn 1 [] [(5, ae (ξ 4).2.1 (x6 ++ ([t13.bd] : List Int)).length)] ?_
     exact WL.fin (hk default)
    ·
     intro o t ho ht ξ Gr Γr Lr Q hk
     cases ho; cases ht
     refine WL.rn 1 [] [(6, ae (ξ 9).2.2.2 (x8 ++ ([t13.bV] : List Int)).length)] ?_
     exact WL.fin (hk default)
    generalize (ξ 3).1 = b16
    generalize (ξ 4).2.1 = A19
    generalize (ξ 8).2.2.1 = b20
    generalize (ξ 9).2.2.2 = A23
    refine WP.less (Φ' := ([bC aA A19 (x6 ++ ([t13.bd] : List Int)), Row 1 (pl (aE .i64)) aA (av.at b16 1 (fun _ => ())) ([t13.bd] : List Int), bC aA A23 (x8 ++ ([t13.bV] : List Int)), Row 1 (pl (aE .i64)) aA (av.at b20 1 (fun _ => ())) ([t13.bV] : List Int), Row 1 (pl (aE .u32)) aA (A00.s (Int.toNat x11)) t13.aD, bC aA A7 x6, bC aA A9 x8, bC aA (av.nil (fun _ => ())) ([] : List Int), bC aA (av.nil (fun _ => ())) ([] : List Int), Row 3 ag.au ag.aN A00 a1] ++ aI)) (fun _ h => h) ?_
    refine WP.region (WL.rn 2 [] [(35, vB x10), (36, vB x10)] ?_)
    refine WL.join (σ := Bool × Bool) 4 (fun st => aZ.k2 x6 t13 x8 x11 (aZ.l3 a1 k a0 n) st.1 st.2 = some r) (fun st => [(0, vT a0), (4, vI 0), (5, ae A19 (x6 ++ ([t13.bd] : List Int)).length), (6, ae A23 (x8 ++ ([t13.bV] : List Int)).length), (7, vB x10), (9, vP b15 0), (19, ae A00 a1.length), (20, vI (a1.length : Int)), (21, vI x11), (22, vB (decide (x11 < (a1.length : Int)))), (23, dM A00 (Int.toNat x11 * 3)), (24, .agg #[vI t13.bd, vI t13.bV, ae (A00.s (Int.toNat x11)) t13.aD.length]), (26, vP b15 0), (27, vI t13.bd), (29, ae A19 (x6 ++ ([t13.bd] : List Int)).length), (31, vP b15 1), (32, vI t13.bV), (34, ae A23 (x8 ++ ([t13.bV] : List Int)).length), (35, vB x10), (36, vB st.1), (40, vB st.2)]) (fun st => Sat w Z [(b15, .cells #[vI t13.bd, vI t13.bV, ae (A00.s (Int.toNat x11)) t13.aD.length] 143 (0, 0))] [bL 1 3 (pl (aE .i64)) A19 (x6 ++ ([t13.bd] : List Int)), bL 1 3 (pl (aE .i64)) A23 (x8 ++ ([t13.bV] : List Int))] ([bC aA A19 (x6 ++ ([t13.bd] : List Int)), Row 1 (pl (aE .i64)) aA (av.at b16 1 (fun _ => ())) ([t13.bd] : List Int), bC aA A23 (x8 ++ ([t13.bV] : List Int)), Row 1 (pl (aE .i64)) aA (av.at b20 1 (fun _ => ())) ([t13.bV] : List Int), Row 1 (pl (aE .u32)) aA (A00.s (Int.toNat x11)) t13.aD, bC aA A7 x6, bC aA A9 x8, bC aA (av.nil (fun _ => ())) ([] : List Int), bC aA (av.nil (fun _ => ())) ([] : List Int), Row 3 ag.au ag.aN A00 a1] ++ aI)) (fun st hM => ?_) (fun K2 => ?_)
    ·
     obtain ⟨x27, x28⟩ := st
     replace hM : aZ.k2 x6 t13 x8 x11 (aZ.l3 a1 k a0 n) x27 x28 = some r := hM
     unfold aZ.k2 at hM
     try dsimp only
     refine WL.rn 1 [] [(7, vB x28)] ?_
     refine WP.done (WP.leave (WP.rn [] [(21, vI (i64 (x11 + 1))), (41, vI (i64 (x11 + 1)))] ?_))
     exact WP.cN [0, 4, 5, 6, 7, 19, 20, 21] ((x6 ++ ([t13.bd] : List Int)), A19, (x8 ++ ([t13.bV] : List Int)), A23, x28, i64 (x11 + 1)) hM rfl (fun _ h => ((h.pick [] rfl).aQ [0, 2, 7, 7, 9] rfl).dE [0, 1] [] 2 rfl (by decide) rfl)
    ·
     refine WL.sp 36 x10 (fun c24 => ?_) (fun c24 => ?_)
     ·replace hM := aG hM c24
      refine WL.rn 2 [0, 0, 0] [(37, vT a0), (38, .agg #[vI t13.bd, vI t13.bV, ae (A00.s (Int.toNat x11)) t13.aD.length])] ?_
      obtain ⟨r25, h26, hM⟩ := bind_some hM
      refine WL.cQ [] [] (oY k (A00.s (Int.toNat x11)) a0 t13.bd t13.bV t13.aD _ h26) (bE [4] rfl) (by kernel_rfl) rfl rfl ?_
      refine WL.rn 1 [] [(40, vB r25)] ?_
      exact WL.sub [0, 4, 5, 6, 7, 9, 19, 20, 21, 22, 23, 24, 26, 27, 29, 31, 32, 34, 35, 36, 40] rfl (WL.pick [0] rfl rfl (WL.dE [0, 1] [] 2 rfl (by decide) rfl (WL.aQ [0, 1, 2, 3, 4, 5, 6, 7, 7, 9] rfl (K2 (true, r25) hM))))
     ·replace hM := aH hM c24
      refine WL.rn 4 [] [(37, .tuple #[]), (38, .tuple #[]), (39, .tuple #[]), (40, vB false)] ?_
      exact WL.sub [0, 4, 5, 6, 7, 9, 19, 20, 21, 22, 23, 24, 26, 27, 29, 31, 32, 34, 35, 36, 40] rfl (WL.pick [0] rfl rfl (WL.dE [0, 1] [] 2 rfl (by decide) rfl (WL.aQ [0, 1, 2, 3, 4, 5, 6, 7, 7, 9] rfl (K2 (false, false) hM))))
   ·replace hM := aH hM c12
    refine WP.exit rfl (WP.seq (WP.seq (WP.region (WL.rn 3 [] [(44, vB (!x10))] ?_))))
    refine WL.join (σ := Bool) 3 (fun st => aZ.k5 k x8 st = some r) (fun st => [(4, vI 0), (6, ae A9 x8.length), (47, vB st)]) (fun st => Sat w Z [] [bL 1 3 (pl (aE .i64)) A9 x8] ([Row 1 (pl (aE .i64)) aA A7 x6, bC aA A7 x6, bC aA A9 x8, bC aA (av.nil (fun _ => ())) ([] : List Int), bC aA (av.nil (fun _ => ())) ([] : List Int), Row 3 ag.au ag.aN A00 a1] ++ aI)) (fun st hM => ?_) (fun K5 => ?_)
    ·
     obtain ⟨x32, rfl⟩ : ∃ y, y = st := ⟨st, rfl⟩
     replace hM : aZ.k5 k x8 x32 = some r := hM
     unfold aZ.k5 at hM
     try dsimp only
     refine WL.rn 1 [] [(48, vB x32)] ?_
     refine WL.join (σ := Bool) 3 (fun st => aZ.k4 st = some r) (fun st => [(4, vI 0), (51, vB st)]) (fun st => Sat w Z [] [] ([Row 1 (pl (aE .i64)) aA A9 x8, Row 1 (pl (aE .i64)) aA A7 x6, bC aA A7 x6, bC aA A9 x8, bC aA (av.nil (fun _ => ())) ([] : List Int), bC aA (av.nil (fun _ => ())) ([] : List Int), Row 3 ag.au ag.aN A00 a1] ++ aI)) (fun st hM => ?_) (fun K4 => ?_)
     ·
      obtain ⟨x36, rfl⟩ : ∃ y, y = st := ⟨st, rfl⟩
      replace hM : aZ.k4 x36 = some r := hM
      unfold aZ.k4 at hM
      try dsimp only
      refine WP.done ?_
      refine WP.cond x36 rfl rfl (fun c37 => ?_) (fun c37 => ?_)
      ·replace hM := aG hM c37
       refine WP.seq (WP.rn [] [(4, vI 210)] ?_)
       obtain rfl := oI hM
       exact WP.dI [] [] [6]
      ·replace hM := aH hM c37
       refine WP.skip (WP.seq (WP.rn [] [(4, vI 0)] ?_))
       obtain rfl := oI hM
       exact WP.dI [] [] [6]
     ·
      refine WL.sp 48 x32 (fun c33 => ?_) (fun c33 => ?_)
      ·replace hM := aG hM c33
       refine WL.rn 3 [] [(51, vB true)] ?_
       refine WL.dD (G' := []) (m := 1) (e := 3) (f := (pl (aE .i64))) (K := aA) (A := A9) (xs := x8) 0 2 rfl rfl (fun _ _ => rfl) rfl ?_
       exact WL.sub [4, 51] rfl (WL.pick [] rfl rfl (WL.aQ [0, 1, 2, 3, 4, 4, 6] rfl (K4 true hM)))
      ·replace hM := aH hM c33
       refine WL.rn 1 [] [(49, ae A9 x8.length)] ?_
       refine WL.dD (G' := []) (m := 1) (e := 3) (f := (pl (aE .i64))) (K := aA) (A := A9) (xs := x8) 0 2 rfl rfl (fun _ _ => rfl) rfl ?_
       obtain ⟨r34, h35, hM⟩ := bind_some hM
       refine WL.cQ [] [] (iD k A9 x8 _ h35) (bE [0] rfl) (by kernel_rfl) rfl rfl ?_
       refine WL.rn 1 [] [(51, vB r34)] ?_
       exact WL.sub [4, 51] rfl (WL.pick [] rfl rfl (WL.aQ [0, 1, 2, 3, 4, 4, 6] rfl (K4 r34 hM)))
    ·
     refine WL.sp 44 (!x10) (fun c29 => ?_) (fun c29 => ?_)
     ·replace hM := aG hM c29
      refine WL.rn 3 [] [(47, vB true)] ?_
      refine WL.dD (G' := [bL 1 3 (pl (aE .i64)) A9 x8]) (m := 1) (e := 3) (f := (pl (aE .i64))) (K := aA) (A := A7) (xs := x6) 0 0 rfl rfl (fun _ _ => rfl) rfl ?_
      exact WL.sub [4, 6, 47] rfl (WL.pick [] rfl rfl (WL.dE [0] [] 1 rfl (by decide) rfl (WL.aQ [0, 1, 2, 3, 3, 5] rfl (K5 true hM))))
     ·replace hM := aH hM c29
      refine WL.rn 1 [] [(45, ae A7 x6.length)] ?_
      refine WL.dD (G' := [bL 1 3 (pl (aE .i64)) A9 x8]) (m := 1) (e := 3) (f := (pl (aE .i64))) (K := aA) (A := A7) (xs := x6) 0 0 rfl rfl (fun _ _ => rfl) rfl ?_
      obtain ⟨r30, h31, hM⟩ := bind_some hM
      refine WL.cQ [] [] (iD k A7 x6 _ h31) (bE [0] rfl) (by kernel_rfl) rfl rfl ?_
      refine WL.rn 1 [] [(47, vB r30)] ?_
      exact WL.sub [4, 6, 47] rfl (WL.pick [] rfl rfl (WL.dE [0] [] 1 rfl (by decide) rfl (WL.aQ [0, 1, 2, 3, 3, 5] rfl (K5 r30 hM))))
 ·
  refine WL.sp 13 (decide ((a1.length : Int) > 256)) (fun c1 => ?_) (fun c1 => ?_)
  ·replace hM := aG hM c1
   refine WL.rn 3 [] [(16, vB true)] ?_
   exact WL.sub [0, 1, 4, 16] rfl (WL.pick [] rfl rfl (WL.aQ [0] rfl (K1 true hM)))
  ·replace hM := aH hM c1
   refine WL.rn 1 [] [(14, ae A00 a1.length)] ?_
   obtain ⟨r2, h3, hM⟩ := bind_some hM
   refine WL.cQ [] [] (pd k A00 a1 _ h3) (bE [0] rfl) (by kernel_rfl) rfl rfl ?_
   refine WL.rn 1 [] [(16, vB r2)] ?_
   exact WL.sub [0, 1, 4, 16] rfl (WL.pick [] rfl rfl (WL.aQ [0] rfl (K1 r2 hM)))
def eM.f (k : Nat) (a0 : Int) (a0_1 : Int) (a0_2 : Int) (a0_3 : (List aa)) (a0_4 : (List Bool)) (a0_5 : ba) (a0_6 : bj) (a0_7 : Int) (a0_8 : (List ag)) (a0_9 : (List aj)) (a0_10 : Int) (a0_11 : Bool) : Option (Int) :=
 (bP.f k a0 a0_1 a0_2 a0_3 a0_4 a0_5 a0_6 a0_7 a0_8 a0_9 a0_10 a0_11).bind fun r2 =>
 (ck.f k ([1] : List Int) (r2.aX.length : Int)).bind fun r6 =>
 (cc.f k r2.aX r2.bz).bind fun r9 =>
 (cW.f k r2.aK r6 r2.bt).bind fun (r12, r13) =>
 (fE.f r2.bz.Room r2.cj).bind fun r17 =>
 (bZ.f r2.aO).bind fun r20 =>
 (da.f k r2.a7).bind fun r23 =>
 (aZ.f k r2.Ip r2.cm).bind fun r26 =>
 bif ((((((!(((((r23 && (r9 == 0)) && (r13 == 0)) && (r17 == 0)) && (r20 == 0)) && (r26 == 0))) || (r2.aO.bx != r2.bx)) || (r2.aO.Ip != r2.Ip)) || (r2.aK == 0)) || (decide (r2.cT < 68))) || (decide (r2.cT > 65535))) then
  some 240
 else
  some 0
theorem kW (k : Nat) (A00 : av (av Unit)) (A01 : av Unit) (A02 : av (av Unit)) (A03 : av Unit) (a0 : Int) (a0_1 : Int) (a0_2 : Int) (a0_3 : (List aa)) (a0_4 : (List Bool)) (a0_5 : ba) (a0_6 : bj) (a0_7 : Int) (a0_8 : (List ag)) (a0_9 : (List aj)) (a0_10 : Int) (a0_11 : Bool) (r : Int) (h : eM.f k a0 a0_1 a0_2 a0_3 a0_4 a0_5 a0_6 a0_7 a0_8 a0_9 a0_10 a0_11 = some r) : eT Tryz.prog 15 #[.agg #[vU a0, vU a0_1, vT a0_2, ae A00 a0_3.length, ae A01 a0_4.length, vI a0_5.Room, vI a0_5.aY, vI a0_5.a8, vI a0_5.aR, vU a0_6.bx, vT a0_6.Ip, vI a0_6.Room, vI a0_6.aY, vI a0_6.cp, vI a0_6.br, vI a0_6.bn, vI a0_7, ae A02 a0_8.length, ae A03 a0_9.length, vI a0_10, vB a0_11]] [] ([Row 3 aa.au aa.aN A00 a0_3, Row 1 (pl ca) aA A01 a0_4, Row 3 ag.au ag.aN A02 a0_8, Row 3 (pl aj.enc) aA A03 a0_9] ++ aI) (fun x : (Option Addr) => .tuple #[.pointer x, vI r]) (fun x => []) (fun _ => []) (fun x => [] ++ ([Row 3 aa.au aa.aN A00 a0_3, Row 1 (pl ca) aA A01 a0_4, Row 3 ag.au ag.aN A02 a0_8, Row 3 (pl aj.enc) aA A03 a0_9] ++ aI)) := by
 intro w Z hS
 refine bh (args := [.agg #[vU a0, vU a0_1, vT a0_2, ae A00 a0_3.length, ae A01 a0_4.length, vI a0_5.Room, vI a0_5.aY, vI a0_5.a8, vI a0_5.aR, vU a0_6.bx, vT a0_6.Ip, vI a0_6.Room, vI a0_6.aY, vI a0_6.cp, vI a0_6.br, vI a0_6.bn, vI a0_7, ae A02 a0_8.length, ae A03 a0_9.length, vI a0_10, vB a0_11]]) (L := [(0, .agg #[vU a0, vU a0_1, vT a0_2, ae A00 a0_3.length, ae A01 a0_4.length, vI a0_5.Room, vI a0_5.aY, vI a0_5.a8, vI a0_5.aR, vU a0_6.bx, vT a0_6.Ip, vI a0_6.Room, vI a0_6.aY, vI a0_6.cp, vI a0_6.br, vI a0_6.bn, vI a0_7, ae A02 a0_8.length, ae A03 a0_9.length, vI a0_10, vB a0_11])]) (N := 125) Tryz.func15 hS ?_
 have hM := h
 clear h hS
 unfold eM.f at hM
 refine WP.seq ?_
 refine WP.rh [] (fun b1 => [(1, vP b1 0), (2, .pointer none), (3, vI 0)]) (fun b1 => []) (fun b1 => [(b1, .cells #[vU a0, vU a0_1, vT a0_2, ae A00 a0_3.length, ae A01 a0_4.length, vI a0_5.Room, vI a0_5.aY, vI a0_5.a8, vI a0_5.aR, vU a0_6.bx, vT a0_6.Ip, vI a0_6.Room, vI a0_6.aY, vI a0_6.cp, vI a0_6.br, vI a0_6.bn, vI a0_7, ae A02 a0_8.length, ae A03 a0_9.length, vI a0_10, vB a0_11] 60 (0, 0))]) (fun b1 => ?_)
 refine WP.seq (WP.region (WL.rn 1 [0, 0, 0, 0, 0, 0, 0, 0, 0, 0, 0, 0, 0, 0, 0, 0, 0, 0, 0, 0, 0] [(17, .agg #[vU a0, vU a0_1, vT a0_2, ae A00 a0_3.length, ae A01 a0_4.length, vI a0_5.Room, vI a0_5.aY, vI a0_5.a8, vI a0_5.aR, vU a0_6.bx, vT a0_6.Ip, vI a0_6.Room, vI a0_6.aY, vI a0_6.cp, vI a0_6.br, vI a0_6.bn, vI a0_7, ae A02 a0_8.length, ae A03 a0_9.length, vI a0_10, vB a0_11])] ?_))
 obtain ⟨r2, h3, hM⟩ := bind_some hM
 refine WL.c0 (F0 := [Row 3 aa.au aa.aN A00 a0_3, Row 1 (pl ca) aA A01 a0_4, Row 3 ag.au ag.aN A02 a0_8, Row 3 (pl aj.enc) aA A03 a0_9]) [] [] [false] (fun _ => _) [0, 1, 2, 3] rfl (mI k A00 A01 A02 A03 a0 a0_1 a0_2 a0_3 a0_4 a0_5 a0_6 a0_7 a0_8 a0_9 a0_10 a0_11 _ h3) rfl rfl (by kernel_rfl) rfl (fun _ => rfl) (fun A4 => ?_)
 refine WL.rh 1 [0, 0, 0, 0, 0, 0, 0, 0, 0, 0, 0, 0, 0, 0, 0, 0, 0, 0, 0, 0, 0] (fun _ => []) (fun _ => [(0, 0, [vU r2.aK, vU r2.bx, vT r2.Ip, ae A4.1 r2.aX.length, ae A4.2.1 r2.bt.length, vI r2.bz.Room, vI r2.bz.aY, vI r2.bz.a8, vI r2.bz.aR, vU r2.aO.bx, vT r2.aO.Ip, vI r2.aO.Room, vI r2.aO.aY, vI r2.aO.cp, vI r2.aO.br, vI r2.aO.bn, vI r2.cj, ae A4.2.2.1 r2.cm.length, ae A4.2.2.2 r2.a7.length, vI r2.cT, vB r2.bu])]) (fun _ => []) (fun _ => ?_)
 refine WP.done (WP.seq (WP.region ?_))
 refine WL.rh 4 [0] (fun b5 => [(19, .slice (some ⟨b5, 0, none⟩) 1 1), (22, vI (r2.aX.length : Int))]) (fun b5 => []) (fun b5 => [(b5, .cells #[vI 1] 3 (0, 0))]) (fun b5 => ?_)
 refine WL.tW (H' := [(b1, .cells #[vU r2.aK, vU r2.bx, vT r2.Ip, ae A4.1 r2.aX.length, ae A4.2.1 r2.bt.length, vI r2.bz.Room, vI r2.bz.aY, vI r2.bz.a8, vI r2.bz.aR, vU r2.aO.bx, vT r2.aO.Ip, vI r2.aO.Room, vI r2.aO.aY, vI r2.aO.cp, vI r2.aO.br, vI r2.aO.bn, vI r2.cj, ae A4.2.2.1 r2.cm.length, ae A4.2.2.2 r2.a7.length, vI r2.cT, vB r2.bu] 60 (0, 0))]) (Row 1 (pl (aE .i64)) aA (av.at b5 1 (fun _ => ())) ([1] : List Int)) 1 (b := b5) (ob := .cells #[vI 1] 3 (0, 0)) rfl [] [] rfl (fun w hb hψ => cl hb (fun _ _ => rfl) ⟨[], by kernel_rfl⟩ (nB rfl) (jj.no _ _)) (by kernel_rfl) ?_
 obtain ⟨r6, h7, hM⟩ := bind_some hM
 refine WL.c0 (F0 := [Row 1 (pl (aE .i64)) aA (av.at b5 1 (fun _ => ())) ([1] : List Int)]) [] [] [false] (fun _ => _) [0] rfl (iF k (av.at b5 1 (fun _ => ())) ([1] : List Int) (r2.aX.length : Int) _ h7) rfl rfl (by kernel_rfl) rfl (fun _ => rfl) (fun A8 => ?_)
 refine WL.rn 1 [] [(4, ae A8 r6.length)] ?_
 refine WP.done (WP.seq (WP.region (WL.rn 4 [0, 0, 0, 0, 0] [(26, ae A4.1 r2.aX.length), (28, ba.v r2.bz)] ?_)))
 obtain ⟨r9, h10, hM⟩ := bind_some hM
 refine WL.c0 (F0 := [Row 3 aa.au aa.aN A4.1 r2.aX]) [] [] [false] (fun _ => _) [2] rfl (ot k A4.1 r2.aX r2.bz _ h10) rfl rfl (by kernel_rfl) rfl (fun _ => rfl) (fun A11 => ?_)
 refine WL.rn 5 [] [(5, .pointer A11), (6, vI r9)] ?_
 refine WP.done (WP.seq (WP.region (WL.rn 5 [0, 0] [(34, vU r2.aK), (35, ae A8 r6.length), (37, ae A4.2.1 r2.bt.length)] ?_)))
 obtain ⟨⟨r12, r13⟩, h14, hM⟩ := bind_some hM
 dsimp only at hM
 refine WL.c0 (F0 := [Row 1 (pl (aE .i64)) aA A8 r6, Row 1 (pl ca) aA A4.2.1 r2.bt]) [] [] [false] (fun _ => _) [0, 3] rfl (pJ k A8 A4.2.1 r2.aK r6 r2.bt _ h14) rfl rfl (by kernel_rfl) rfl (fun _ => rfl) (fun A15 => ?_)
 refine WL.rh 6 [1, 1, 1] (fun b16 => [(7, vP b16 0), (8, vI r13)]) (fun b16 => []) (fun b16 => [(b16, .cells #[vU r12.aK, ae A15 r12.aX.length, vI r12.vq] 101 (0, 0))]) (fun b16 => ?_)
 refine WP.done (WP.seq (WP.region (WL.rn 5 [0, 0] [(44, vI r2.bz.Room), (46, vI r2.cj)] ?_)))
 obtain ⟨r17, h18, hM⟩ := bind_some hM
 refine WL.c0 (F0 := []) [] [] [false, false] (fun _ => _) [] rfl (nq r2.bz.Room r2.cj _ h18) rfl rfl (by kernel_rfl) rfl (fun _ => rfl) (fun A19 => ?_)
 refine WL.rn 5 [] [(9, .pointer A19), (10, vI r17)] ?_
 refine WP.done (WP.seq (WP.region (WL.rn 2 [0, 0, 0, 0, 0, 0, 0] [(52, bj.v r2.aO)] ?_)))
 obtain ⟨r20, h21, hM⟩ := bind_some hM
 refine WL.c0 (F0 := []) [] [] [false, false] (fun _ => _) [] rfl (o5 r2.aO _ h21) rfl rfl (by kernel_rfl) rfl (fun _ => rfl) (fun A22 => ?_)
 refine WL.rn 5 [] [(11, .pointer A22), (12, vI r20)] ?_
 refine WP.done (WP.seq (WP.region (WL.rn 2 [0] [(58, ae A4.2.2.2 r2.a7.length)] ?_)))
 obtain ⟨r23, h24, hM⟩ := bind_some hM
 refine WL.c0 (F0 := [Row 3 (pl aj.enc) aA A4.2.2.2 r2.a7]) [] [] [false, false] (fun _ => _) [6] rfl (oX k A4.2.2.2 r2.a7 _ h24) rfl rfl (by kernel_rfl) rfl (fun _ => rfl) (fun A25 => ?_)
 refine WL.rn 5 [] [(13, .pointer A25), (14, vB r23)] ?_
 refine WP.done (WP.seq (WP.seq (WP.region (WL.rn 8 [0, 0] [(62, vI r9), (63, vI r13), (64, vI r17), (65, vI r20), (67, vT r2.Ip), (69, ae A4.2.2.1 r2.cm.length)] ?_))))
 obtain ⟨r26, h27, hM⟩ := bind_some hM
 refine WL.cQ [] [] (oZ k A4.2.2.1 r2.Ip r2.cm _ h27) (bE [5] rfl) (by kernel_rfl) rfl rfl ?_
 refine WL.rh 3 [] (fun b28 => [(71, .slice (some ⟨b28, 0, none⟩) 5 5), (72, vI 5), (73, vI 0)]) (fun b28 => []) (fun b28 => [(b28, .cells #[vI r9, vI r13, vI r17, vI r20, vI r26] 24 (0, 0))]) (fun b28 => ?_)
 refine WP.done (WP.block (WP.BD 40 ?_))
 refine WP.seq (WP.rn [] [(74, vB true)] ?_)
 refine WP.seq (WP.yes rfl rfl (WP.skip (WP.seq (WP.block (WP.seq ?_)))))
 refine WP.rn [2] [(16, vI r9), (75, vP b28 0), (76, vI r9)] ?_
 refine WP.region (WL.rn 2 [] [(77, vB r23), (78, vB r23)] ?_)
 refine WL.bo 78 r23 3 [] [] (fun b' => [(81, vB (b' && (r9 == 0)))]) ?_
 refine WL.rn 1 [] [(14, vB (r23 && (r9 == 0)))] ?_
 refine WP.done (WP.leave (WP.rn [] [(73, vI 1), (82, vI 1)] ?_))
 refine WP.round ?_
 refine WP.seq (WP.rn [] [(74, vB true)] ?_)
 refine WP.seq (WP.yes rfl rfl (WP.skip (WP.seq (WP.block (WP.seq ?_)))))
 refine WP.rn [2] [(16, vI r13), (75, vP b28 1), (76, vI r13)] ?_
 refine WP.region (WL.rn 2 [] [(77, vB (r23 && (r9 == 0))), (78, vB (r23 && (r9 == 0)))] ?_)
 refine WL.bo 78 (r23 && (r9 == 0)) 3 [] [] (fun b' => [(81, vB (b' && (r13 == 0)))]) ?_
 refine WL.rn 1 [] [(14, vB ((r23 && (r9 == 0)) && (r13 == 0)))] ?_
 refine WP.done (WP.leave (WP.rn [] [(73, vI 2), (82, vI 2)] ?_))
 refine WP.round ?_
 refine WP.seq (WP.rn [] [(74, vB true)] ?_)
 refine WP.seq (WP.yes rfl rfl (WP.skip (WP.seq (WP.block (WP.seq ?_)))))
 refine WP.rn [2] [(16, vI r17), (75, vP b28 2), (76, vI r17)] ?_
 refine WP.region (WL.rn 2 [] [(77, vB ((r23 && (r9 == 0)) && (r13 == 0))), (78, vB ((r23 && (r9 == 0)) && (r13 == 0)))] ?_)
 refine WL.bo 78 ((r23 && (r9 == 0)) && (r13 == 0)) 3 [] [] (fun b' => [(81, vB (b' && (r17 == 0)))]) ?_
 refine WL.rn 1 [] [(14, vB (((r23 && (r9 == 0)) && (r13 == 0)) && (r17 == 0)))] ?_
 refine WP.done (WP.leave (WP.rn [] [(73, vI 3), (82, vI 3)] ?_))
 refine WP.round ?_
 refine WP.seq (WP.rn [] [(74, vB true)] ?_)
 refine WP.seq (WP.yes rfl rfl (WP.skip (WP.seq (WP.block (WP.seq ?_)))))
 refine WP.rn [2] [(16, vI r20), (75, vP b28 3), (76, vI r20)] ?_
 refine WP.region (WL.rn 2 [] [(77, vB (((r23 && (r9 == 0)) && (r13 == 0)) && (r17 == 0))), (78, vB (((r23 && (r9 == 0)) && (r13 == 0)) && (r17 == 0)))] ?_)
 refine WL.bo 78 (((r23 && (r9 == 0)) && (r13 == 0)) && (r17 == 0)) 3 [] [] (fun b' => [(81, vB (b' && (r20 == 0)))]) ?_
 refine WL.rn 1 [] [(14, vB ((((r23 && (r9 == 0)) && (r13 == 0)) && (r17 == 0)) && (r20 == 0)))] ?_
 refine WP.done (WP.leave (WP.rn [] [(73, vI 4), (82, vI 4)] ?_))
 refine WP.round ?_
 refine WP.seq (WP.rn [] [(74, vB true)] ?_)
 refine WP.seq (WP.yes rfl rfl (WP.skip (WP.seq (WP.block (WP.seq ?_)))))
 refine WP.rn [2] [(16, vI r26), (75, vP b28 4), (76, vI r26)] ?_
 refine WP.region (WL.rn 2 [] [(77, vB ((((r23 && (r9 == 0)) && (r13 == 0)) && (r17 == 0)) && (r20 == 0))), (78, vB ((((r23 && (r9 == 0)) && (r13 == 0)) && (r17 == 0)) && (r20 == 0)))] ?_)
 refine WL.bo 78 ((((r23 && (r9 == 0)) && (r13 == 0)) && (r17 == 0)) && (r20 == 0)) 3 [] [] (fun b' => [(81, vB (b' && (r26 == 0)))]) ?_
 refine WL.rn 1 [] [(14, vB (((((r23 && (r9 == 0)) && (r13 == 0)) && (r17 == 0)) && (r20 == 0)) && (r26 == 0)))] ?_
 refine WP.done (WP.leave (WP.rn [] [(73, vI 5), (82, vI 5)] ?_))
 refine WP.round ?_
 refine WP.seq (WP.rn [] [(74, vB false)] ?_)
 refine WP.seq (WP.no rfl rfl (WP.exit rfl (WP.seq (WP.seq (WP.region (WL.rn 3 [] [(85, vB (!(((((r23 && (r9 == 0)) && (r13 == 0)) && (r17 == 0)) && (r20 == 0)) && (r26 == 0))))] ?_))))))
 refine WL.bo 85 (!(((((r23 && (r9 == 0)) && (r13 == 0)) && (r17 == 0)) && (r20 == 0)) && (r26 == 0))) 7 [] [0, 0] (fun b' => [(92, vB (b' || (r2.aO.bx != r2.bx)))]) ?_
 refine WL.rn 1 [] [(93, vB ((!(((((r23 && (r9 == 0)) && (r13 == 0)) && (r17 == 0)) && (r20 == 0)) && (r26 == 0))) || (r2.aO.bx != r2.bx)))] ?_
 refine WL.bo 93 ((!(((((r23 && (r9 == 0)) && (r13 == 0)) && (r17 == 0)) && (r20 == 0)) && (r26 == 0))) || (r2.aO.bx != r2.bx)) 7 [] [0, 0] (fun b' => [(100, vB (b' || (r2.aO.Ip != r2.Ip)))]) ?_
 refine WL.rn 1 [] [(101, vB (((!(((((r23 && (r9 == 0)) && (r13 == 0)) && (r17 == 0)) && (r20 == 0)) && (r26 == 0))) || (r2.aO.bx != r2.bx)) || (r2.aO.Ip != r2.Ip)))] ?_
 refine WL.bo 101 (((!(((((r23 && (r9 == 0)) && (r13 == 0)) && (r17 == 0)) && (r20 == 0)) && (r26 == 0))) || (r2.aO.bx != r2.bx)) || (r2.aO.Ip != r2.Ip)) 4 [] [0] (fun b' => [(105, vB (b' || (r2.aK == 0)))]) ?_
 refine WL.rn 1 [] [(106, vB ((((!(((((r23 && (r9 == 0)) && (r13 == 0)) && (r17 == 0)) && (r20 == 0)) && (r26 == 0))) || (r2.aO.bx != r2.bx)) || (r2.aO.Ip != r2.Ip)) || (r2.aK == 0)))] ?_
 refine WL.bo 106 ((((!(((((r23 && (r9 == 0)) && (r13 == 0)) && (r17 == 0)) && (r20 == 0)) && (r26 == 0))) || (r2.aO.bx != r2.bx)) || (r2.aO.Ip != r2.Ip)) || (r2.aK == 0)) 4 [] [0] (fun b' => [(110, vB (b' || (decide (r2.cT < 68))))]) ?_
 refine WL.rn 1 [] [(111, vB (((((!(((((r23 && (r9 == 0)) && (r13 == 0)) && (r17 == 0)) && (r20 == 0)) && (r26 == 0))) || (r2.aO.bx != r2.bx)) || (r2.aO.Ip != r2.Ip)) || (r2.aK == 0)) || (decide (r2.cT < 68))))] ?_
 refine WL.bo 111 (((((!(((((r23 && (r9 == 0)) && (r13 == 0)) && (r17 == 0)) && (r20 == 0)) && (r26 == 0))) || (r2.aO.bx != r2.bx)) || (r2.aO.Ip != r2.Ip)) || (r2.aK == 0)) || (decide (r2.cT < 68))) 4 [] [0] (fun b' => [(115, vB (b' || (decide (r2.cT > 65535))))]) ?_
 refine WP.done (WP.kp [true, true, false] ?_)
 refine WP.cond ((((((!(((((r23 && (r9 == 0)) && (r13 == 0)) && (r17 == 0)) && (r20 == 0)) && (r26 == 0))) || (r2.aO.bx != r2.bx)) || (r2.aO.Ip != r2.Ip)) || (r2.aK == 0)) || (decide (r2.cT < 68))) || (decide (r2.cT > 65535))) rfl rfl (fun c34 => ?_) (fun c34 => ?_)
 ·replace hM := aG hM c34
  refine WP.seq (WP.rn [] [(2, .pointer none), (3, vI 240)] ?_)
  obtain rfl := oI hM
  exact WP.ret [] [] (.tuple #[.pointer none, vI 240]) (by kernel_rfl) (fun w' hw => ⟨(none : Option Addr), rfl, (hw.pick [] rfl).less (aT [] [7, 8, 9, 10] rfl rfl)⟩)
 ·replace hM := aH hM c34
  refine WP.skip (WP.seq ?_)
  refine WP.rh [0, 0, 0, 0, 0, 0, 0, 0, 0, 0, 0, 0, 0, 0, 0, 0, 0, 0, 0, 0, 0, 1, 1, 1] (fun b35 => [(2, vP b35 0), (3, vI 0)]) (fun b35 => []) (fun b35 => [(b35, .cells #[.pointer A22, .pointer A19, .pointer A25, vU r2.aK, vU r2.bx, vT r2.Ip, ae A4.1 r2.aX.length, ae A4.2.1 r2.bt.length, vI r2.bz.Room, vI r2.bz.aY, vI r2.bz.a8, vI r2.bz.aR, vU r2.aO.bx, vT r2.aO.Ip, vI r2.aO.Room, vI r2.aO.aY, vI r2.aO.cp, vI r2.aO.br, vI r2.aO.bn, vI r2.cj, ae A4.2.2.1 r2.cm.length, ae A4.2.2.2 r2.a7.length, vI r2.cT, vB r2.bu, .pointer A11, vU r12.aK, ae A15 r12.aX.length, vI r12.vq, vI 0, vI 0, vI 0, vI 0, vI 0, vI 0, vI 0, vI 0, vI 0, vI 0, vI 0, vI 0, vI 0, .slice none 0 0] 119 (0, 0))]) (fun b35 => ?_)
  refine WP.kp [false, false, true] ?_
  obtain rfl := oI hM
  exact WP.ret [] [] (.tuple #[vP b35 0, vI 0]) (by kernel_rfl) (fun w' hw => ⟨(some ⟨b35, 0, none⟩), rfl, (hw.pick [] rfl).less (aT [] [7, 8, 9, 10] rfl rfl)⟩)
def bm.k2 (x29 : Bool) : Option (Int) :=
 bif x29 then
  some 270
 else
  some 0
def bm.k3 (x17 : (aS Bool)) (a0 : (List ah)) (x27 : Bool) : Option (Int) :=
 bif x27 then
  bm.k2 true
 else
  bm.k2 (decide ((aS.len x17) < (a0.length : Int)))
def bm.l1 (a0 : (List ah)) (k : Nat) : Nat → Int → Int → (aS Bool) → (aS Bool) → (aS Bool) → Option (Int)
 | 0, _, _, _, _, _ => none
 | n + 1, x13, x14, x15, x16, x17 =>
  bif decide (x14 < (a0.length : Int)) then
   (cI a0.length a0 x14).bind fun t19 =>
   (eM.f k t19.aK t19.bx t19.Ip t19.aX t19.bt t19.bz t19.aO t19.cj t19.cm t19.a7 t19.cT t19.bu).bind fun r22 =>
   bif (r22 != 0) then
    some r22
   else
    bm.l1 a0 k n x13 (i64 (x14 + 1)) (aS.set x15 t19.Ip true) (aS.set x16 t19.bx true) (aS.set x17 t19.aK true)
  else
   bif decide ((aS.len x15) < (a0.length : Int)) then
    bm.k3 x17 a0 true
   else
    bm.k3 x17 a0 (decide ((aS.len x16) < (a0.length : Int)))
def bm.f (k : Nat) (a0 : (List ah)) : Option (Int) :=
 bif decide ((a0.length : Int) > 16) then
  some 2
 else
  bm.l1 a0 k k 0 0 (aS.nil : aS Bool) (aS.nil : aS Bool) (aS.nil : aS Bool)
theorem jb (k : Nat) (A00 : av ((av (av Unit)) × (av Unit) × (av (av Unit)) × (av Unit))) (a0 : (List ah)) (r : Int) (h : bm.f k a0 = some r) : Pure Tryz.prog ([Row 21 ah.au ah.aN A00 a0] ++ aI) 13 #[ae A00 a0.length] (vI r) := by
 intro w Z hS
 refine bh (args := [ae A00 a0.length]) (L := [(0, ae A00 a0.length)]) (N := 59) Tryz.func13 hS ?_
 have hM := h
 clear h hS
 unfold bm.f at hM
 refine WP.seq (WP.rn [] [(2, vI 0)] ?_)
 refine WP.seq (WP.seq (WP.rn [] [(12, vB (decide ((a0.length : Int) > 16)))] ?_))
 refine WP.cond (decide ((a0.length : Int) > 16)) rfl rfl (fun c1 => ?_) (fun c1 => ?_)
 ·replace hM := aG hM c1
  refine WP.seq (WP.rn [] [(2, vI 2)] ?_)
  obtain rfl := oI hM
  exact WP.dI [] [] [0]
 ·replace hM := aH hM c1
  refine WP.skip (WP.seq ?_)
  refine WP.rh [] (fun b2 => [(3, .map (some b2)), (4, .map (some (b2 + 1))), (5, .map (some (b2 + 2)))]) (fun b2 => []) (fun b2 => [(b2, .map (eo .u32 Value.bool (aS.nil : aS Bool)) (aS.nil : aS Bool).c), ((b2 + 1), .map (eo .u64 Value.bool (aS.nil : aS Bool)) (aS.nil : aS Bool).c), ((b2 + 2), .map (eo .u64 Value.bool (aS.nil : aS Bool)) (aS.nil : aS Bool).c)]) (fun b2 => ?_)
  refine WP.seq (WP.seq (WP.rn [] [(16, ae A00 a0.length), (17, vI (a0.length : Int)), (18, vI 0)] ?_))
  refine WP.block (WP.sub [0, 2, 3, 4, 5, 16, 17, 18] (L' := [(0, ae A00 a0.length), (2, vI 0), (3, .map (some b2)), (4, .map (some (b2 + 1))), (5, .map (some (b2 + 2))), (16, ae A00 a0.length), (17, vI (a0.length : Int)), (18, vI 0)]) rfl ?_)
  refine WP.aQ [0] (F' := [Row 21 ah.au ah.aN A00 a0]) rfl ?_
  refine WP.loop (σ := Int × Int × (aS Bool) × (aS Bool) × (aS Bool)) (fun n st => bm.l1 a0 k n st.1 st.2.1 st.2.2.1 st.2.2.2.1 st.2.2.2.2) r (fun st => [(0, ae A00 a0.length), (2, vI st.1), (3, .map (some b2)), (4, .map (some (b2 + 1))), (5, .map (some (b2 + 2))), (16, ae A00 a0.length), (17, vI (a0.length : Int)), (18, vI st.2.1)]) (fun st => Sat w Z [(b2, .map (eo .u32 Value.bool st.2.2.1) st.2.2.1.c), ((b2 + 1), .map (eo .u64 Value.bool st.2.2.2.1) st.2.2.2.1.c), ((b2 + 2), .map (eo .u64 Value.bool st.2.2.2.2) st.2.2.2.2.c)] [] ([Row 21 ah.au ah.aN A00 a0] ++ aI)) (st := (0, 0, (aS.nil : aS Bool), (aS.nil : aS Bool), (aS.nil : aS Bool))) (fun n st hM => ?_) hM
  rcases n with _ | n
  ·exact nomatch (show (none : Option _) = some r from hM)
  obtain ⟨x13, x14, x15, x16, x17⟩ := st
  replace hM : bm.l1 a0 k (n + 1) x13 x14 x15 x16 x17 = some r := hM
  rw [bm.l1] at hM
  try dsimp only
  refine WP.seq (WP.rn [] [(19, vB (decide (x14 < (a0.length : Int))))] ?_)
  refine WP.seq ?_
  refine WP.cond (decide (x14 < (a0.length : Int))) rfl rfl (fun c18 => ?_) (fun c18 => ?_)
  ·replace hM := aG hM c18
   refine WP.skip (WP.seq (WP.block (WP.seq (WP.region ?_))))
   obtain ⟨t19, h20, hM⟩ := bind_some hM
   refine WL.cd (φ := Row 21 ah.au ah.aN A00 a0) (ar 0 rfl) (fun w hR => aJ (A := A00) (xs := a0) (i := x14) (k := .i64) (e := 60) (m := 21) rfl rfl h20 rfl rfl hR) (by kernel_rfl) rfl rfl ?_
   refine WL.cd (φ := Row 21 ah.au ah.aN A00 a0) (ar 0 rfl) (fun w hR => b4 (A := A00) (xs := a0) (i := x14) (j := 0) (n := 21) (vs := [vU t19.aK, vU t19.bx, vT t19.Ip, ae ((A00.s (Int.toNat x14)).1) t19.aX.length, ae ((A00.s (Int.toNat x14)).2.1) t19.bt.length, vI t19.bz.Room, vI t19.bz.aY, vI t19.bz.a8, vI t19.bz.aR, vU t19.aO.bx, vT t19.aO.Ip, vI t19.aO.Room, vI t19.aO.aY, vI t19.aO.cp, vI t19.aO.br, vI t19.aO.bn, vI t19.cj, ae ((A00.s (Int.toNat x14)).2.2.1) t19.cm.length, ae ((A00.s (Int.toNat x14)).2.2.2) t19.a7.length, vI t19.cT, vB t19.bu]) h20 (fun _ => by kernel_rfl) rfl rfl rfl rfl hR) (by kernel_rfl) rfl rfl ?_
   refine WL.ez (Row 3 aa.au aa.aN ((A00.s (Int.toNat x14)).1) t19.aX) [0] [Row 21 ah.au ah.aN A00 a0] rfl (fun w hψ => ((hψ _ (List.mem_singleton.2 rfl)).inner _ _ (bg h20).2).1) ?_
   refine WL.ez (Row 1 (pl ca) aA ((A00.s (Int.toNat x14)).2.1) t19.bt) [1] [Row 21 ah.au ah.aN A00 a0] rfl (fun w hψ => ((hψ _ (List.mem_singleton.2 rfl)).inner _ _ (bg h20).2).2.1) ?_
   refine WL.ez (Row 3 ag.au ag.aN ((A00.s (Int.toNat x14)).2.2.1) t19.cm) [2] [Row 21 ah.au ah.aN A00 a0] rfl (fun w hψ => ((hψ _ (List.mem_singleton.2 rfl)).inner _ _ (bg h20).2).2.2.1) ?_
   refine WL.ez (Row 3 (pl aj.enc) aA ((A00.s (Int.toNat x14)).2.2.2) t19.a7) [3] [Row 21 ah.au ah.aN A00 a0] rfl (fun w hψ => ((hψ _ (List.mem_singleton.2 rfl)).inner _ _ (bg h20).2).2.2.2) ?_
   refine WL.rh 2 [3, 3, 3, 3, 3, 3, 3, 3, 3, 3, 3, 3, 3, 3, 3, 3, 3, 3, 3, 3, 3] (fun b21 => [(7, vP b21 0)]) (fun b21 => []) (fun b21 => [(b21, .cells #[vU t19.aK, vU t19.bx, vT t19.Ip, ae ((A00.s (Int.toNat x14)).1) t19.aX.length, ae ((A00.s (Int.toNat x14)).2.1) t19.bt.length, vI t19.bz.Room, vI t19.bz.aY, vI t19.bz.a8, vI t19.bz.aR, vU t19.aO.bx, vT t19.aO.Ip, vI t19.aO.Room, vI t19.aO.aY, vI t19.aO.cp, vI t19.aO.br, vI t19.aO.bn, vI t19.cj, ae ((A00.s (Int.toNat x14)).2.2.1) t19.cm.length, ae ((A00.s (Int.toNat x14)).2.2.2) t19.a7.length, vI t19.cT, vB t19.bu] 60 (0, 0))]) (fun b21 => ?_)
   refine WP.done (WP.seq (WP.seq (WP.region (WL.rn 1 [3, 3, 3, 3, 3, 3, 3, 3, 3, 3, 3, 3, 3, 3, 3, 3, 3, 3, 3, 3, 3] [(23, .agg #[vU t19.aK, vU t19.bx, vT t19.Ip, ae ((A00.s (Int.toNat x14)).1) t19.aX.length, ae ((A00.s (Int.toNat x14)).2.1) t19.bt.length, vI t19.bz.Room, vI t19.bz.aY, vI t19.bz.a8, vI t19.bz.aR, vU t19.aO.bx, vT t19.aO.Ip, vI t19.aO.Room, vI t19.aO.aY, vI t19.aO.cp, vI t19.aO.br, vI t19.aO.bn, vI t19.cj, ae ((A00.s (Int.toNat x14)).2.2.1) t19.cm.length, ae ((A00.s (Int.toNat x14)).2.2.2) t19.a7.length, vI t19.cT, vB t19.bu])] ?_))))
   obtain ⟨r22, h23, hM⟩ := bind_some hM
   refine WL.c0 (F0 := [Row 3 aa.au aa.aN ((A00.s (Int.toNat x14)).1) t19.aX, Row 1 (pl ca) aA ((A00.s (Int.toNat x14)).2.1) t19.bt, Row 3 ag.au ag.aN ((A00.s (Int.toNat x14)).2.2.1) t19.cm, Row 3 (pl aj.enc) aA ((A00.s (Int.toNat x14)).2.2.2) t19.a7]) [] [] [false, false, false, false] (fun _ => _) [3, 2, 1, 0] rfl (kW k ((A00.s (Int.toNat x14)).1) ((A00.s (Int.toNat x14)).2.1) ((A00.s (Int.toNat x14)).2.2.1) ((A00.s (Int.toNat x14)).2.2.2) t19.aK t19.bx t19.Ip t19.aX t19.bt t19.bz t19.aO t19.cj t19.cm t19.a7 t19.cT t19.bu _ h23) rfl rfl (by kernel_rfl) rfl (fun _ => rfl) (fun A24 => ?_)
   refine WL.rn 5 [] [(9, vI r22), (22, .tuple #[.pointer A24, vI r22]), (25, .pointer A24), (26, vI r22)] ?_
   refine WP.done (WP.seq (WP.rn [] [(27, vI r22), (28, vB (r22 != 0))] ?_))
   refine WP.cond (r22 != 0) rfl rfl (fun c25 => ?_) (fun c25 => ?_)
   ·replace hM := aG hM c25
    refine WP.seq (WP.rn [] [(2, vI r22), (29, vI r22)] ?_)
    obtain rfl := oI hM
    exact WP.dI [] [] [4]
   ·replace hM := aH hM c25
    refine WP.skip (WP.rs [0, 2, 3, 4, 5, 7, 9, 16, 17, 18, 19, 20, 21, 22, 23, 24, 25, 26, 27, 28] ?_)
    refine WP.fB (X := Unit) 12 7 [⟨0, 9, fun _ => [(b2, .map (eo .u32 Value.bool x15) x15.c)], fun _ => []⟩, ⟨0, 10, fun _ => [((b2 + 1), .map (eo .u64 Value.bool x16) x16.c)], fun _ => []⟩, ⟨0, 11, fun _ => [((b2 + 2), .map (eo .u64 Value.bool x17) x17.c)], fun _ => []⟩, ⟨0, 12, fun _ => [(b21, .cells #[vU t19.aK, vU t19.bx, vT t19.Ip, ae ((A00.s (Int.toNat x14)).1) t19.aX.length, ae ((A00.s (Int.toNat x14)).2.1) t19.bt.length, vI t19.bz.Room, vI t19.bz.aY, vI t19.bz.a8, vI t19.bz.aR, vU t19.aO.bx, vT t19.aO.Ip, vI t19.aO.Room, vI t19.aO.aY, vI t19.aO.cp, vI t19.aO.br, vI t19.aO.bn, vI t19.cj, ae ((A00.s (Int.toNat x14)).2.2.1) t19.cm.length, ae ((A00.s (Int.toNat x14)).2.2.2) t19.a7.length, vI t19.cT, vB t19.bu] 60 (0, 0))], fun _ => []⟩, ⟨10, 12, fun _ => [(b2, .map (eo .u32 Value.bool (aS.set x15 t19.Ip true)) (aS.set x15 t19.Ip true).c)], fun _ => []⟩, ⟨11, 12, fun _ => [((b2 + 1), .map (eo .u64 Value.bool (aS.set x16 t19.bx true)) (aS.set x16 t19.bx true).c)], fun _ => []⟩, ⟨12, 12, fun _ => [((b2 + 2), .map (eo .u64 Value.bool (aS.set x17 t19.aK true)) (aS.set x17 t19.aK true).c)], fun _ => []⟩] [⟨[], [], [], [], [], fun _ => .map (some b2), fun _ => []⟩, ⟨[], [], [], [], [], fun _ => vP b21 2, fun _ => []⟩, ⟨[1], [3], [3], [], [], fun _ => vT t19.Ip, fun _ => []⟩, ⟨[], [], [], [], [], fun _ => .map (some (b2 + 1)), fun _ => []⟩, ⟨[], [], [], [], [], fun _ => vP b21 1, fun _ => []⟩, ⟨[4], [3], [3], [], [], fun _ => vU t19.bx, fun _ => []⟩, ⟨[], [], [], [], [], fun _ => .map (some (b2 + 2)), fun _ => []⟩, ⟨[], [], [], [], [], fun _ => vP b21 0, fun _ => []⟩, ⟨[7], [3], [3], [], [], fun _ => vU t19.aK, fun _ => []⟩, ⟨[0, 1, 2], [0], [4], [], [], fun _ => .tuple #[], fun _ => []⟩, ⟨[0, 1, 2, 3, 4, 5, 9], [1], [5], [], [], fun _ => .tuple #[], fun _ => []⟩, ⟨[0, 1, 2, 3, 4, 5, 6, 7, 8, 9, 10], [2], [6], [], [], fun _ => .tuple #[], fun _ => []⟩] (fun ξ => [(30, .map (some b2)), (31, vP b21 2), (32, vT t19.Ip), (33, .map (some (b2 + 1))), (34, vP b21 1), (35, vU t19.bx), (36, .map (some (b2 + 2))), (37, vP b21 0), (38, vU t19.aK)]) (fun ξ => [(b21, .cells #[vU t19.aK, vU t19.bx, vT t19.Ip, ae ((A00.s (Int.toNat x14)).1) t19.aX.length, ae ((A00.s (Int.toNat x14)).2.1) t19.bt.length, vI t19.bz.Room, vI t19.bz.aY, vI t19.bz.a8, vI t19.bz.aR, vU t19.aO.bx, vT t19.aO.Ip, vI t19.aO.Room, vI t19.aO.aY, vI t19.aO.cp, vI t19.aO.br, vI t19.aO.bn, vI t19.cj, ae ((A00.s (Int.toNat x14)).2.2.1) t19.cm.length, ae ((A00.s (Int.toNat x14)).2.2.2) t19.a7.length, vI t19.cT, vB t19.bu] 60 (0, 0)), (b2, .map (eo .u32 Value.bool (aS.set x15 t19.Ip true)) (aS.set x15 t19.Ip true).c), ((b2 + 1), .map (eo .u64 Value.bool (aS.set x16 t19.bx true)) (aS.set x16 t19.bx true).c), ((b2 + 2), .map (eo .u64 Value.bool (aS.set x17 t19.aK true)) (aS.set x17 t19.aK true).c)]) (fun ξ => []) (fun ξ => []) (aq.cons ?_ (aq.cons ?_ (aq.cons ?_ (aq.cons ?_ (aq.cons ?_ (aq.cons ?_ (aq.cons ?_ (aq.cons ?_ (aq.cons ?_ (aq.cons ?_ (aq.cons ?_ (aq.cons ?_ aq.nil)))))))))))) (aq.cons (bf.c rfl) (aq.cons (bf.c rfl) (aq.cons (bf.c rfl) (aq.cons (bf.c rfl) (aq.cons (bf.c rfl) (aq.cons (bf.c rfl) (aq.cons (bf.c rfl) (aq.cons (bf.c rfl) (aq.cons (bf.c rfl) (aq.cons (bf.c rfl) (aq.cons (bf.c rfl) (aq.cons (bf.c rfl) aq.nil)))))))))))) (aq.cons (dA.c rfl) (aq.cons (dA.c rfl) (aq.cons (dA.c rfl) (aq.cons (dA.c rfl) (aq.cons (dA.c rfl) (aq.cons (dA.c rfl) (aq.cons (dA.c rfl) aq.nil))))))) (fun ξ => ?_)
    ·
     intro o t ho ht ξ Gr Γr Lr Q hk
     cases ho; cases ht
     refine WL.rn 1 [] [(30, .map (some b2))] ?_
     exact WL.fin (hk default)
    ·
     intro o t ho ht ξ Gr Γr Lr Q hk
     cases ho; cases ht
     refine WL.rn 1 [] [(31, vP b21 2)] ?_
     exact WL.fin (hk default)
    ·
     intro o t ho ht ξ Gr Γr Lr Q hk
     cases ho; cases ht
     refine WL.rn 1 [0] [(32, vT t19.Ip)] ?_
     exact WL.fin (hk default)
    ·
     intro o t ho ht ξ Gr Γr Lr Q hk
     cases ho; cases ht
     refine WL.rn 1 [] [(33, .map (some (b2 + 1)))] ?_
     exact WL.fin (hk default)
    ·
     intro o t ho ht ξ Gr Γr Lr Q hk
     cases ho; cases ht
     refine WL.rn 1 [] [(34, vP b21 1)] ?_
     exact WL.fin (hk default)
    ·
     intro o t ho ht ξ Gr Γr Lr Q hk
     cases ho; cases ht
     refine WL.rn 1 [0] [(35, vU t19.bx)] ?_
     exact WL.fin (hk default)
    ·
     intro o t ho ht ξ Gr Γr Lr Q hk
     cases ho; cases ht
     refine WL.rn 1 [] [(36, .map (some (b2 + 2)))] ?_
     exact WL.fin (hk default)
    ·
     intro o t ho ht ξ Gr Γr Lr Q hk
     cases ho; cases ht
     refine WL.rn 1 [] [(37, vP b21 0)] ?_
     exact WL.fin (hk default)
    ·
     intro o t ho ht ξ Gr Γr Lr Q hk
     cases ho; cases ht
     refine WL.rn 1 [0] [(38, vU t19.aK)] ?_
     exact WL.fin (hk default)
    ·
     intro o t ho ht ξ Gr Γr Lr Q hk
     cases ho; cases ht
     refine WL.qg (kt := 50) (et := 4) (kk := .u32) (f := Value.bool) (m := x15) (b := b2) (k := t19.Ip) 0 true rfl rfl rfl rfl rfl rfl rfl rfl ?_
     exact WL.fin (hk default)
    ·
     intro o t ho ht ξ Gr Γr Lr Q hk
     cases ho; cases ht
     refine WL.qg (kt := 49) (et := 4) (kk := .u64) (f := Value.bool) (m := x16) (b := (b2 + 1)) (k := t19.bx) 0 true rfl rfl rfl rfl rfl rfl rfl rfl ?_
     exact WL.fin (hk default)
    ·
     intro o t ho ht ξ Gr Γr Lr Q hk
     cases ho; cases ht
     refine WL.qg (kt := 49) (et := 4) (kk := .u64) (f := Value.bool) (m := x17) (b := (b2 + 2)) (k := t19.aK) 0 true rfl rfl rfl rfl rfl rfl rfl rfl ?_
     exact WL.fin (hk default)
    refine WP.less (Φ' := ([Row 3 (pl aj.enc) aA ((A00.s (Int.toNat x14)).2.2.2) t19.a7, Row 3 ag.au ag.aN ((A00.s (Int.toNat x14)).2.2.1) t19.cm, Row 1 (pl ca) aA ((A00.s (Int.toNat x14)).2.1) t19.bt, Row 3 aa.au aa.aN ((A00.s (Int.toNat x14)).1) t19.aX, Row 21 ah.au ah.aN A00 a0] ++ aI)) (fun _ h => h) ?_
    refine WP.leave (WP.rn [] [(18, vI (i64 (x14 + 1))), (39, vI (i64 (x14 + 1)))] ?_)
    exact WP.cN [0, 2, 3, 4, 5, 16, 17, 18] (x13, i64 (x14 + 1), (aS.set x15 t19.Ip true), (aS.set x16 t19.bx true), (aS.set x17 t19.aK true)) hM rfl (fun _ h => (h.pick [1, 2, 3] rfl).aQ [4] rfl)
  ·replace hM := aH hM c18
   refine WP.exit rfl (WP.seq (WP.seq (WP.region (WL.rn 1 [] [(40, .map (some b2))] ?_))))
   refine WL.uW (kt := 50) (et := 4) (f := Value.bool) (m := x15) (b := b2) (kk := .u32) 0 rfl rfl (by kernel_rfl) rfl rfl rfl rfl ?_
   refine WL.rn 4 [] [(45, vB (decide ((aS.len x15) < (a0.length : Int))))] ?_
   refine WL.join (σ := Bool) 6 (fun st => bm.k3 x17 a0 st = some r) (fun st => [(0, ae A00 a0.length), (2, vI x13), (5, .map (some (b2 + 2))), (51, vB st)]) (fun st => Sat w Z [((b2 + 2), .map (eo .u64 Value.bool x17) x17.c)] [] ([Row 21 ah.au ah.aN A00 a0] ++ aI)) (fun st hM => ?_) (fun K3 => ?_)
   ·
    obtain ⟨x27, rfl⟩ : ∃ y, y = st := ⟨st, rfl⟩
    replace hM : bm.k3 x17 a0 x27 = some r := hM
    unfold bm.k3 at hM
    try dsimp only
    refine WL.rn 1 [] [(52, vB x27)] ?_
    refine WL.join (σ := Bool) 6 (fun st => bm.k2 st = some r) (fun st => [(2, vI x13), (58, vB st)]) (fun st => Sat w Z [] [] ([Row 21 ah.au ah.aN A00 a0] ++ aI)) (fun st hM => ?_) (fun K2 => ?_)
    ·
     obtain ⟨x29, rfl⟩ : ∃ y, y = st := ⟨st, rfl⟩
     replace hM : bm.k2 x29 = some r := hM
     unfold bm.k2 at hM
     try dsimp only
     refine WP.done ?_
     refine WP.cond x29 rfl rfl (fun c30 => ?_) (fun c30 => ?_)
     ·replace hM := aG hM c30
      refine WP.seq (WP.rn [] [(2, vI 270)] ?_)
      obtain rfl := oI hM
      exact WP.dI [] [] [0]
     ·replace hM := aH hM c30
      refine WP.skip (WP.seq (WP.rn [] [(2, vI 0)] ?_))
      obtain rfl := oI hM
      exact WP.dI [] [] [0]
    ·
     refine WL.sp 52 x27 (fun c28 => ?_) (fun c28 => ?_)
     ·replace hM := aG hM c28
      refine WL.rn 6 [] [(58, vB true)] ?_
      exact WL.sub [2, 58] rfl (WL.pick [] rfl rfl (WL.aQ [0] rfl (K2 true hM)))
     ·replace hM := aH hM c28
      refine WL.rn 1 [] [(53, .map (some (b2 + 2)))] ?_
      refine WL.uW (kt := 49) (et := 4) (f := Value.bool) (m := x17) (b := (b2 + 2)) (kk := .u64) 0 rfl rfl (by kernel_rfl) rfl rfl rfl rfl ?_
      refine WL.rn 4 [] [(58, vB (decide ((aS.len x17) < (a0.length : Int))))] ?_
      exact WL.sub [2, 58] rfl (WL.pick [] rfl rfl (WL.aQ [0] rfl (K2 (decide ((aS.len x17) < (a0.length : Int))) hM)))
   ·
    refine WL.sp 45 (decide ((aS.len x15) < (a0.length : Int))) (fun c26 => ?_) (fun c26 => ?_)
    ·replace hM := aG hM c26
     refine WL.rn 6 [] [(51, vB true)] ?_
     exact WL.sub [0, 2, 5, 51] rfl (WL.pick [2] rfl rfl (WL.aQ [0] rfl (K3 true hM)))
    ·replace hM := aH hM c26
     refine WL.rn 1 [] [(46, .map (some (b2 + 1)))] ?_
     refine WL.uW (kt := 49) (et := 4) (f := Value.bool) (m := x16) (b := (b2 + 1)) (kk := .u64) 1 rfl rfl (by kernel_rfl) rfl rfl rfl rfl ?_
     refine WL.rn 4 [] [(51, vB (decide ((aS.len x16) < (a0.length : Int))))] ?_
     exact WL.sub [0, 2, 5, 51] rfl (WL.pick [2] rfl rfl (WL.aQ [0] rfl (K3 (decide ((aS.len x16) < (a0.length : Int))) hM)))
def gH.f (a0 : Int) : Option (Int) :=
 bif ((decide (a0 < 1)) || (decide (a0 > 4096))) then
  some 1
 else
  some 0
theorem oW (a0 : Int) (r : Int) (h : gH.f a0 = some r) : eT Tryz.prog 14 #[vI a0] [] ([] ++ aI) (fun x : (Option Addr) => .tuple #[.pointer x, vI r]) (fun x => []) (fun _ => []) (fun x => [] ++ ([] ++ aI)) := by
 intro w Z hS
 refine bh (args := [vI a0]) (L := [(0, vI a0)]) (N := 13) Tryz.func14 hS ?_
 have hM := h
 clear h hS
 unfold gH.f at hM
 refine WP.seq (WP.rn [] [(2, .pointer none), (3, vI 0)] ?_)
 refine WP.seq (WP.seq (WP.region (WL.rn 3 [] [(6, vB (decide (a0 < 1)))] ?_)))
 refine WL.bo 6 (decide (a0 < 1)) 3 [] [] (fun b' => [(9, vB (b' || (decide (a0 > 4096))))]) ?_
 refine WP.done ?_
 refine WP.cond ((decide (a0 < 1)) || (decide (a0 > 4096))) rfl rfl (fun c1 => ?_) (fun c1 => ?_)
 ·replace hM := aG hM c1
  refine WP.seq (WP.rn [] [(2, .pointer none), (3, vI 1)] ?_)
  obtain rfl := oI hM
  exact WP.ret [] [] (.tuple #[.pointer none, vI 1]) (by kernel_rfl) (fun w' hw => ⟨(none : Option Addr), rfl, (hw.pick [] rfl).less (aT [] [] rfl rfl)⟩)
 ·replace hM := aH hM c1
  refine WP.skip (WP.seq ?_)
  refine WP.rh [] (fun b2 => [(2, vP b2 0), (3, vI 0)]) (fun b2 => []) (fun b2 => [(b2, .cells #[.slice none 0 0, vI a0] 93 (0, 0))]) (fun b2 => ?_)
  obtain rfl := oI hM
  exact WP.ret [] [] (.tuple #[vP b2 0, vI 0]) (by kernel_rfl) (fun w' hw => ⟨(some ⟨b2, 0, none⟩), rfl, (hw.pick [] rfl).less (aT [] [] rfl rfl)⟩)
def ga.f (k : Nat) (a0 : (List ah)) (a1 : Int) : Option (Int) :=
 (bm.f k a0).bind fun r1 =>
 bif (r1 != 0) then
  some r1
 else
  (gH.f a1).bind fun r4 =>
  bif (r4 != 0) then
   some r4
  else
   none
theorem mZ (k : Nat) (A00 : av ((av (av Unit)) × (av Unit) × (av (av Unit)) × (av Unit))) (a0 : (List ah)) (a1 : Int) (r : Int) (h : ga.f k a0 a1 = some r) : Pure Tryz.prog ([Row 21 ah.au ah.aN A00 a0] ++ aI) 4 #[ae A00 a0.length, vI a1] (.tuple #[.pointer none, vI r]) := by
 intro w Z hS
 refine bh (args := [ae A00 a0.length, vI a1]) (L := [(0, ae A00 a0.length), (1, vI a1)]) (N := 67) Tryz.func4 hS ?_
 have hM := h
 clear h hS
 unfold ga.f at hM
 refine WP.seq (WP.rn [] [(4, .pointer none), (5, vI 0)] ?_)
 refine WP.seq (WP.seq (WP.region (WL.rn 1 [] [(14, ae A00 a0.length)] ?_)))
 obtain ⟨r1, h2, hM⟩ := bind_some hM
 refine WL.cQ [] [] (jb k A00 a0 _ h2) (bE [0] rfl) (by kernel_rfl) rfl rfl ?_
 refine WL.rn 1 [] [(6, vI r1)] ?_
 refine WP.done (WP.seq (WP.rn [] [(17, vB (r1 != 0))] ?_))
 refine WP.cond (r1 != 0) rfl rfl (fun c3 => ?_) (fun c3 => ?_)
 ·replace hM := aG hM c3
  refine WP.seq (WP.rn [] [(4, .pointer none), (5, vI r1)] ?_)
  obtain rfl := oI hM
  exact WP.dI [] [] [0]
 ·replace hM := aH hM c3
  refine WP.skip (WP.seq (WP.region (WL.rn 1 [] [(20, vI a1)] ?_)))
  obtain ⟨r4, h5, hM⟩ := bind_some hM
  refine WL.c0 (F0 := []) [] [] [] (fun _ => _) [] rfl (oW a1 _ h5) rfl rfl (by kernel_rfl) rfl (fun _ => rfl) (fun A6 => ?_)
  refine WL.rn 5 [] [(7, .pointer A6), (8, vI r4)] ?_
  refine WP.done (WP.seq (WP.seq (WP.rn [] [(25, vB (r4 != 0))] ?_)))
  refine WP.cond (r4 != 0) rfl rfl (fun c7 => ?_) (fun c7 => ?_)
  ·replace hM := aG hM c7
   refine WP.seq (WP.rn [] [(4, .pointer none), (5, vI r4)] ?_)
   obtain rfl := oI hM
   exact WP.dI [] [] [0]
  ·replace hM := aH hM c7
   refine WP.skip (WP.seq ?_)
   refine WP.rh [] (fun b8 => [(9, vP b8 0)]) (fun b8 => []) (fun b8 => [(b8, .cells #[.slice none 0 0, .slice none 0 0, .pointer A6, vI 0, vI 0] 48 (0, 0))]) (fun b8 => ?_)
   refine WP.seq (WP.seq (WP.rn [] [(30, ae A00 a0.length), (31, vI (a0.length : Int)), (32, vI 0)] ?_))
   refine WP.block ?_
   exact absurd hM (by simp)
def bI.l1 (a0 : (List Int)) (a1 : Int) : Nat → Bool → Int → Option (Bool)
 | 0, _, _ => none
 | n + 1, x1, x2 =>
  bif decide (x2 < (a0.length : Int)) then
   (cI a0.length a0 x2).bind fun t4 =>
   bif (t4 == a1) then
    some true
   else
    bI.l1 a0 a1 n x1 (i64 (x2 + 1))
  else
   some false
def bI.f (k : Nat) (a0 : (List Int)) (a1 : Int) : Option (Bool) :=
 bI.l1 a0 a1 k false 0
theorem jE (k : Nat) (A00 : av Unit) (a0 : (List Int)) (a1 : Int) (r : Bool) (h : bI.f k a0 a1 = some r) : Pure Tryz.prog ([Row 1 (pl (aE .i64)) aA A00 a0] ++ aI) 108 #[ae A00 a0.length, vI a1] (vB r) := by
 intro w Z hS
 refine bh (args := [ae A00 a0.length, vI a1]) (L := [(0, ae A00 a0.length), (1, vI a1)]) (N := 18) Tryz.func108 hS ?_
 have hM := h
 clear h hS
 unfold bI.f at hM
 refine WP.seq (WP.rn [] [(4, vB false)] ?_)
 refine WP.seq (WP.seq (WP.rn [] [(5, vI 0)] ?_))
 refine WP.block (WP.sub [0, 1, 4, 5] (L' := [(0, ae A00 a0.length), (1, vI a1), (4, vB false), (5, vI 0)]) rfl ?_)
 refine WP.aQ [0] (F' := [Row 1 (pl (aE .i64)) aA A00 a0]) rfl ?_
 refine WP.loop (σ := Bool × Int) (fun n st => bI.l1 a0 a1 n st.1 st.2) r (fun st => [(0, ae A00 a0.length), (1, vI a1), (4, vB st.1), (5, vI st.2)]) (fun st => Sat w Z [] [] ([Row 1 (pl (aE .i64)) aA A00 a0] ++ aI)) (st := (false, 0)) (fun n st hM => ?_) hM
 rcases n with _ | n
 ·exact nomatch (show (none : Option _) = some r from hM)
 obtain ⟨x1, x2⟩ := st
 replace hM : bI.l1 a0 a1 (n + 1) x1 x2 = some r := hM
 rw [bI.l1] at hM
 try dsimp only
 refine WP.seq (WP.seq (WP.rn [] [(6, vI x2), (7, ae A00 a0.length), (8, vI (a0.length : Int)), (9, vB (decide (x2 < (a0.length : Int))))] ?_))
 refine WP.cond (decide (x2 < (a0.length : Int))) rfl rfl (fun c3 => ?_) (fun c3 => ?_)
 ·replace hM := aG hM c3
  refine WP.skip (WP.seq (WP.block (WP.seq (WP.region (WL.rn 2 [] [(12, ae A00 a0.length), (13, vI x2)] ?_)))))
  obtain ⟨t4, h5, hM⟩ := bind_some hM
  refine WL.cd (φ := Row 1 (pl (aE .i64)) aA A00 a0) (ar 0 rfl) (fun w hR => aJ (A := A00) (xs := a0) (i := x2) (k := .i64) (e := 3) (m := 1) rfl rfl h5 rfl rfl hR) (by kernel_rfl) rfl rfl ?_
  refine WL.cd (φ := Row 1 (pl (aE .i64)) aA A00 a0) (ar 0 rfl) (fun w hR => bp (A := A00) (xs := a0) (i := x2) (j := 0) (v := vI t4) h5 (fun _ => by kernel_rfl) rfl rfl hR) (by kernel_rfl) rfl rfl ?_
  refine WL.rn 2 [] [(16, vI a1), (17, vB (t4 == a1))] ?_
  refine WP.done ?_
  refine WP.cond (t4 == a1) rfl rfl (fun c6 => ?_) (fun c6 => ?_)
  ·replace hM := aG hM c6
   refine WP.seq (WP.rn [] [(4, vB true)] ?_)
   obtain rfl := oI hM
   exact WP.dI [] [] [0]
  ·replace hM := aH hM c6
   refine WP.skip (WP.leave (WP.rn [] [(5, vI (i64 (x2 + 1))), (10, vI x2), (11, vI (i64 (x2 + 1)))] ?_))
   exact WP.cN [0, 1, 4, 5] (x1, i64 (x2 + 1)) hM rfl (fun _ h => (h.pick [] rfl).aQ [0] rfl)
 ·replace hM := aH hM c3
  refine WP.exit rfl (WP.seq (WP.rn [] [(4, vB false)] ?_))
  obtain rfl := oI hM
  exact WP.dI [] [] [0]
def ay.k1 (a0_2 : (List Int)) (x5 : Int) (x3 : Bool) (rec_l2 : Bool → Int → Int → Option (Bool)) (x12 : Bool) (x13 : Bool) : Option (Bool) :=
 bif x13 then
  some false
 else
  (cI a0_2.length a0_2 x5).bind fun t15 =>
  rec_l2 x3 t15 (i64 (x5 + 1))
def ay.k3 (x20 : Bool) : Option (Bool) :=
 some x20
def ay.l2 (a0_2 : (List Int)) (a0_1 : Int) (k : Nat) : Nat → Bool → Int → Int → Option (Bool)
 | 0, _, _, _ => none
 | n + 1, x3, x4, x5 =>
  bif decide (x5 < (a0_2.length : Int)) then
   (cI a0_2.length a0_2 x5).bind fun t7 =>
   bif decide (t7 ≤ x4) then
    ay.k1 a0_2 x5 x3 (ay.l2 a0_2 a0_1 k n) true true
   else
    (cI a0_2.length a0_2 x5).bind fun t10 =>
    ay.k1 a0_2 x5 x3 (ay.l2 a0_2 a0_1 k n) false (decide (t10 > 4094))
  else
   bif (a0_1 == 0) then
    ay.k3 true
   else
    (bI.f k a0_2 a0_1).bind fun r18 =>
    ay.k3 r18
def ay.f (k : Nat) (a0 : Bool) (a0_1 : Int) (a0_2 : (List Int)) : Option (Bool) :=
 bif !a0 then
  some (((decide (a0_1 ≥ 1)) && (decide (a0_1 ≤ 4094))) && ((a0_2.length : Int) == 0))
 else
  ay.l2 a0_2 a0_1 k k false 0 0
theorem jF (k : Nat) (A00 : av Unit) (a0 : Bool) (a0_1 : Int) (a0_2 : (List Int)) (r : Bool) (h : ay.f k a0 a0_1 a0_2 = some r) : Pure Tryz.prog ([Row 1 (pl (aE .i64)) aA A00 a0_2] ++ aI) 76 #[.agg #[vB a0, vI a0_1, ae A00 a0_2.length]] (vB r) := by
 intro w Z hS
 refine bh (args := [.agg #[vB a0, vI a0_1, ae A00 a0_2.length]]) (L := [(0, .agg #[vB a0, vI a0_1, ae A00 a0_2.length])]) (N := 59) Tryz.func76 hS ?_
 have hM := h
 clear h hS
 unfold ay.f at hM
 refine WP.seq ?_
 refine WP.rh [] (fun b1 => [(1, vP b1 0), (2, vB false)]) (fun b1 => []) (fun b1 => [(b1, .cells #[vB a0, vI a0_1, ae A00 a0_2.length] 121 (0, 0))]) (fun b1 => ?_)
 refine WP.seq (WP.seq (WP.rn [0] [(7, vB (!a0))] ?_))
 refine WP.cond (!a0) rfl rfl (fun c2 => ?_) (fun c2 => ?_)
 ·replace hM := aG hM c2
  refine WP.seq (WP.region (WL.rn 4 [0] [(11, vB (decide (a0_1 ≥ 1)))] ?_))
  refine WL.bo 11 (decide (a0_1 ≥ 1)) 4 [0] [] (fun b' => [(15, vB (b' && (decide (a0_1 ≤ 4094))))]) ?_
  refine WL.rn 1 [] [(16, vB ((decide (a0_1 ≥ 1)) && (decide (a0_1 ≤ 4094))))] ?_
  refine WL.bo 16 ((decide (a0_1 ≥ 1)) && (decide (a0_1 ≤ 4094))) 5 [0] [] (fun b' => [(21, vB (b' && ((a0_2.length : Int) == 0)))]) ?_
  refine WL.rn 1 [] [(2, vB (((decide (a0_1 ≥ 1)) && (decide (a0_1 ≤ 4094))) && ((a0_2.length : Int) == 0)))] ?_
  refine WP.done ?_
  obtain rfl := oI hM
  exact WP.dI [] [] [0]
 ·replace hM := aH hM c2
  refine WP.skip (WP.seq (WP.rn [] [(3, vI 0)] ?_))
  refine WP.seq (WP.seq (WP.rn [] [(4, vI 0)] ?_))
  refine WP.block ?_
  refine WP.sub [1, 2, 3, 4] (L' := [(1, vP b1 0), (2, vB false), (3, vI 0), (4, vI 0)]) rfl ?_
  refine WP.aQ [0] (F' := [Row 1 (pl (aE .i64)) aA A00 a0_2]) rfl ?_
  refine WP.loop (σ := Bool × Int × Int) (fun n st => ay.l2 a0_2 a0_1 k n st.1 st.2.1 st.2.2) r (fun st => [(1, vP b1 0), (2, vB st.1), (3, vI st.2.1), (4, vI st.2.2)]) (fun st => Sat w Z [(b1, .cells #[vB a0, vI a0_1, ae A00 a0_2.length] 121 (0, 0))] [] ([Row 1 (pl (aE .i64)) aA A00 a0_2] ++ aI)) (st := (false, 0, 0)) (fun n st hM => ?_) hM
  rcases n with _ | n
  ·exact nomatch (show (none : Option _) = some r from hM)
  obtain ⟨x3, x4, x5⟩ := st
  replace hM : ay.l2 a0_2 a0_1 k (n + 1) x3 x4 x5 = some r := hM
  rw [ay.l2] at hM
  try dsimp only
  refine WP.seq (WP.seq ?_)
  refine WP.rn [0] [(22, vI x5), (23, vP b1 2), (24, ae A00 a0_2.length), (25, vI (a0_2.length : Int)), (26, vB (decide (x5 < (a0_2.length : Int))))] ?_
  refine WP.cond (decide (x5 < (a0_2.length : Int))) rfl rfl (fun c6 => ?_) (fun c6 => ?_)
  ·replace hM := aG hM c6
   refine WP.skip (WP.seq (WP.block (WP.seq (WP.seq (WP.region ?_)))))
   refine WL.rn 3 [0] [(29, vP b1 2), (30, ae A00 a0_2.length), (31, vI x5)] ?_
   obtain ⟨t7, h8, hM⟩ := bind_some hM
   refine WL.cd (φ := Row 1 (pl (aE .i64)) aA A00 a0_2) (ar 0 rfl) (fun w hR => aJ (A := A00) (xs := a0_2) (i := x5) (k := .i64) (e := 3) (m := 1) rfl rfl h8 rfl rfl hR) (by kernel_rfl) rfl rfl ?_
   refine WL.cd (φ := Row 1 (pl (aE .i64)) aA A00 a0_2) (ar 0 rfl) (fun w hR => bp (A := A00) (xs := a0_2) (i := x5) (j := 0) (v := vI t7) h8 (fun _ => by kernel_rfl) rfl rfl hR) (by kernel_rfl) rfl rfl ?_
   refine WL.rn 3 [] [(34, vI x4), (35, vB (decide (t7 ≤ x4))), (36, vB (decide (t7 ≤ x4)))] ?_
   refine WL.join (σ := Bool × Bool) 7 (fun st => ay.k1 a0_2 x5 x3 (ay.l2 a0_2 a0_1 k n) st.1 st.2 = some r) (fun st => [(1, vP b1 0), (2, vB x3), (3, vI x4), (4, vI x5), (22, vI x5), (23, vP b1 2), (24, ae A00 a0_2.length), (25, vI (a0_2.length : Int)), (26, vB (decide (x5 < (a0_2.length : Int)))), (29, vP b1 2), (30, ae A00 a0_2.length), (31, vI x5), (32, dM A00 (Int.toNat x5 * 1)), (33, vI t7), (34, vI x4), (35, vB (decide (t7 ≤ x4))), (36, vB st.1), (43, vB st.2)]) (fun st => Sat w Z [(b1, .cells #[vB a0, vI a0_1, ae A00 a0_2.length] 121 (0, 0))] [] ([Row 1 (pl (aE .i64)) aA A00 a0_2] ++ aI)) (fun st hM => ?_) (fun K1 => ?_)
   ·
    obtain ⟨x12, x13⟩ := st
    replace hM : ay.k1 a0_2 x5 x3 (ay.l2 a0_2 a0_1 k n) x12 x13 = some r := hM
    unfold ay.k1 at hM
    try dsimp only
    refine WP.done ?_
    refine WP.cond x13 rfl rfl (fun c14 => ?_) (fun c14 => ?_)
    ·replace hM := aG hM c14
     refine WP.seq (WP.rn [] [(2, vB false)] ?_)
     obtain rfl := oI hM
     exact WP.dI [] [] [0]
    ·replace hM := aH hM c14
     refine WP.skip (WP.region ?_)
     refine WL.rn 3 [0] [(44, vP b1 2), (45, ae A00 a0_2.length), (46, vI x5)] ?_
     obtain ⟨t15, h16, hM⟩ := bind_some hM
     refine WL.cd (φ := Row 1 (pl (aE .i64)) aA A00 a0_2) (ar 0 rfl) (fun w hR => aJ (A := A00) (xs := a0_2) (i := x5) (k := .i64) (e := 3) (m := 1) rfl rfl h16 rfl rfl hR) (by kernel_rfl) rfl rfl ?_
     refine WL.cd (φ := Row 1 (pl (aE .i64)) aA A00 a0_2) (ar 0 rfl) (fun w hR => bp (A := A00) (xs := a0_2) (i := x5) (j := 0) (v := vI t15) h16 (fun _ => by kernel_rfl) rfl rfl hR) (by kernel_rfl) rfl rfl ?_
     refine WL.rn 1 [] [(3, vI t15)] ?_
     refine WP.done (WP.leave (WP.rn [] [(4, vI (i64 (x5 + 1))), (27, vI x5), (28, vI (i64 (x5 + 1)))] ?_))
     exact WP.cN [1, 2, 3, 4] (x3, t15, i64 (x5 + 1)) hM rfl (fun _ h => (h.pick [0] rfl).aQ [0] rfl)
   ·
    refine WL.sp 36 (decide (t7 ≤ x4)) (fun c9 => ?_) (fun c9 => ?_)
    ·replace hM := aG hM c9
     refine WL.rn 7 [] [(37, .tuple #[]), (38, .tuple #[]), (39, .tuple #[]), (40, .tuple #[]), (41, .tuple #[]), (42, .tuple #[]), (43, vB true)] ?_
     exact WL.sub [1, 2, 3, 4, 22, 23, 24, 25, 26, 29, 30, 31, 32, 33, 34, 35, 36, 43] rfl (WL.pick [0] rfl rfl (WL.aQ [0] rfl (K1 (true, true) hM)))
    ·replace hM := aH hM c9
     refine WL.rn 3 [0] [(37, vP b1 2), (38, ae A00 a0_2.length), (39, vI x5)] ?_
     obtain ⟨t10, h11, hM⟩ := bind_some hM
     refine WL.cd (φ := Row 1 (pl (aE .i64)) aA A00 a0_2) (ar 0 rfl) (fun w hR => aJ (A := A00) (xs := a0_2) (i := x5) (k := .i64) (e := 3) (m := 1) rfl rfl h11 rfl rfl hR) (by kernel_rfl) rfl rfl ?_
     refine WL.cd (φ := Row 1 (pl (aE .i64)) aA A00 a0_2) (ar 0 rfl) (fun w hR => bp (A := A00) (xs := a0_2) (i := x5) (j := 0) (v := vI t10) h11 (fun _ => by kernel_rfl) rfl rfl hR) (by kernel_rfl) rfl rfl ?_
     refine WL.rn 2 [] [(42, vB (decide (t10 > 4094))), (43, vB (decide (t10 > 4094)))] ?_
     exact WL.sub [1, 2, 3, 4, 22, 23, 24, 25, 26, 29, 30, 31, 32, 33, 34, 35, 36, 43] rfl (WL.pick [0] rfl rfl (WL.aQ [0] rfl (K1 (false, decide (t10 > 4094)) hM)))
  ·replace hM := aH hM c6
   refine WP.exit rfl (WP.seq (WP.region (WL.rn 4 [0] [(52, vB (a0_1 == 0))] ?_)))
   refine WL.join (σ := Bool) 6 (fun st => ay.k3 st = some r) (fun st => [(2, vB x3), (58, vB st)]) (fun st => Sat w Z [] [] ([Row 1 (pl (aE .i64)) aA A00 a0_2] ++ aI)) (fun st hM => ?_) (fun K3 => ?_)
   ·
    obtain ⟨x20, rfl⟩ : ∃ y, y = st := ⟨st, rfl⟩
    replace hM : ay.k3 x20 = some r := hM
    unfold ay.k3 at hM
    try dsimp only
    refine WL.rn 1 [] [(2, vB x20)] ?_
    refine WP.done ?_
    obtain rfl := oI hM
    exact WP.dI [] [] [0]
   ·
    refine WL.sp 52 (a0_1 == 0) (fun c17 => ?_) (fun c17 => ?_)
    ·replace hM := aG hM c17
     refine WL.rn 6 [] [(58, vB true)] ?_
     exact WL.sub [2, 58] rfl (WL.pick [] rfl rfl (WL.aQ [0] rfl (K3 true hM)))
    ·replace hM := aH hM c17
     refine WL.rn 4 [0, 0] [(54, ae A00 a0_2.length), (56, vI a0_1)] ?_
     obtain ⟨r18, h19, hM⟩ := bind_some hM
     refine WL.cQ [] [] (jE k A00 a0_2 a0_1 _ h19) (bE [0] rfl) (by kernel_rfl) rfl rfl ?_
     refine WL.rn 1 [] [(58, vB r18)] ?_
     exact WL.sub [2, 58] rfl (WL.pick [] rfl rfl (WL.aQ [0] rfl (K3 r18 hM)))
def eC.f (a0 : Int) (a1 : Int) : Option (Int) :=
 bif ((((decide (a0 < 1)) || (decide (a0 > 4096))) || (decide (a1 < 1))) || (decide (a1 > 1099511627776))) then
  some 1
 else
  some 0
theorem gw (a0 : Int) (a1 : Int) (r : Int) (h : eC.f a0 a1 = some r) : eT Tryz.prog 78 #[vI a0, vI a1] [] ([] ++ aI) (fun x : (Option Addr) => .tuple #[.pointer x, vI r]) (fun x => []) (fun _ => []) (fun x => [] ++ ([] ++ aI)) := by
 intro w Z hS
 refine bh (args := [vI a0, vI a1]) (L := [(0, vI a0), (1, vI a1)]) (N := 24) Tryz.func78 hS ?_
 have hM := h
 clear h hS
 unfold eC.f at hM
 refine WP.seq (WP.rn [] [(4, .pointer none), (5, vI 0)] ?_)
 refine WP.seq (WP.seq (WP.region (WL.rn 3 [] [(8, vB (decide (a0 < 1)))] ?_)))
 refine WL.bo 8 (decide (a0 < 1)) 3 [] [] (fun b' => [(11, vB (b' || (decide (a0 > 4096))))]) ?_
 refine WL.rn 1 [] [(12, vB ((decide (a0 < 1)) || (decide (a0 > 4096))))] ?_
 refine WL.bo 12 ((decide (a0 < 1)) || (decide (a0 > 4096))) 3 [] [] (fun b' => [(15, vB (b' || (decide (a1 < 1))))]) ?_
 refine WL.rn 1 [] [(16, vB (((decide (a0 < 1)) || (decide (a0 > 4096))) || (decide (a1 < 1))))] ?_
 refine WL.bo 16 (((decide (a0 < 1)) || (decide (a0 > 4096))) || (decide (a1 < 1))) 3 [] [] (fun b' => [(19, vB (b' || (decide (a1 > 1099511627776))))]) ?_
 refine WP.done ?_
 refine WP.cond ((((decide (a0 < 1)) || (decide (a0 > 4096))) || (decide (a1 < 1))) || (decide (a1 > 1099511627776))) rfl rfl (fun c1 => ?_) (fun c1 => ?_)
 ·replace hM := aG hM c1
  refine WP.seq (WP.rn [] [(4, .pointer none), (5, vI 1)] ?_)
  obtain rfl := oI hM
  exact WP.ret [] [] (.tuple #[.pointer none, vI 1]) (by kernel_rfl) (fun w' hw => ⟨(none : Option Addr), rfl, (hw.pick [] rfl).less (aT [] [] rfl rfl)⟩)
 ·replace hM := aH hM c1
  refine WP.skip (WP.seq ?_)
  refine WP.rh [] (fun b2 => [(4, vP b2 0), (5, vI 0)]) (fun b2 => []) (fun b2 => [(b2, .cells #[.slice none 0 0, vI a0, vI a1] 260 (0, 0))]) (fun b2 => ?_)
  obtain rfl := oI hM
  exact WP.ret [] [] (.tuple #[vP b2 0, vI 0]) (by kernel_rfl) (fun w' hw => ⟨(some ⟨b2, 0, none⟩), rfl, (hw.pick [] rfl).less (aT [] [] rfl rfl)⟩)
def dJ.f (a0 : ba) : Option (Int) :=
 (eC.f a0.Room a0.aY).bind fun r2 =>
 bif (((((r2 != 0) || (decide (a0.a8 < 0))) || (decide (a0.a8 > 64))) || (decide (a0.aR < 1))) || (decide (a0.aR > 1099511627776))) then
  some 1
 else
  some 0
theorem kD (a0 : ba) (r : Int) (h : dJ.f a0 = some r) : eT Tryz.prog 77 #[ba.v a0] [] ([] ++ aI) (fun x : (Option Addr) => .tuple #[.pointer x, vI r]) (fun x => []) (fun _ => []) (fun x => [] ++ ([] ++ aI)) := by
 intro w Z hS
 refine bh (args := [ba.v a0]) (L := [(0, ba.v a0)]) (N := 40) Tryz.func77 hS ?_
 have hM := h
 clear h hS
 unfold dJ.f at hM
 refine WP.seq ?_
 refine WP.rh [] (fun b1 => [(1, vP b1 0), (2, .pointer none), (3, vI 0)]) (fun b1 => []) (fun b1 => [(b1, ba.o a0)]) (fun b1 => ?_)
 refine WP.seq (WP.region (WL.rn 4 [0, 0] [(8, vI a0.Room), (10, vI a0.aY)] ?_))
 obtain ⟨r2, h3, hM⟩ := bind_some hM
 refine WL.c0 (F0 := []) [] [] [false] (fun _ => _) [] rfl (gw a0.Room a0.aY _ h3) rfl rfl (by kernel_rfl) rfl (fun _ => rfl) (fun A4 => ?_)
 refine WL.rn 5 [] [(4, .pointer A4), (5, vI r2)] ?_
 refine WP.done (WP.seq (WP.seq (WP.region (WL.rn 3 [] [(16, vB (r2 != 0))] ?_))))
 refine WL.bo 16 (r2 != 0) 4 [] [0] (fun b' => [(20, vB (b' || (decide (a0.a8 < 0))))]) ?_
 refine WL.rn 1 [] [(21, vB ((r2 != 0) || (decide (a0.a8 < 0))))] ?_
 refine WL.bo 21 ((r2 != 0) || (decide (a0.a8 < 0))) 4 [] [0] (fun b' => [(25, vB (b' || (decide (a0.a8 > 64))))]) ?_
 refine WL.rn 1 [] [(26, vB (((r2 != 0) || (decide (a0.a8 < 0))) || (decide (a0.a8 > 64))))] ?_
 refine WL.bo 26 (((r2 != 0) || (decide (a0.a8 < 0))) || (decide (a0.a8 > 64))) 4 [] [0] (fun b' => [(30, vB (b' || (decide (a0.aR < 1))))]) ?_
 refine WL.rn 1 [] [(31, vB ((((r2 != 0) || (decide (a0.a8 < 0))) || (decide (a0.a8 > 64))) || (decide (a0.aR < 1))))] ?_
 refine WL.bo 31 ((((r2 != 0) || (decide (a0.a8 < 0))) || (decide (a0.a8 > 64))) || (decide (a0.aR < 1))) 4 [] [0] (fun b' => [(35, vB (b' || (decide (a0.aR > 1099511627776))))]) ?_
 refine WP.done ?_
 refine WP.cond (((((r2 != 0) || (decide (a0.a8 < 0))) || (decide (a0.a8 > 64))) || (decide (a0.aR < 1))) || (decide (a0.aR > 1099511627776))) rfl rfl (fun c5 => ?_) (fun c5 => ?_)
 ·replace hM := aG hM c5
  refine WP.seq (WP.rn [] [(2, .pointer none), (3, vI 1)] ?_)
  obtain rfl := oI hM
  exact WP.ret [] [] (.tuple #[.pointer none, vI 1]) (by kernel_rfl) (fun w' hw => ⟨(none : Option Addr), rfl, (hw.pick [] rfl).less (aT [] [] rfl rfl)⟩)
 ·replace hM := aH hM c5
  refine WP.skip (WP.seq ?_)
  refine WP.rh [0, 0, 0, 0] (fun b6 => [(2, vP b6 0), (3, vI 0)]) (fun b6 => []) (fun b6 => [(b6, .cells #[.pointer A4, vI a0.Room, vI a0.aY, vI a0.a8, vI a0.aR, .slice none 0 0] 258 (0, 0))]) (fun b6 => ?_)
  refine WP.kp [false, true] ?_
  obtain rfl := oI hM
  exact WP.ret [] [] (.tuple #[vP b6 0, vI 0]) (by kernel_rfl) (fun w' hw => ⟨(some ⟨b6, 0, none⟩), rfl, (hw.pick [] rfl).less (aT [] [] rfl rfl)⟩)
def aV.l1 (a0 : (List aa)) (k : Nat) (a1 : ba) : Nat → Int → Int → Option (Int)
 | 0, _, _ => none
 | n + 1, x3, x4 =>
  bif decide (x4 < (a0.length : Int)) then
   (cI a0.length a0 x4).bind fun t6 =>
   (ay.f k t6.bT t6.cU t6.cS).bind fun r8 =>
   bif !r8 then
    some 1
   else
    aV.l1 a0 k a1 n x3 (i64 (x4 + 1))
  else
   (dJ.f a1).bind fun r11 =>
   bif (r11 != 0) then
    some r11
   else
    (ey 40 a0.length).bind fun u17 =>
    (jW 8 (a0.length : Int)).bind fun t19 =>
    some 0
def aV.f (k : Nat) (a0 : (List aa)) (a1 : ba) : Option (Int) :=
 bif decide ((a0.length : Int) > 64) then
  some 1
 else
  aV.l1 a0 k a1 k 0 0
theorem kz (k : Nat) (A00 : av (av Unit)) (a0 : (List aa)) (a1 : ba) (r : Int) (h : aV.f k a0 a1 = some r) : eT Tryz.prog 37 #[ae A00 a0.length, ba.v a1] [] ([Row 3 aa.au aa.aN A00 a0] ++ aI) (fun x : (Option Addr) => .tuple #[.pointer x, vI r]) (fun x => []) (fun _ => []) (fun x => [] ++ ([Row 3 aa.au aa.aN A00 a0] ++ aI)) := by
 intro w Z hS
 refine bh (args := [ae A00 a0.length, ba.v a1]) (L := [(0, ae A00 a0.length), (1, ba.v a1)]) (N := 41) Tryz.func37 hS ?_
 have hM := h
 clear h hS
 unfold aV.f at hM
 refine WP.seq ?_
 refine WP.rh [] (fun b1 => [(3, vP b1 0), (4, .pointer none), (5, vI 0)]) (fun b1 => []) (fun b1 => [(b1, ba.o a1)]) (fun b1 => ?_)
 refine WP.seq (WP.seq (WP.rn [] [(11, vB (decide ((a0.length : Int) > 64)))] ?_))
 refine WP.cond (decide ((a0.length : Int) > 64)) rfl rfl (fun c2 => ?_) (fun c2 => ?_)
 ·replace hM := aG hM c2
  refine WP.seq (WP.rn [] [(4, .pointer none), (5, vI 1)] ?_)
  obtain rfl := oI hM
  exact WP.ret [] [] (.tuple #[.pointer none, vI 1]) (by kernel_rfl) (fun w' hw => ⟨(none : Option Addr), rfl, (hw.pick [] rfl).less (aT [] [0] rfl rfl)⟩)
 ·replace hM := aH hM c2
  refine WP.skip (WP.seq (WP.seq (WP.rn [] [(6, vI 0)] ?_)))
  refine WP.block ?_
  refine WP.sub [0, 3, 5, 6] (L' := [(0, ae A00 a0.length), (3, vP b1 0), (5, vI 0), (6, vI 0)]) rfl ?_
  refine WP.aQ [0] (F' := [Row 3 aa.au aa.aN A00 a0]) rfl ?_
  refine WP.loop (σ := Int × Int) (fun n st => aV.l1 a0 k a1 n st.1 st.2) r (fun st => [(0, ae A00 a0.length), (3, vP b1 0), (5, vI st.1), (6, vI st.2)]) (fun st => Sat w Z [(b1, ba.o a1)] [] ([Row 3 aa.au aa.aN A00 a0] ++ aI)) (st := (0, 0)) (fun n st hM => ?_) hM
  rcases n with _ | n
  ·exact nomatch (show (none : Option _) = some r from hM)
  obtain ⟨x3, x4⟩ := st
  replace hM : aV.l1 a0 k a1 (n + 1) x3 x4 = some r := hM
  rw [aV.l1] at hM
  try dsimp only
  refine WP.seq (WP.seq (WP.rn [] [(12, vI x4), (13, ae A00 a0.length), (14, vI (a0.length : Int)), (15, vB (decide (x4 < (a0.length : Int))))] ?_))
  refine WP.cond (decide (x4 < (a0.length : Int))) rfl rfl (fun c5 => ?_) (fun c5 => ?_)
  ·replace hM := aG hM c5
   refine WP.skip (WP.seq (WP.block (WP.seq (WP.region (WL.rn 2 [] [(18, ae A00 a0.length), (19, vI x4)] ?_)))))
   obtain ⟨t6, h7, hM⟩ := bind_some hM
   refine WL.cd (φ := Row 3 aa.au aa.aN A00 a0) (ar 0 rfl) (fun w hR => aJ (A := A00) (xs := a0) (i := x4) (k := .i64) (e := 121) (m := 3) rfl rfl h7 rfl rfl hR) (by kernel_rfl) rfl rfl ?_
   refine WL.cd (φ := Row 3 aa.au aa.aN A00 a0) (ar 0 rfl) (fun w hR => b4 (A := A00) (xs := a0) (i := x4) (j := 0) (n := 3) (vs := [vB t6.bT, vI t6.cU, ae (A00.s (Int.toNat x4)) t6.cS.length]) h7 (fun _ => by kernel_rfl) rfl rfl rfl rfl hR) (by kernel_rfl) rfl rfl ?_
   refine WL.ez (Row 1 (pl (aE .i64)) aA (A00.s (Int.toNat x4)) t6.cS) [0] [Row 3 aa.au aa.aN A00 a0] rfl (fun w hψ => ((hψ _ (List.mem_singleton.2 rfl)).inner _ _ (bg h7).2)) ?_
   obtain ⟨r8, h9, hM⟩ := bind_some hM
   refine WL.cQ [] [] (jF k (A00.s (Int.toNat x4)) t6.bT t6.cU t6.cS _ h9) (bE [0] rfl) (by kernel_rfl) rfl rfl ?_
   refine WL.rn 1 [] [(23, vB (!r8))] ?_
   refine WP.done ?_
   refine WP.cond (!r8) rfl rfl (fun c10 => ?_) (fun c10 => ?_)
   ·replace hM := aG hM c10
    refine WP.seq (WP.rn [] [(4, .pointer none), (5, vI 1)] ?_)
    obtain rfl := oI hM
    exact WP.ret [] [] (.tuple #[.pointer none, vI 1]) (by kernel_rfl) (fun w' hw => ⟨(none : Option Addr), rfl, (hw.pick [] rfl).less (aT [] [1] rfl rfl)⟩)
   ·replace hM := aH hM c10
    refine WP.skip (WP.leave (WP.rn [] [(6, vI (i64 (x4 + 1))), (16, vI x4), (17, vI (i64 (x4 + 1)))] ?_))
    exact WP.cN [0, 3, 5, 6] (x3, i64 (x4 + 1)) hM rfl (fun _ h => (h.pick [0] rfl).aQ [1] rfl)
  ·replace hM := aH hM c5
   refine WP.exit rfl (WP.seq (WP.region (WL.rn 1 [0, 0, 0, 0] [(25, ba.v a1)] ?_)))
   obtain ⟨r11, h12, hM⟩ := bind_some hM
   refine WL.c0 (F0 := []) [] [] [false] (fun _ => _) [] rfl (kD a1 _ h12) rfl rfl (by kernel_rfl) rfl (fun _ => rfl) (fun A13 => ?_)
   refine WL.rn 5 [] [(7, .pointer A13), (8, vI r11)] ?_
   refine WP.done (WP.kp [false] ?_)
   refine WP.seq (WP.seq (WP.rn [] [(30, vB (r11 != 0))] ?_))
   refine WP.cond (r11 != 0) rfl rfl (fun c14 => ?_) (fun c14 => ?_)
   ·replace hM := aG hM c14
    refine WP.seq (WP.rn [] [(4, .pointer none), (5, vI r11)] ?_)
    obtain rfl := oI hM
    exact WP.ret [] [] (.tuple #[.pointer none, vI r11]) (by kernel_rfl) (fun w' hw => ⟨(none : Option Addr), rfl, (hw.pick [] rfl).less (aT [] [0] rfl rfl)⟩)
   ·replace hM := aH hM c14
    refine WP.skip (WP.seq ?_)
    obtain ⟨u17, h16, hM⟩ := bind_some hM
    obtain ⟨t19, h20, hM⟩ := bind_some hM
    refine WP.rs [0, 5, 7] ?_
    refine WP.fB (X := (Nat × (av (av Unit)) × Nat × Nat)) 11 3 [⟨1, 11, fun ξ => [((ξ 0).1, .cells #[] 121 (0, 0))], fun ξ => []⟩, ⟨6, 11, fun ξ => [((ξ 5).2.2.1, .cells (dU (aE .i64) (List.replicate t19 0)) 3 (0, 0))], fun ξ => []⟩, ⟨9, 11, fun ξ => [((ξ 8).2.2.2, .cells #[ae (ξ 2).2.1 a0.length, .slice (some ⟨(ξ 5).2.2.1, 0, none⟩) t19 t19, .pointer A13] 205 (0, 0))], fun ξ => []⟩] [⟨[], [], [0], [], [], fun ξ => .slice (some ⟨(ξ 0).1, 0, none⟩) 0 0, fun ξ => []⟩, ⟨[], [], [], [], [], fun _ => ae A00 a0.length, fun _ => []⟩, ⟨[0, 1], [0], [0], [], [], fun ξ => ae (ξ 2).2.1 a0.length, fun ξ => [Row 3 aa.au aa.aN (ξ 2).2.1 a0]⟩, ⟨[], [], [], [], [], fun _ => ae A00 a0.length, fun _ => []⟩, ⟨[3], [], [], [], [], fun _ => vI (a0.length : Int), fun _ => []⟩, ⟨[3, 4], [], [1], [], [], fun ξ => .slice (some ⟨(ξ 5).2.2.1, 0, none⟩) t19 t19, fun ξ => []⟩, ⟨[], [], [], [], [], fun _ => .pointer A13, fun _ => []⟩, ⟨[0, 1, 2, 3, 4, 5, 6], [], [], [2, 5], [], fun ξ => .agg #[ae (ξ 2).2.1 a0.length, .slice (some ⟨(ξ 5).2.2.1, 0, none⟩) t19 t19, .pointer A13], fun ξ => []⟩, ⟨[0, 1, 2, 3, 4, 5, 6, 7], [], [2], [2, 5], [], fun ξ => .pointer (some ⟨(ξ 8).2.2.2, 0, none⟩), fun ξ => []⟩, ⟨[0, 1, 2, 3, 4, 5, 6, 7, 8], [], [], [8], [], fun ξ => .pointer (some ⟨(ξ 8).2.2.2, 0, none⟩), fun ξ => []⟩, ⟨[0, 1, 2, 3, 4, 5, 6, 7, 8, 9], [], [], [], [], fun _ => vI 0, fun _ => []⟩] (fun ξ => [(4, .pointer (some ⟨(ξ 8).2.2.2, 0, none⟩)), (5, vI 0)]) (fun ξ => [((ξ 0).1, .cells #[] 121 (0, 0)), ((ξ 5).2.2.1, .cells (dU (aE .i64) (List.replicate t19 0)) 3 (0, 0)), ((ξ 8).2.2.2, .cells #[ae (ξ 2).2.1 a0.length, .slice (some ⟨(ξ 5).2.2.1, 0, none⟩) t19 t19, .pointer A13] 205 (0, 0))]) (fun ξ => []) (fun ξ => [Row 3 aa.au aa.aN (ξ 2).2.1 a0]) (aq.cons ?_ (aq.cons ?_ (aq.cons ?_ (aq.cons ?_ (aq.cons ?_ (aq.cons ?_ (aq.cons ?_ (aq.cons ?_ (aq.cons ?_ (aq.cons ?_ (aq.cons ?_ aq.nil))))))))))) (aq.cons (fun t ht ξ ξ' h => by cases ht; have e0 : ξ 0 = ξ' 0 := h 0 (aC.1 rfl); exact ⟨by first | rfl | simp only [e0], by first | rfl | simp only [e0]⟩) (aq.cons (bf.c rfl) (aq.cons (fun t ht ξ ξ' h => by cases ht; have e2 : ξ 2 = ξ' 2 := h 2 (aC.1 rfl); exact ⟨by first | rfl | simp only [e2], by first | rfl | simp only [e2]⟩) (aq.cons (bf.c rfl) (aq.cons (bf.c rfl) (aq.cons (fun t ht ξ ξ' h => by cases ht; have e5 : ξ 5 = ξ' 5 := h 5 (aC.1 rfl); exact ⟨by first | rfl | simp only [e5], by first | rfl | simp only [e5]⟩) (aq.cons (bf.c rfl) (aq.cons (fun t ht ξ ξ' h => by cases ht; have e2 : ξ 2 = ξ' 2 := h 2 (aC.1 rfl); have e5 : ξ 5 = ξ' 5 := h 5 (aC.1 rfl); exact ⟨by first | rfl | simp only [e2, e5], by first | rfl | simp only [e2, e5]⟩) (aq.cons (fun t ht ξ ξ' h => by cases ht; have e8 : ξ 8 = ξ' 8 := h 8 (aC.1 rfl); exact ⟨by first | rfl | simp only [e8], by first | rfl | simp only [e8]⟩) (aq.cons (fun t ht ξ ξ' h => by cases ht; have e8 : ξ 8 = ξ' 8 := h 8 (aC.1 rfl); exact ⟨by first | rfl | simp only [e8], by first | rfl | simp only [e8]⟩) (aq.cons (bf.c rfl) aq.nil))))))))))) (aq.cons (fun r hr ξ ξ' h => by cases hr; have e0 : ξ 0 = ξ' 0 := h 0 (aC.1 rfl); exact ⟨by first | rfl | simp only [e0], by first | rfl | simp only [e0]⟩) (aq.cons (fun r hr ξ ξ' h => by cases hr; have e5 : ξ 5 = ξ' 5 := h 5 (aC.1 rfl); exact ⟨by first | rfl | simp only [e5], by first | rfl | simp only [e5]⟩) (aq.cons (fun r hr ξ ξ' h => by cases hr; have e2 : ξ 2 = ξ' 2 := h 2 (aC.1 rfl); have e5 : ξ 5 = ξ' 5 := h 5 (aC.1 rfl); have e8 : ξ 8 = ξ' 8 := h 8 (aC.1 rfl); exact ⟨by first | rfl | simp only [e2, e5, e8], by first | rfl | simp only [e2, e5, e8]⟩) aq.nil))) (fun ξ => ?_)
    ·
     intro o t ho ht ξ Gr Γr Lr Q hk
     cases ho; cases ht
     refine WL.rh 1 [] (fun b15 => [(32, .slice (some ⟨b15, 0, none⟩) 0 0)]) (fun b15 => []) (fun b15 => [(b15, .cells #[] 121 (0, 0))]) (fun b15 => ?_)
     exact WL.fin (hk (b15, default, default, default))
    ·
     intro o t ho ht ξ Gr Γr Lr Q hk
     cases ho; cases ht
     refine WL.rn 1 [] [(33, ae A00 a0.length)] ?_
     exact WL.fin (hk default)
    ·
     intro o t ho ht ξ Gr Γr Lr Q hk
     cases ho; cases ht
     refine WL.ef (A := (av.at (ξ 0).1 0 (fun _ => (av.nil (fun _ => ()))))) (B := A00) (ys := a0) (n := 0) (m := 3) (by_ := 40) (e := 121) (z := .agg #[vB false, vI 0, .slice none 0 0]) (f := aa.au) (K := aa.aN) (d := 34) rfl rfl rfl rfl rfl (fun _ _ => rfl) (by kernel_rfl) rfl rfl rfl rfl (ar 0 rfl) h16 rfl (fun A18 => ?_)
     refine WL.less (Φ' := (([Row 3 aa.au aa.aN A18 a0, Row 3 aa.au aa.aN A00 a0] ++ Γr) ++ aI)) (fun _ h => h) ?_
     exact WL.fin (hk (default, A18, default, default))
    ·
     intro o t ho ht ξ Gr Γr Lr Q hk
     cases ho; cases ht
     refine WL.rn 1 [] [(35, ae A00 a0.length)] ?_
     exact WL.fin (hk default)
    ·
     intro o t ho ht ξ Gr Γr Lr Q hk
     cases ho; cases ht
     refine WL.rn 1 [] [(36, vI (a0.length : Int))] ?_
     exact WL.fin (hk default)
    ·
     intro o t ho ht ξ Gr Γr Lr Q hk
     cases ho; cases ht
     refine WL.makeSlice (f := (aE .i64)) (z := 0) (zv := vI 0) (i := (a0.length : Int)) (k := .i64) (e := 3) rfl rfl rfl Nat.zero_lt_one (fun _ => rfl) rfl rfl h20 rfl rfl (fun b21 => ?_)
     exact WL.fin (hk (default, default, b21, default))
    ·
     intro o t ho ht ξ Gr Γr Lr Q hk
     cases ho; cases ht
     refine WL.rn 1 [] [(38, .pointer A13)] ?_
     exact WL.fin (hk default)
    ·
     intro o t ho ht ξ Gr Γr Lr Q hk
     cases ho; cases ht
     refine WL.rn 1 [] [(39, .agg #[ae (ξ 2).2.1 a0.length, .slice (some ⟨(ξ 5).2.2.1, 0, none⟩) t19 t19, .pointer A13])] ?_
     exact WL.fin (hk default)
    ·
     intro o t ho ht ξ Gr Γr Lr Q hk
     cases ho; cases ht
     refine WL.rh 1 [] (fun b22 => [(40, vP b22 0)]) (fun b22 => []) (fun b22 => [(b22, .cells #[ae (ξ 2).2.1 a0.length, .slice (some ⟨(ξ 5).2.2.1, 0, none⟩) t19 t19, .pointer A13] 205 (0, 0))]) (fun b22 => ?_)
     exact WL.fin (hk (default, default, default, b22))
    ·
     intro o t ho ht ξ Gr Γr Lr Q hk
     cases ho; cases ht
     refine WL.rn 1 [] [(4, .pointer (some ⟨(ξ 8).2.2.2, 0, none⟩))] ?_
     exact WL.fin (hk default)
    ·
     intro o t ho ht ξ Gr Γr Lr Q hk
     cases ho; cases ht
     refine WL.rn 1 [] [(5, vI 0)] ?_
     exact WL.fin (hk default)
    generalize (ξ 0).1 = b15
    generalize (ξ 2).2.1 = A18
    generalize (ξ 5).2.2.1 = b21
    generalize (ξ 8).2.2.2 = b22
    refine WP.less (Φ' := ([Row 3 aa.au aa.aN A18 a0, Row 3 aa.au aa.aN A00 a0] ++ aI)) (fun _ h => h) ?_
    refine WP.kp [false, true, true] ?_
    obtain rfl := oI hM
    exact WP.ret [] [] (.tuple #[vP b22 0, vI 0]) (by kernel_rfl) (fun w' hw => ⟨(some ⟨b22, 0, none⟩), rfl, (hw.pick [] rfl).less (aT [] [1] rfl rfl)⟩)
def aM.k2 (a2 : (List Bool)) (x25 : Int) (a1 : (List Int)) (x26 : (List an)) (x24 : Int) (rec_l3 : Int → Int → (List an) → Option (dT × Int)) (x34 : Bool) (x35 : Bool) : Option (dT × Int) :=
 bif x35 then
  some ((dT.mk 0 ([] : List an) 0), 1)
 else
  (cI a2.length a2 x25).bind fun t37 =>
  (cI a1.length a1 x25).bind fun t40 =>
  (ey 120 (x26 ++ ([(an.mk (cJ.mk false t40 false (bK.mk 0 0 0 0 0)) t37 0 0 0 0 false 0)] : List an)).length).bind fun u44 =>
  rec_l3 x24 (i64 (x25 + 1)) (x26 ++ ([(an.mk (cJ.mk false t40 false (bK.mk 0 0 0 0 0)) t37 0 0 0 0 false 0)] : List an))
def aM.l3 (a1 : (List Int)) (a2 : (List Bool)) (a0 : Int) : Nat → Int → Int → (List an) → Option (dT × Int)
 | 0, _, _, _ => none
 | n + 1, x24, x25, x26 =>
  bif decide (x25 < (a1.length : Int)) then
   (cI a1.length a1 x25).bind fun t29 =>
   bif decide (t29 < 1) then
    aM.k2 a2 x25 a1 x26 x24 (aM.l3 a1 a2 a0 n) true true
   else
    (cI a1.length a1 x25).bind fun t32 =>
    aM.k2 a2 x25 a1 x26 x24 (aM.l3 a1 a2 a0 n) false (decide (t32 > 16777216))
  else
   some ((dT.mk a0 x26 0), 0)
def aM.f (k : Nat) (a0 : Int) (a1 : (List Int)) (a2 : (List Bool)) : Option (dT × Int) :=
 bif ((decide ((a1.length : Int) > 64)) || ((a1.length : Int) != (a2.length : Int))) then
  some ((dT.mk 0 ([] : List an) 0), 1)
 else
  aM.l3 a1 a2 a0 k 0 0 ([] : List an)
theorem kA (k : Nat) (A00 : av Unit) (A01 : av Unit) (a0 : Int) (a1 : (List Int)) (a2 : (List Bool)) (r : dT × Int) (h : aM.f k a0 a1 a2 = some r) : eT Tryz.prog 38 #[vU a0, ae A00 a1.length, ae A01 a2.length] [] ([Row 1 (pl (aE .i64)) aA A00 a1, Row 1 (pl ca) aA A01 a2] ++ aI) (fun x : (av Unit) => .tuple #[.agg #[vU r.1.aK, ae x r.1.aX.length, vI r.1.vq], vI r.2]) (fun x => []) (fun _ => []) (fun x => [Row 15 (pl an.enc) aA x r.1.aX] ++ ([Row 1 (pl (aE .i64)) aA A00 a1, Row 1 (pl ca) aA A01 a2] ++ aI)) := by
 intro w Z hS
 refine bh (args := [vU a0, ae A00 a1.length, ae A01 a2.length]) (L := [(0, vU a0), (1, ae A00 a1.length), (2, ae A01 a2.length)]) (N := 61) Tryz.func38 hS ?_
 have hM := h
 clear h hS
 unfold aM.f at hM
 refine WP.seq ?_
 refine WP.rh [] (fun b1 => [(6, vP b1 0), (7, vI 0)]) (fun b1 => []) (fun b1 => [(b1, .cells #[vU 0, .slice none 0 0, vI 0] 101 (0, 0))]) (fun b1 => ?_)
 refine WP.seq (WP.seq (WP.region (WL.rn 4 [] [(14, vB (decide ((a1.length : Int) > 64)))] ?_)))
 refine WL.bo 14 (decide ((a1.length : Int) > 64)) 6 [] [] (fun b' => [(20, vB (b' || ((a1.length : Int) != (a2.length : Int))))]) ?_
 refine WP.done ?_
 refine WP.cond ((decide ((a1.length : Int) > 64)) || ((a1.length : Int) != (a2.length : Int))) rfl rfl (fun c2 => ?_) (fun c2 => ?_)
 ·replace hM := aG hM c2
  refine WP.seq (WP.rn [0, 0, 0] [(7, vI 1)] ?_)
  refine WP.ez (Row 15 (pl an.enc) aA (av.nil (fun _ => ())) ([] : List an)) [] [] rfl (fun w _ => eU.empty (fun _ => rfl)) ?_
  obtain rfl := oI hM
  exact WP.ret [0, 0, 0] [b1, b1, b1] (.tuple #[.agg #[vU 0, ae (av.nil (fun _ => ())) ([] : List an).length, vI 0], vI 1]) (by kernel_rfl) (fun w' hw => ⟨(av.nil (fun _ => ())), rfl, (hw.pick [] rfl).less (aT [0] [1, 2] rfl rfl)⟩)
 ·replace hM := aH hM c2
  refine WP.skip (WP.seq ?_)
  refine WP.rh [1, 1, 1] (fun b3 => [(8, vP b3 0)]) (fun b3 => []) (fun b3 => [(b3, .cells #[vU a0, .slice none 0 0, vI 0] 101 (0, 0))]) (fun b3 => ?_)
  refine WP.seq (WP.seq (WP.rn [] [(9, vI 0)] ?_))
  refine WP.block ?_
  refine WP.fH 15 182 (pl an.enc) aA (fun _ => ()) ?_
  skip
  refine WP.sub [1, 2, 6, 7, 8, 9] (L' := [(1, ae A00 a1.length), (2, ae A01 a2.length), (6, vP b1 0), (7, vI 0), (8, vP b3 0), (9, vI 0)]) rfl ?_
  refine WP.aQ [0, 0, 1, 2] (F' := [bC aA (av.nil (fun _ => ())) ([] : List an), bC aA (av.nil (fun _ => ())) ([] : List an), Row 1 (pl (aE .i64)) aA A00 a1, Row 1 (pl ca) aA A01 a2]) rfl ?_
  refine WP.loop (σ := Int × Int × (List an) × av Unit) (fun n st => aM.l3 a1 a2 a0 n st.1 st.2.1 st.2.2.1) r (fun st => [(1, ae A00 a1.length), (2, ae A01 a2.length), (6, vP b1 0), (7, vI st.1), (8, vP b3 0), (9, vI st.2.1)]) (fun st => Sat w Z [(b1, .cells #[vU 0, .slice none 0 0, vI 0] 101 (0, 0)), (b3, .cells #[vU a0, ae st.2.2.2 st.2.2.1.length, vI 0] 101 (0, 0))] [bL 15 182 (pl an.enc) st.2.2.2 st.2.2.1] ([bC aA st.2.2.2 st.2.2.1, bC aA (av.nil (fun _ => ())) ([] : List an), Row 1 (pl (aE .i64)) aA A00 a1, Row 1 (pl ca) aA A01 a2] ++ aI)) (st := (0, 0, ([] : List an), (av.nil (fun _ => ())))) (fun n st hM => ?_) hM
  rcases n with _ | n
  ·exact nomatch (show (none : Option _) = some r from hM)
  obtain ⟨x24, x25, x26, A27⟩ := st
  replace hM : aM.l3 a1 a2 a0 (n + 1) x24 x25 x26 = some r := hM
  rw [aM.l3] at hM
  try dsimp only
  refine WP.seq (WP.seq (WP.rn [] [(24, vI x25), (25, ae A00 a1.length), (26, vI (a1.length : Int)), (27, vB (decide (x25 < (a1.length : Int))))] ?_))
  refine WP.cond (decide (x25 < (a1.length : Int))) rfl rfl (fun c28 => ?_) (fun c28 => ?_)
  ·replace hM := aG hM c28
   refine WP.skip (WP.seq (WP.block (WP.seq (WP.seq (WP.region (WL.rn 2 [] [(30, ae A00 a1.length), (31, vI x25)] ?_))))))
   obtain ⟨t29, h30, hM⟩ := bind_some hM
   refine WL.cd (φ := Row 1 (pl (aE .i64)) aA A00 a1) (ar 2 rfl) (fun w hR => aJ (A := A00) (xs := a1) (i := x25) (k := .i64) (e := 3) (m := 1) rfl rfl h30 rfl rfl hR) (by kernel_rfl) rfl rfl ?_
   refine WL.cd (φ := Row 1 (pl (aE .i64)) aA A00 a1) (ar 2 rfl) (fun w hR => bp (A := A00) (xs := a1) (i := x25) (j := 0) (v := vI t29) h30 (fun _ => by kernel_rfl) rfl rfl hR) (by kernel_rfl) rfl rfl ?_
   refine WL.rn 2 [] [(34, vB (decide (t29 < 1))), (35, vB (decide (t29 < 1)))] ?_
   refine WL.join (σ := Bool × Bool) 6 (fun st => aM.k2 a2 x25 a1 x26 x24 (aM.l3 a1 a2 a0 n) st.1 st.2 = some r) (fun st => [(1, ae A00 a1.length), (2, ae A01 a2.length), (6, vP b1 0), (7, vI x24), (8, vP b3 0), (9, vI x25), (24, vI x25), (25, ae A00 a1.length), (26, vI (a1.length : Int)), (27, vB (decide (x25 < (a1.length : Int)))), (30, ae A00 a1.length), (31, vI x25), (32, dM A00 (Int.toNat x25 * 1)), (33, vI t29), (34, vB (decide (t29 < 1))), (35, vB st.1), (41, vB st.2)]) (fun st => Sat w Z [(b1, .cells #[vU 0, .slice none 0 0, vI 0] 101 (0, 0)), (b3, .cells #[vU a0, ae A27 x26.length, vI 0] 101 (0, 0))] [bL 15 182 (pl an.enc) A27 x26] ([bC aA A27 x26, bC aA (av.nil (fun _ => ())) ([] : List an), Row 1 (pl (aE .i64)) aA A00 a1, Row 1 (pl ca) aA A01 a2] ++ aI)) (fun st hM => ?_) (fun K2 => ?_)
   ·
    obtain ⟨x34, x35⟩ := st
    replace hM : aM.k2 a2 x25 a1 x26 x24 (aM.l3 a1 a2 a0 n) x34 x35 = some r := hM
    unfold aM.k2 at hM
    try dsimp only
    refine WP.done ?_
    refine WP.cond x35 rfl rfl (fun c36 => ?_) (fun c36 => ?_)
    ·replace hM := aG hM c36
     refine WP.seq (WP.rn [0, 0, 0] [(7, vI 1), (42, .agg #[vU 0, .slice none 0 0, vI 0])] ?_)
     refine WP.ez (Row 15 (pl an.enc) aA (av.nil (fun _ => ())) ([] : List an)) [] [] rfl (fun w _ => eU.empty (fun _ => rfl)) ?_
     refine WP.dE (G' := []) [] [0] 1 rfl (by decide) rfl ?_
     obtain rfl := oI hM
     exact WP.ret [0, 0, 0] [b1, b1, b1] (.tuple #[.agg #[vU 0, ae (av.nil (fun _ => ())) ([] : List an).length, vI 0], vI 1]) (by kernel_rfl) (fun w' hw => ⟨(av.nil (fun _ => ())), rfl, (hw.pick [] rfl).less (aT [0] [3, 4] rfl rfl)⟩)
    ·replace hM := aH hM c36
     refine WP.skip (WP.seq (WP.region (WL.rn 2 [] [(43, ae A01 a2.length), (44, vI x25)] ?_)))
     obtain ⟨t37, h38, hM⟩ := bind_some hM
     refine WL.cd (φ := Row 1 (pl ca) aA A01 a2) (ar 3 rfl) (fun w hR => aJ (A := A01) (xs := a2) (i := x25) (k := .i64) (e := 4) (m := 1) rfl rfl h38 rfl rfl hR) (by kernel_rfl) rfl rfl ?_
     refine WL.cd (φ := Row 1 (pl ca) aA A01 a2) (ar 3 rfl) (fun w hR => bp (A := A01) (xs := a2) (i := x25) (j := 0) (v := vB t37) h38 (fun _ => by kernel_rfl) rfl rfl hR) (by kernel_rfl) rfl rfl ?_
     refine WL.rh 3 [2, 2, 2, 2, 2, 2, 2, 2, 2, 2, 2, 2, 2, 2, 2] (fun b39 => [(10, vP b39 0), (47, .agg #[vB false, vI 0, vB false, vU 0, vI 0, vU 0, vI 0, vI 0, vB t37, vI 0, vI 0, vI 0, vI 0, vB false, vI 0])]) (fun b39 => []) (fun b39 => [(b39, .cells #[vB false, vI 0, vB false, vU 0, vI 0, vU 0, vI 0, vI 0, vB t37, vI 0, vI 0, vI 0, vI 0, vB false, vI 0] 182 (0, 0))]) (fun b39 => ?_)
     refine WP.done (WP.seq (WP.region (WL.rn 2 [] [(48, ae A00 a1.length), (49, vI x25)] ?_)))
     obtain ⟨t40, h41, hM⟩ := bind_some hM
     refine WL.cd (φ := Row 1 (pl (aE .i64)) aA A00 a1) (ar 2 rfl) (fun w hR => aJ (A := A00) (xs := a1) (i := x25) (k := .i64) (e := 3) (m := 1) rfl rfl h41 rfl rfl hR) (by kernel_rfl) rfl rfl ?_
     refine WL.cd (φ := Row 1 (pl (aE .i64)) aA A00 a1) (ar 2 rfl) (fun w hR => bp (A := A00) (xs := a1) (i := x25) (j := 0) (v := vI t40) h41 (fun _ => by kernel_rfl) rfl rfl hR) (by kernel_rfl) rfl rfl ?_
     refine WL.rh 3 [2] (fun _ => [(52, vP b39 0), (53, vP b39 1)]) (fun _ => [(2, 1, [vI t40])]) (fun _ => []) (fun _ => ?_)
     refine WP.done (WP.region ?_)
     refine WL.rh 4 [1, 2, 2, 2, 2, 2, 2, 2, 2, 2, 2, 2, 2, 2, 2, 2] (fun b42 => [(54, vP b3 1), (55, ae A27 x26.length), (56, .agg #[vB false, vI t40, vB false, vU 0, vI 0, vU 0, vI 0, vI 0, vB t37, vI 0, vI 0, vI 0, vI 0, vB false, vI 0]), (57, .slice (some ⟨b42, 0, none⟩) 1 1)]) (fun b42 => []) (fun b42 => [(b42, .cells #[vB false, vI t40, vB false, vU 0, vI 0, vU 0, vI 0, vI 0, vB t37, vI 0, vI 0, vI 0, vI 0, vB false, vI 0] 182 (0, 0))]) (fun b42 => ?_)
     refine WL.tW (H' := [(b1, .cells #[vU 0, .slice none 0 0, vI 0] 101 (0, 0)), (b3, .cells #[vU a0, ae A27 x26.length, vI 0] 101 (0, 0)), (b39, .cells #[vB false, vI t40, vB false, vU 0, vI 0, vU 0, vI 0, vI 0, vB t37, vI 0, vI 0, vI 0, vI 0, vB false, vI 0] 182 (0, 0))]) (Row 15 (pl an.enc) aA (av.at b42 1 (fun _ => ())) ([(an.mk (cJ.mk false t40 false (bK.mk 0 0 0 0 0)) t37 0 0 0 0 false 0)] : List an)) 3 (b := b42) (ob := .cells #[vB false, vI t40, vB false, vU 0, vI 0, vU 0, vI 0, vI 0, vB t37, vI 0, vI 0, vI 0, vI 0, vB false, vI 0] 182 (0, 0)) rfl [] [] rfl (fun w hb hψ => cl hb (fun _ _ => rfl) ⟨[], by kernel_rfl⟩ (nB rfl) (jj.no _ _)) rfl ?_
     obtain ⟨u44, h43, hM⟩ := bind_some hM
     refine WL.dW (G' := []) (A := A27) (B := (av.at b42 1 (fun _ => ()))) (xs := x26) (ys := ([(an.mk (cJ.mk false t40 false (bK.mk 0 0 0 0 0)) t37 0 0 0 0 false 0)] : List an)) (m := 15) (by_ := 120) (e := 182) (z := .agg #[vB false, vI 0, vB false, vU 0, vI 0, vU 0, vI 0, vI 0, vB false, vI 0, vI 0, vI 0, vI 0, vB false, vI 0]) (f := (pl an.enc)) (K := aA) (d := 58) 0 rfl rfl rfl rfl rfl rfl rfl (fun _ _ => rfl) (fun _ _ => rfl) (by kernel_rfl) rfl rfl rfl rfl (ar 1 rfl) (ar 0 rfl) h43 rfl (fun A45 => ?_)
     refine WL.less (Φ' := ([bC aA A45 (x26 ++ ([(an.mk (cJ.mk false t40 false (bK.mk 0 0 0 0 0)) t37 0 0 0 0 false 0)] : List an)), Row 15 (pl an.enc) aA (av.at b42 1 (fun _ => ())) ([(an.mk (cJ.mk false t40 false (bK.mk 0 0 0 0 0)) t37 0 0 0 0 false 0)] : List an), bC aA A27 x26, bC aA (av.nil (fun _ => ())) ([] : List an), Row 1 (pl (aE .i64)) aA A00 a1, Row 1 (pl ca) aA A01 a2] ++ aI)) (fun _ h => h) ?_
     refine WL.rh 2 [1] (fun _ => [(59, vP b3 1)]) (fun _ => [(1, 1, [ae A45 (x26 ++ ([(an.mk (cJ.mk false t40 false (bK.mk 0 0 0 0 0)) t37 0 0 0 0 false 0)] : List an)).length])]) (fun _ => []) (fun _ => ?_)
     refine WP.done (WP.leave (WP.rn [] [(9, vI (i64 (x25 + 1))), (28, vI x25), (29, vI (i64 (x25 + 1)))] ?_))
     exact WP.cN [1, 2, 6, 7, 8, 9] (x24, i64 (x25 + 1), (x26 ++ ([(an.mk (cJ.mk false t40 false (bK.mk 0 0 0 0 0)) t37 0 0 0 0 false 0)] : List an)), A45) hM rfl (fun _ h => ((h.pick [0, 1] rfl).aQ [0, 3, 4, 5] rfl).dE [0] [] 1 rfl (by decide) rfl)
   ·
    refine WL.sp 35 (decide (t29 < 1)) (fun c31 => ?_) (fun c31 => ?_)
    ·replace hM := aG hM c31
     refine WL.rn 6 [] [(36, .tuple #[]), (37, .tuple #[]), (38, .tuple #[]), (39, .tuple #[]), (40, .tuple #[]), (41, vB true)] ?_
     exact WL.sub [1, 2, 6, 7, 8, 9, 24, 25, 26, 27, 30, 31, 32, 33, 34, 35, 41] rfl (WL.pick [0, 1] rfl rfl (WL.dE [0] [] 1 rfl (by decide) rfl (WL.aQ [0, 1, 2, 3] rfl (K2 (true, true) hM))))
    ·replace hM := aH hM c31
     refine WL.rn 2 [] [(36, ae A00 a1.length), (37, vI x25)] ?_
     obtain ⟨t32, h33, hM⟩ := bind_some hM
     refine WL.cd (φ := Row 1 (pl (aE .i64)) aA A00 a1) (ar 2 rfl) (fun w hR => aJ (A := A00) (xs := a1) (i := x25) (k := .i64) (e := 3) (m := 1) rfl rfl h33 rfl rfl hR) (by kernel_rfl) rfl rfl ?_
     refine WL.cd (φ := Row 1 (pl (aE .i64)) aA A00 a1) (ar 2 rfl) (fun w hR => bp (A := A00) (xs := a1) (i := x25) (j := 0) (v := vI t32) h33 (fun _ => by kernel_rfl) rfl rfl hR) (by kernel_rfl) rfl rfl ?_
     refine WL.rn 2 [] [(40, vB (decide (t32 > 16777216))), (41, vB (decide (t32 > 16777216)))] ?_
     exact WL.sub [1, 2, 6, 7, 8, 9, 24, 25, 26, 27, 30, 31, 32, 33, 34, 35, 41] rfl (WL.pick [0, 1] rfl rfl (WL.dE [0] [] 1 rfl (by decide) rfl (WL.aQ [0, 1, 2, 3] rfl (K2 (false, decide (t32 > 16777216)) hM))))
  ·replace hM := aH hM c28
   refine WP.exit rfl (WP.seq ?_)
   refine WP.rh [1, 1, 1, 0, 0, 0] (fun _ => [(7, vI 0)]) (fun _ => [(0, 0, [vU a0, ae A27 x26.length])]) (fun _ => []) (fun _ => ?_)
   refine WP.kp [true, false] ?_
   refine WP.dD (G' := []) (m := 15) (e := 182) (f := (pl an.enc)) (K := aA) (A := A27) (xs := x26) 0 0 rfl rfl (fun _ _ => rfl) rfl ?_
   obtain rfl := oI hM
   exact WP.ret [0, 0, 0] [b1, b1, b1] (.tuple #[.agg #[vU a0, ae A27 x26.length, vI 0], vI 0]) (by kernel_rfl) (fun w' hw => ⟨A27, rfl, (hw.pick [] rfl).less (aT [0] [3, 4] rfl rfl)⟩)
end Go.Proofs.YtkpjjncdicgkkaaGreatDoor
