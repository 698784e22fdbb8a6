/- The walks of the functions that the laws reach: each shows that a call returns what its plain model says, wherever the model gives an answer. -/
import Derived.Test.YtkpjjncdicgkkaaGreatDoorF1
import Derived.Test.YtkpjjncdicgkkaaGreatDoorF3

namespace Go.Proofs.YtkpjjncdicgkkaaGreatDoor
set_option maxRecDepth 100000
set_option linter.unusedVariables false
set_option linter.unusedSimpArgs false
open Go Eng
def ax.f (a0 : (List ax)) : Option (List ax) := (ey 24 a0.length).bind fun _ => some a0
theorem ox (A00 : av Unit) (a0 : (List ax)) (r : (List ax)) (h : ax.f a0 = some r) : eT Tryz.prog 52 #[ae A00 a0.length] [] ([Row 2 (pl ax.enc) aA A00 a0] ++ aI) (fun x : av Unit => ae x r.length) (fun _ => []) (fun _ => []) (fun x => [Row 2 (pl ax.enc) aA x r] ++ ([Row 2 (pl ax.enc) aA A00 a0] ++ aI)) := by
 intro w Z hS
 refine gz (args := [ae A00 a0.length]) (L := [(0, ae A00 a0.length)]) (N := 8) (S := Sat w Z [] [] ([Row 2 (pl ax.enc) aA A00 a0] ++ aI)) Tryz.func52 rfl rfl (nB rfl) rfl hS ?_
 have hM := h
 clear h hS
 unfold ax.f at hM
 refine WP.fact (Row 2 (pl ax.enc) aA A00 a0) (ar 0 rfl) (fun w hw => hw.nil) (fun hn => ?_)
 obtain ⟨a, c, s, z⟩ := A00
 cases a with
 | none =>
  obtain ⟨h1, h2⟩ := hn rfl
  dsimp only at h1 h2
  subst h1; subst h2
  cases z with
  | none =>
   obtain ⟨u0, hu0, hM⟩ := bind_some hM
   obtain rfl := oI hM
   show WP _ _ _ _ _ [(0, .slice none 0 0)] (Sat _ _ _ _ ([Row 2 (pl ax.enc) aA (⟨none, 0, s, none⟩ : av Unit) ([] : List ax)] ++ aI))
   refine WP.seq (WP.rn [] [(2, .slice none 0 0)] ?_)
   refine WP.seq (WP.seq (WP.rn [] [(4, vB true)] ?_))
   refine WP.yes rfl rfl (WP.seq (WP.rn [] [(2, .slice none 0 0)] ?_))
   refine WP.ez (Row 2 (pl ax.enc) aA (av.nil (fun _ => ())) ([] : List ax)) [] [] rfl (fun w _ => eU.empty (fun _ => rfl)) ?_
   exact WP.ret [] [] (ae (av.nil (fun _ => ())) ([] : List ax).length) (by kernel_rfl) (fun w' hw => ⟨(av.nil (fun _ => ())), rfl, (hw.pick [] rfl).less (aT [0] [1] rfl rfl)⟩)
  | some ad =>
   refine WP.seq (WP.rn [] [(2, .slice none 0 0)] ?_)
   refine WP.seq (WP.seq (WP.rn [] [(4, vB false)] ?_))
   refine WP.no rfl rfl (WP.skip (WP.seq (WP.region ?_)))
   refine WL.rh 2 [] (fun b1 => [(5, .slice (some ⟨b1, 0, none⟩) 0 0), (6, ae (⟨none, 0, s, some ad⟩ : av Unit) ([] : List ax).length)]) (fun b1 => []) (fun b1 => [(b1, .cells #[] 146 (0, 0))]) (fun b1 => ?_)
   obtain ⟨u3, h2, hM⟩ := bind_some hM
   refine WL.ef (A := (av.at b1 0 (fun _ => ()))) (B := (⟨none, 0, s, some ad⟩ : av Unit)) (ys := ([] : List ax)) (n := 0) (m := 2) (by_ := 24) (e := 146) (z := .agg #[vI 0, .string (⟨#[]⟩ : ByteArray)]) (f := (pl ax.enc)) (K := aA) (d := 7) rfl rfl rfl rfl rfl (fun _ _ => rfl) (by kernel_rfl) rfl rfl rfl rfl (ar 0 rfl) h2 rfl (fun A4 => ?_)
   refine WL.less (Φ' := ([Row 2 (pl ax.enc) aA A4 ([] : List ax), Row 2 (pl ax.enc) aA (⟨none, 0, s, some ad⟩ : av Unit) ([] : List ax)] ++ aI)) (fun _ h => h) ?_
   refine WL.rn 1 [] [(2, ae A4 ([] : List ax).length)] ?_
   refine WP.done (WP.kp [false] ?_)
   obtain rfl := oI hM
   exact WP.ret [] [] (ae A4 ([] : List ax).length) (by kernel_rfl) (fun w' hw => ⟨A4, rfl, (hw.pick [] rfl).less (aT [0] [1] rfl rfl)⟩)
 | some p =>
  obtain ⟨b, o⟩ := p
  refine WP.seq (WP.rn [] [(2, .slice none 0 0)] ?_)
  refine WP.seq (WP.seq (WP.rn [] [(4, vB false)] ?_))
  refine WP.no rfl rfl (WP.skip (WP.seq (WP.region ?_)))
  refine WL.rh 2 [] (fun b1 => [(5, .slice (some ⟨b1, 0, none⟩) 0 0), (6, ae (⟨some (b, o), c, s, z⟩ : av Unit) a0.length)]) (fun b1 => []) (fun b1 => [(b1, .cells #[] 146 (0, 0))]) (fun b1 => ?_)
  obtain ⟨u3, h2, hM⟩ := bind_some hM
  refine WL.ef (A := (av.at b1 0 (fun _ => ()))) (B := (⟨some (b, o), c, s, z⟩ : av Unit)) (ys := a0) (n := 0) (m := 2) (by_ := 24) (e := 146) (z := .agg #[vI 0, .string (⟨#[]⟩ : ByteArray)]) (f := (pl ax.enc)) (K := aA) (d := 7) rfl rfl rfl rfl rfl (fun _ _ => rfl) (by kernel_rfl) rfl rfl rfl rfl (ar 0 rfl) h2 rfl (fun A4 => ?_)
  refine WL.less (Φ' := ([Row 2 (pl ax.enc) aA A4 a0, Row 2 (pl ax.enc) aA (⟨some (b, o), c, s, z⟩ : av Unit) a0] ++ aI)) (fun _ h => h) ?_
  refine WL.rn 1 [] [(2, ae A4 a0.length)] ?_
  refine WP.done (WP.kp [false] ?_)
  obtain rfl := oI hM
  exact WP.ret [] [] (ae A4 a0.length) (by kernel_rfl) (fun w' hw => ⟨A4, rfl, (hw.pick [] rfl).less (aT [0] [1] rfl rfl)⟩)
def iv.f (a0 : (List ax)) (a0_1 : Int) : Option ((List ax)) :=
 (ax.f a0).bind fun r1 =>
 some r1
theorem kT (b_0 : Nat) (A00 : av Unit) (a0 : (List ax)) (a0_1 : Int) (r : (List ax)) (h : iv.f a0 a0_1 = some r) : eT Tryz.prog 25 #[vP b_0 0] [(b_0, .cells #[ae A00 a0.length, vI a0_1] 93 (0, 0))] ([Row 2 (pl ax.enc) aA A00 a0] ++ aI) (fun x : (av Unit) => ae x r.length) (fun x => [(b_0, .cells #[ae A00 a0.length, vI a0_1] 93 (0, 0))]) (fun _ => []) (fun x => [Row 2 (pl ax.enc) aA x r] ++ ([Row 2 (pl ax.enc) aA A00 a0] ++ aI)) := by
 intro w Z hS
 refine bh (args := [vP b_0 0]) (L := [(0, vP b_0 0)]) (N := 8) Tryz.func25 hS ?_
 have hM := h
 clear h hS
 unfold iv.f at hM
 refine WP.seq (WP.rn [] [(2, .slice none 0 0)] ?_)
 refine WP.seq (WP.region (WL.rn 4 [0] [(6, ae A00 a0.length)] ?_))
 obtain ⟨r1, h2, hM⟩ := bind_some hM
 refine WL.c0 (F0 := [Row 2 (pl ax.enc) aA A00 a0]) [] [] [false] (fun _ => _) [0] rfl (ox A00 a0 _ h2) rfl rfl (by kernel_rfl) rfl (fun _ => rfl) (fun A3 => ?_)
 refine WL.rn 1 [] [(2, ae A3 r1.length)] ?_
 refine WP.done ?_
 obtain rfl := oI hM
 exact WP.ret [] [] (ae A3 r1.length) (by kernel_rfl) (fun w' hw => ⟨A3, rfl, (hw.pick [0] rfl).less (aT [0] [1] rfl rfl)⟩)
def fu.f (a0 : (List Unit)) (a0_1 : (List Int)) (a0_2 : (List ax)) (a0_3 : Int) (a0_4 : Int) (a0_5 : Int) : Option ((List ax)) :=
 (iv.f a0_2 a0_3).bind fun r1 =>
 some r1
theorem j4 (b_0 : Nat) (b_1 : Nat) (A00 : av (Option Addr)) (A01 : av Unit) (A02 : av Unit) (a0 : (List Unit)) (a0_1 : (List Int)) (a0_2 : (List ax)) (a0_3 : Int) (a0_4 : Int) (a0_5 : Int) (r : (List ax)) (h : fu.f a0 a0_1 a0_2 a0_3 a0_4 a0_5 = some r) : eT Tryz.prog 9 #[vP b_0 0] [(b_0, .cells #[ae A00 a0.length, ae A01 a0_1.length, vP b_1 0, vI a0_4, vI a0_5] 48 (0, 0)), (b_1, .cells #[ae A02 a0_2.length, vI a0_3] 93 (0, 0))] ([Row 1 eQ gi A00 a0, Row 1 (pl (aE .u64)) aA A01 a0_1, Row 2 (pl ax.enc) aA A02 a0_2] ++ aI) (fun x : (av Unit) => ae x r.length) (fun x => [(b_0, .cells #[ae A00 a0.length, ae A01 a0_1.length, vP b_1 0, vI a0_4, vI a0_5] 48 (0, 0)), (b_1, .cells #[ae A02 a0_2.length, vI a0_3] 93 (0, 0))]) (fun _ => []) (fun x => [Row 2 (pl ax.enc) aA x r] ++ ([Row 1 eQ gi A00 a0, Row 1 (pl (aE .u64)) aA A01 a0_1, Row 2 (pl ax.enc) aA A02 a0_2] ++ aI)) := by
 intro w Z hS
 refine bh (args := [vP b_0 0]) (L := [(0, vP b_0 0)]) (N := 8) Tryz.func9 hS ?_
 have hM := h
 clear h hS
 unfold fu.f at hM
 refine WP.seq (WP.rn [] [(2, .slice none 0 0)] ?_)
 refine WP.seq (WP.region ?_)
 refine WL.rn 4 [0] [(6, vP b_1 0)] ?_
 obtain ⟨r1, h2, hM⟩ := bind_some hM
 refine WL.c0 (F0 := [Row 2 (pl ax.enc) aA A02 a0_2]) [] [] [false, true] (fun _ => _) [2] rfl (kT b_1 A02 a0_2 a0_3 _ h2) rfl rfl (by kernel_rfl) rfl (fun _ => rfl) (fun A3 => ?_)
 refine WL.rn 1 [] [(2, ae A3 r1.length)] ?_
 refine WP.done ?_
 obtain rfl := oI hM
 exact WP.ret [] [] (ae A3 r1.length) (by kernel_rfl) (fun w' hw => ⟨A3, rfl, (hw.pick [1, 0] rfl).less (aT [0] [1, 2, 3] rfl rfl)⟩)
def fv.f (a0 : (List Unit)) (a0_1 : (List Int)) (a0_2 : (List ax)) (a0_3 : Int) (a0_4 : Int) (a0_5 : Int) : Option (Int) :=
 some a0_4
theorem j5 (b_0 : Nat) (b_1 : Nat) (A00 : av (Option Addr)) (A01 : av Unit) (A02 : av Unit) (a0 : (List Unit)) (a0_1 : (List Int)) (a0_2 : (List ax)) (a0_3 : Int) (a0_4 : Int) (a0_5 : Int) (r : Int) (h : fv.f a0 a0_1 a0_2 a0_3 a0_4 a0_5 = some r) : eT Tryz.prog 10 #[vP b_0 0] [(b_0, .cells #[ae A00 a0.length, ae A01 a0_1.length, vP b_1 0, vI a0_4, vI a0_5] 48 (0, 0)), (b_1, .cells #[ae A02 a0_2.length, vI a0_3] 93 (0, 0))] ([Row 1 eQ gi A00 a0, Row 1 (pl (aE .u64)) aA A01 a0_1, Row 2 (pl ax.enc) aA A02 a0_2] ++ aI) (fun _ : Unit => vI r) (fun _ => [(b_0, .cells #[ae A00 a0.length, ae A01 a0_1.length, vP b_1 0, vI a0_4, vI a0_5] 48 (0, 0)), (b_1, .cells #[ae A02 a0_2.length, vI a0_3] 93 (0, 0))]) (fun _ => []) (fun _ => ([Row 1 eQ gi A00 a0, Row 1 (pl (aE .u64)) aA A01 a0_1, Row 2 (pl ax.enc) aA A02 a0_2] ++ aI)) := by
 intro w Z hS
 refine bh (args := [vP b_0 0]) (L := [(0, vP b_0 0)]) (N := 7) Tryz.func10 hS ?_
 have hM := h
 clear h hS
 unfold fv.f at hM
 refine WP.seq (WP.rn [] [(2, vI 0)] ?_)
 refine WP.seq (WP.rn [0] [(2, vI a0_4)] ?_)
 obtain rfl := oI hM
 exact WP.ret [] [] (vI a0_4) (by kernel_rfl) (fun w' hw => ⟨(), rfl, (hw.pick [0, 1] rfl).aQ [0, 1, 2] rfl⟩)
def fg.f (a0 : (List Unit)) (a0_1 : (List Int)) (a0_2 : (List ax)) (a0_3 : Int) (a0_4 : Int) (a0_5 : Int) : Option (Int) :=
 some a0_5
theorem jK (b_0 : Nat) (b_1 : Nat) (A00 : av (Option Addr)) (A01 : av Unit) (A02 : av Unit) (a0 : (List Unit)) (a0_1 : (List Int)) (a0_2 : (List ax)) (a0_3 : Int) (a0_4 : Int) (a0_5 : Int) (r : Int) (h : fg.f a0 a0_1 a0_2 a0_3 a0_4 a0_5 = some r) : eT Tryz.prog 11 #[vP b_0 0] [(b_0, .cells #[ae A00 a0.length, ae A01 a0_1.length, vP b_1 0, vI a0_4, vI a0_5] 48 (0, 0)), (b_1, .cells #[ae A02 a0_2.length, vI a0_3] 93 (0, 0))] ([Row 1 eQ gi A00 a0, Row 1 (pl (aE .u64)) aA A01 a0_1, Row 2 (pl ax.enc) aA A02 a0_2] ++ aI) (fun _ : Unit => vI r) (fun _ => [(b_0, .cells #[ae A00 a0.length, ae A01 a0_1.length, vP b_1 0, vI a0_4, vI a0_5] 48 (0, 0)), (b_1, .cells #[ae A02 a0_2.length, vI a0_3] 93 (0, 0))]) (fun _ => []) (fun _ => ([Row 1 eQ gi A00 a0, Row 1 (pl (aE .u64)) aA A01 a0_1, Row 2 (pl ax.enc) aA A02 a0_2] ++ aI)) := by
 intro w Z hS
 refine bh (args := [vP b_0 0]) (L := [(0, vP b_0 0)]) (N := 7) Tryz.func11 hS ?_
 have hM := h
 clear h hS
 unfold fg.f at hM
 refine WP.seq (WP.rn [] [(2, vI 0)] ?_)
 refine WP.seq (WP.rn [0] [(2, vI a0_5)] ?_)
 obtain rfl := oI hM
 exact WP.ret [] [] (vI a0_5) (by kernel_rfl) (fun w' hw => ⟨(), rfl, (hw.pick [0, 1] rfl).aQ [0, 1, 2] rfl⟩)
def dR.f (a0 : (List Unit)) (a0_1 : (List Int)) (a0_2 : (List ax)) (a0_3 : Int) (a0_4 : Int) (a0_5 : Int) (a1 : Int) : Option ((List fJ)) :=
 (dK.f a0 a0_1 a0_2 a0_3 a0_4 a0_5 a1).bind fun r1 =>
 bif !r1 then
  some ([] : List fJ)
 else
  none
theorem iY (b_0 : Nat) (b_1 : Nat) (A00 : av (Option Addr)) (A01 : av Unit) (A02 : av Unit) (a0 : (List Unit)) (a0_1 : (List Int)) (a0_2 : (List ax)) (a0_3 : Int) (a0_4 : Int) (a0_5 : Int) (a1 : Int) (r : (List fJ)) (h : dR.f a0 a0_1 a0_2 a0_3 a0_4 a0_5 a1 = some r) : eT Tryz.prog 12 #[vP b_0 0, vI a1] [(b_0, .cells #[ae A00 a0.length, ae A01 a0_1.length, vP b_1 0, vI a0_4, vI a0_5] 48 (0, 0)), (b_1, .cells #[ae A02 a0_2.length, vI a0_3] 93 (0, 0))] ([Row 1 eQ gi A00 a0, Row 1 (pl (aE .u64)) aA A01 a0_1, Row 2 (pl ax.enc) aA A02 a0_2] ++ aI) (fun x : (av Unit) => ae x r.length) (fun x => [(b_0, .cells #[ae A00 a0.length, ae A01 a0_1.length, vP b_1 0, vI a0_4, vI a0_5] 48 (0, 0)), (b_1, .cells #[ae A02 a0_2.length, vI a0_3] 93 (0, 0))]) (fun _ => []) (fun x => [Row 6 (pl fJ.enc) aA x r] ++ ([Row 1 eQ gi A00 a0, Row 1 (pl (aE .u64)) aA A01 a0_1, Row 2 (pl ax.enc) aA A02 a0_2] ++ aI)) := by
 intro w Z hS
 refine bh (args := [vP b_0 0, vI a1]) (L := [(0, vP b_0 0), (1, vI a1)]) (N := 18) Tryz.func12 hS ?_
 have hM := h
 clear h hS
 unfold dR.f at hM
 refine WP.seq (WP.rn [] [(4, .slice none 0 0)] ?_)
 refine WP.seq (WP.seq (WP.region ?_))
 refine WL.rn 2 [] [(5, vP b_0 0), (6, vI a1)] ?_
 obtain ⟨r1, h2, hM⟩ := bind_some hM
 refine WL.qC (X := Unit) [] [] [true, true] (fun _ => _) (gy b_0 b_1 A00 A01 A02 a0 a0_1 a0_2 a0_3 a0_4 a0_5 a1 _ h2) rfl rfl (bE [0, 1, 2] rfl) (by kernel_rfl) rfl (fun _ => rfl) (fun _ => ?_)
 refine WL.rn 1 [] [(8, vB (!r1))] ?_
 refine WP.done ?_
 refine WP.cond (!r1) rfl rfl (fun c3 => ?_) (fun c3 => ?_)
 ·replace hM := aG hM c3
  refine WP.seq (WP.rn [] [(4, .slice none 0 0)] ?_)
  refine WP.ez (Row 6 (pl fJ.enc) aA (av.nil (fun _ => ())) ([] : List fJ)) [] [] rfl (fun w _ => eU.empty (fun _ => rfl)) ?_
  obtain rfl := oI hM
  exact WP.ret [] [] (ae (av.nil (fun _ => ())) ([] : List fJ).length) (by kernel_rfl) (fun w' hw => ⟨(av.nil (fun _ => ())), rfl, (hw.pick [0, 1] rfl).less (aT [0] [1, 2, 3] rfl rfl)⟩)
 ·replace hM := aH hM c3
  refine WP.skip ?_
  exact absurd hM (by simp)
end Go.Proofs.YtkpjjncdicgkkaaGreatDoor
