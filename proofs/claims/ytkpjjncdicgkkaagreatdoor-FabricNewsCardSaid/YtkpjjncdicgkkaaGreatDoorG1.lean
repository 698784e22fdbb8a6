/- The walks of the functions that hang on the closed run: each shows that a call returns what its plain model says, wherever the model gives an answer. -/
import Derived.Test.YtkpjjncdicgkkaaGreatDoorY
import Derived.Test.YtkpjjncdicgkkaaGreatDoorF1
import Derived.Test.YtkpjjncdicgkkaaGreatDoorF2
import Derived.Test.YtkpjjncdicgkkaaGreatDoorF3
import Derived.Test.YtkpjjncdicgkkaaGreatDoorF4

namespace Go.Proofs.YtkpjjncdicgkkaaGreatDoor
set_option maxRecDepth 100000
set_option linter.unusedVariables false
set_option linter.unusedSimpArgs false
open Go Eng
def fU.f : Option Bool := some true
theorem fS (r : Bool) (h : fU.f = some r) : Pure Tryz.prog aI 7 #[] (vB r) := by
 obtain rfl := oI h
 exact u4
def dP.f (k : Nat) (a0 : (List ah)) (a1 : Int) : Option (Bool) :=
 (bq.f k a0).bind fun r1 =>
 (ga.f k r1 a1).bind fun r4 =>
 (bq.f k a0).bind fun r6 =>
 (dX.f k r6 a1).bind fun r9 =>
 bif ((r4 != r9) || (!(true == true))) then
  some false
 else
  (fU.f).bind fun r12 =>
  some r12
theorem gQ (k : Nat) (A00 : av ((av (av Unit)) × (av Unit) × (av (av Unit)) × (av Unit))) (a0 : (List ah)) (a1 : Int) (r : Bool) (h : dP.f k a0 a1 = some r) : Pure Tryz.prog ([Row 21 ah.au ah.aN A00 a0] ++ aI) 3 #[ae A00 a0.length, vI a1] (vB r) := by
 intro w Z hS
 refine bh (args := [ae A00 a0.length, vI a1]) (L := [(0, ae A00 a0.length), (1, vI a1)]) (N := 85) Tryz.func3 hS ?_
 have hM := h
 clear h hS
 unfold dP.f at hM
 refine WP.seq (WP.rn [] [(4, vB false)] ?_)
 refine WP.seq (WP.region (WL.rn 1 [] [(14, ae A00 a0.length)] ?_))
 obtain ⟨r1, h2, hM⟩ := bind_some hM
 refine WL.c0 (F0 := [Row 21 ah.au ah.aN A00 a0]) [] [] [] (fun _ => _) [0] rfl (dh k A00 a0 _ h2) rfl rfl (by kernel_rfl) rfl (fun _ => rfl) (fun A3 => ?_)
 refine WL.rn 1 [] [(16, vI a1)] ?_
 obtain ⟨r4, h5, hM⟩ := bind_some hM
 refine WL.cQ [] [] (mZ k A3 r1 a1 _ h5) (bE [0] rfl) (by kernel_rfl) rfl rfl ?_
 refine WL.rn 5 [] [(5, .pointer none), (6, vI r4)] ?_
 refine WP.done (WP.seq (WP.region (WL.rn 1 [] [(21, ae A00 a0.length)] ?_)))
 obtain ⟨r6, h7, hM⟩ := bind_some hM
 refine WL.c0 (F0 := [Row 21 ah.au ah.aN A00 a0]) [] [] [] (fun _ => _) [1] rfl (dh k A00 a0 _ h7) rfl rfl (by kernel_rfl) rfl (fun _ => rfl) (fun A8 => ?_)
 refine WL.rn 1 [] [(23, vI a1)] ?_
 obtain ⟨r9, h10, hM⟩ := bind_some hM
 refine WL.cQ [] [] (j0 k A8 r6 a1 _ h10) (bE [0] rfl) (by kernel_rfl) rfl rfl ?_
 refine WL.rn 5 [] [(7, .pointer none), (8, vI r9)] ?_
 refine WP.done (WP.seq (WP.seq (WP.region (WL.rn 4 [] [(30, vB (r4 != r9))] ?_))))
 refine WL.bo 30 (r4 != r9) 6 [] [] (fun b' => [(36, vB (b' || (!(true == true))))]) ?_
 refine WP.done ?_
 refine WP.cond ((r4 != r9) || (!(true == true))) rfl rfl (fun c11 => ?_) (fun c11 => ?_)
 ·replace hM := aG hM c11
  refine WP.seq (WP.rn [] [(4, vB false)] ?_)
  obtain rfl := oI hM
  exact WP.dI [] [] [2]
 ·replace hM := aH hM c11
  refine WP.skip (WP.seq (WP.seq (WP.rn [] [(38, vB true)] ?_)))
  refine WP.yes rfl rfl (WP.seq (WP.region ?_))
  obtain ⟨r12, h13, hM⟩ := bind_some hM
  refine WL.cQ [] [] (fS _ h13) (fun _ h => List.mem_append_right _ h) (by kernel_rfl) rfl rfl ?_
  refine WL.rn 1 [] [(4, vB r12)] ?_
  refine WP.done ?_
  obtain rfl := oI hM
  exact WP.dI [] [] [2]
def az.k1 (x56 : Bool) : Option (Bool) :=
 some x56
def az.k2 (x52 : Bool) : Option (Bool) :=
 bif x52 then
  (fU.f).bind fun r54 =>
  az.k1 r54
 else
  az.k1 false
def az.k3 (r27 : Bool) (r34 : Bool) (r4 : (List Unit)) (r5 : (List Int)) (r6 : (List ax)) (r7 : Int) (r8 : Int) (r9 : Int) (x47 : Bool) : Option (Bool) :=
 bif ((x47 && (!r27)) && (!r34)) then
  (dR.f r4 r5 r6 r7 r8 r9 0).bind fun r49 =>
  az.k2 ((r49.length : Int) == 0)
 else
  az.k2 false
def az.k4 (r4 : (List Unit)) (r5 : (List Int)) (r6 : (List ax)) (r7 : Int) (r8 : Int) (r9 : Int) (r27 : Bool) (r34 : Bool) (x43 : Bool) : Option (Bool) :=
 bif x43 then
  (fg.f r4 r5 r6 r7 r8 r9).bind fun r45 =>
  az.k3 r27 r34 r4 r5 r6 r7 r8 r9 (r45 == 0)
 else
  az.k3 r27 r34 r4 r5 r6 r7 r8 r9 false
def az.f (k : Nat) (a0 : (List ah)) (a1 : Int) : Option (Bool) :=
 (bq.f k a0).bind fun r1 =>
 (cP.f k r1 a1).bind fun (r4, r5, r6, r7, r8, r9, r10) =>
 (bq.f k a0).bind fun r13 =>
 (bX.f k r13 a1).bind fun (r16, r17, r18, r19, r20, r21, r22) =>
 bif ((r10 != r22) || (!(false == false))) then
  some false
 else
  (dS.f r4 r5 r6 r7 r8 r9 0).bind fun (r26, r27) =>
  (bq.f k a0).bind fun r30 =>
  (dS.f r4 r5 r6 r7 r8 r9 (i64 ((r30.length : Int) + 1))).bind fun (r33, r34) =>
  (fu.f r4 r5 r6 r7 r8 r9).bind fun r37 =>
  bif ((r37.length : Int) == 0) then
   (fv.f r4 r5 r6 r7 r8 r9).bind fun r41 =>
   az.k4 r4 r5 r6 r7 r8 r9 r27 r34 (r41 == 0)
  else
   az.k4 r4 r5 r6 r7 r8 r9 r27 r34 false
theorem gP (k : Nat) (A00 : av ((av (av Unit)) × (av Unit) × (av (av Unit)) × (av Unit))) (a0 : (List ah)) (a1 : Int) (r : Bool) (h : az.f k a0 a1 = some r) : Pure Tryz.prog ([Row 21 ah.au ah.aN A00 a0] ++ aI) 3 #[ae A00 a0.length, vI a1] (vB r) := by
 intro w Z hS
 refine bh (args := [ae A00 a0.length, vI a1]) (L := [(0, ae A00 a0.length), (1, vI a1)]) (N := 85) Tryz.func3 hS ?_
 have hM := h
 clear h hS
 unfold az.f at hM
 refine WP.seq (WP.rn [] [(4, vB false)] ?_)
 refine WP.seq (WP.region (WL.rn 1 [] [(14, ae A00 a0.length)] ?_))
 obtain ⟨r1, h2, hM⟩ := bind_some hM
 refine WL.c0 (F0 := [Row 21 ah.au ah.aN A00 a0]) [] [] [] (fun _ => _) [0] rfl (dh k A00 a0 _ h2) rfl rfl (by kernel_rfl) rfl (fun _ => rfl) (fun A3 => ?_)
 refine WL.rn 1 [] [(16, vI a1)] ?_
 obtain ⟨⟨r4, r5, r6, r7, r8, r9, r10⟩, h11, hM⟩ := bind_some hM
 dsimp only at hM
 refine WL.c0 (F0 := [Row 21 ah.au ah.aN A3 r1]) [] [] [] (fun _ => _) [0] rfl (mY k A3 r1 a1 _ h11) rfl rfl (by kernel_rfl) rfl (fun _ => rfl) (fun A12 => ?_)
 refine WL.rn 5 [] [(5, vP A12.1 0), (6, vI r10)] ?_
 refine WP.done (WP.seq (WP.region (WL.rn 1 [] [(21, ae A00 a0.length)] ?_)))
 obtain ⟨r13, h14, hM⟩ := bind_some hM
 refine WL.c0 (F0 := [Row 21 ah.au ah.aN A00 a0]) [] [] [false, false] (fun _ => _) [4] rfl (dh k A00 a0 _ h14) rfl rfl (by kernel_rfl) rfl (fun _ => rfl) (fun A15 => ?_)
 refine WL.rn 1 [] [(23, vI a1)] ?_
 obtain ⟨⟨r16, r17, r18, r19, r20, r21, r22⟩, h23, hM⟩ := bind_some hM
 dsimp only at hM
 refine WL.c0 (F0 := [Row 21 ah.au ah.aN A15 r13]) [] [] [false, false] (fun _ => _) [0] rfl (jZ k A15 r13 a1 _ h23) rfl rfl (by kernel_rfl) rfl (fun _ => rfl) (fun A24 => ?_)
 refine WL.rn 5 [] [(7, vP A24.1 0), (8, vI r22)] ?_
 refine WP.done (WP.seq (WP.seq (WP.region (WL.rn 4 [] [(30, vB (r10 != r22))] ?_))))
 refine WL.bo 30 (r10 != r22) 6 [] [] (fun b' => [(36, vB (b' || (!(false == false))))]) ?_
 refine WP.done (WP.kp [false, false, true, true] ?_)
 refine WP.cond ((r10 != r22) || (!(false == false))) rfl rfl (fun c25 => ?_) (fun c25 => ?_)
 ·replace hM := aG hM c25
  refine WP.seq (WP.rn [] [(4, vB false)] ?_)
  obtain rfl := oI hM
  exact WP.dI [] [] [8]
 ·replace hM := aH hM c25
  refine WP.skip (WP.seq (WP.seq (WP.rn [] [(38, vB false)] ?_)))
  refine WP.no rfl rfl (WP.skip (WP.seq (WP.region ?_)))
  refine WL.rn 1 [] [(41, vP A12.1 0)] ?_
  obtain ⟨⟨r26, r27⟩, h28, hM⟩ := bind_some hM
  dsimp only at hM
  refine WL.qC (X := Unit) [] [] [true, true] (fun _ => _) (fC A12.1 A12.2.2.2.1 A12.2.1 A12.2.2.1 A12.2.2.2.2 r4 r5 r6 r7 r8 r9 0 _ h28) rfl rfl (bE [4, 5, 6] rfl) (by kernel_rfl) rfl (fun _ => rfl) (fun _ => ?_)
  refine WL.rh 6 [2, 2, 2, 2, 2, 2, 2, 2, 2, 2, 2, 2, 2] (fun b29 => [(10, vB r27)]) (fun b29 => []) (fun b29 => [(b29, ml.o r26)]) (fun b29 => ?_)
  refine WP.done (WP.kp [true, true, false] ?_)
  refine WP.seq (WP.region ?_)
  refine WL.rn 2 [] [(46, vP A12.1 0), (47, ae A00 a0.length)] ?_
  obtain ⟨r30, h31, hM⟩ := bind_some hM
  refine WL.c0 (F0 := [Row 21 ah.au ah.aN A00 a0]) [] [] [false, false] (fun _ => _) [8] rfl (dh k A00 a0 _ h31) rfl rfl (by kernel_rfl) rfl (fun _ => rfl) (fun A32 => ?_)
  refine WL.rn 2 [] [(50, vI (i64 ((r30.length : Int) + 1)))] ?_
  obtain ⟨⟨r33, r34⟩, h35, hM⟩ := bind_some hM
  dsimp only at hM
  refine WL.qC (X := Unit) [] [] [true, true] (fun _ => _) (fC A12.1 A12.2.2.2.1 A12.2.1 A12.2.2.1 A12.2.2.2.2 r4 r5 r6 r7 r8 r9 (i64 ((r30.length : Int) + 1)) _ h35) rfl rfl (bE [5, 6, 7] rfl) (by kernel_rfl) rfl (fun _ => rfl) (fun _ => ?_)
  refine WL.rh 6 [2, 2, 2, 2, 2, 2, 2, 2, 2, 2, 2, 2, 2] (fun b36 => [(12, vB r34)]) (fun b36 => []) (fun b36 => [(b36, ml.o r33)]) (fun b36 => ?_)
  refine WP.done (WP.kp [true, true, false] ?_)
  refine WP.seq (WP.region ?_)
  refine WL.rn 1 [] [(54, vP A12.1 0)] ?_
  obtain ⟨r37, h38, hM⟩ := bind_some hM
  refine WL.c0 (F0 := [Row 1 eQ gi A12.2.1 r4, Row 1 (pl (aE .u64)) aA A12.2.2.1 r5, Row 2 (pl ax.enc) aA A12.2.2.2.2 r6]) [] [] [true, true] (fun _ => _) [5, 6, 7] rfl (j4 A12.1 A12.2.2.2.1 A12.2.1 A12.2.2.1 A12.2.2.2.2 r4 r5 r6 r7 r8 r9 _ h38) rfl rfl (by kernel_rfl) rfl (fun _ => rfl) (fun A39 => ?_)
  refine WL.rn 3 [] [(58, vB ((r37.length : Int) == 0))] ?_
  refine WL.join (σ := Bool) 4 (fun st => az.k4 r4 r5 r6 r7 r8 r9 r27 r34 st = some r) (fun st => [(4, vB false), (5, vP A12.1 0), (10, vB r27), (12, vB r34), (62, vB st)]) (fun st => Sat w Z [(A12.1, .cells #[ae A12.2.1 r4.length, ae A12.2.2.1 r5.length, vP A12.2.2.2.1 0, vI r8, vI r9] 48 (0, 0)), (A12.2.2.2.1, .cells #[ae A12.2.2.2.2 r6.length, vI r7] 93 (0, 0))] [] ([Row 2 (pl ax.enc) aA A39 r37, Row 21 ah.au ah.aN A32 r30, Row 1 eQ gi A24.2.1 r16, Row 4 (pl dZ.enc) aA A24.2.2.2.2 r21, Row 2 (pl ax.enc) aA A24.2.2.2.1 r17, Row 21 ah.au ah.aN A15 r13, Row 1 eQ gi A12.2.1 r4, Row 1 (pl (aE .u64)) aA A12.2.2.1 r5, Row 2 (pl ax.enc) aA A12.2.2.2.2 r6, Row 21 ah.au ah.aN A3 r1, Row 21 ah.au ah.aN A00 a0] ++ aI)) (fun st hM => ?_) (fun K4 => ?_)
  ·
   obtain ⟨x43, rfl⟩ : ∃ y, y = st := ⟨st, rfl⟩
   replace hM : az.k4 r4 r5 r6 r7 r8 r9 r27 r34 x43 = some r := hM
   unfold az.k4 at hM
   try dsimp only
   refine WL.rn 1 [] [(63, vB x43)] ?_
   refine WL.join (σ := Bool) 4 (fun st => az.k3 r27 r34 r4 r5 r6 r7 r8 r9 st = some r) (fun st => [(4, vB false), (5, vP A12.1 0), (10, vB r27), (12, vB r34), (67, vB st)]) (fun st => Sat w Z [(A12.1, .cells #[ae A12.2.1 r4.length, ae A12.2.2.1 r5.length, vP A12.2.2.2.1 0, vI r8, vI r9] 48 (0, 0)), (A12.2.2.2.1, .cells #[ae A12.2.2.2.2 r6.length, vI r7] 93 (0, 0))] [] ([Row 2 (pl ax.enc) aA A39 r37, Row 21 ah.au ah.aN A32 r30, Row 1 eQ gi A24.2.1 r16, Row 4 (pl dZ.enc) aA A24.2.2.2.2 r21, Row 2 (pl ax.enc) aA A24.2.2.2.1 r17, Row 21 ah.au ah.aN A15 r13, Row 1 eQ gi A12.2.1 r4, Row 1 (pl (aE .u64)) aA A12.2.2.1 r5, Row 2 (pl ax.enc) aA A12.2.2.2.2 r6, Row 21 ah.au ah.aN A3 r1, Row 21 ah.au ah.aN A00 a0] ++ aI)) (fun st hM => ?_) (fun K3 => ?_)
   ·
    obtain ⟨x47, rfl⟩ : ∃ y, y = st := ⟨st, rfl⟩
    replace hM : az.k3 r27 r34 r4 r5 r6 r7 r8 r9 x47 = some r := hM
    unfold az.k3 at hM
    try dsimp only
    refine WL.rn 1 [] [(68, vB x47)] ?_
    refine WL.bo 68 x47 3 [] [] (fun b' => [(71, vB (b' && (!r27)))]) ?_
    refine WL.rn 1 [] [(72, vB (x47 && (!r27)))] ?_
    refine WL.bo 72 (x47 && (!r27)) 3 [] [] (fun b' => [(75, vB (b' && (!r34)))]) ?_
    refine WL.rn 1 [] [(76, vB ((x47 && (!r27)) && (!r34)))] ?_
    refine WL.join (σ := Bool) 5 (fun st => az.k2 st = some r) (fun st => [(4, vB false), (81, vB st)]) (fun st => Sat w Z [] [] ([Row 2 (pl ax.enc) aA A39 r37, Row 21 ah.au ah.aN A32 r30, Row 1 eQ gi A24.2.1 r16, Row 4 (pl dZ.enc) aA A24.2.2.2.2 r21, Row 2 (pl ax.enc) aA A24.2.2.2.1 r17, Row 21 ah.au ah.aN A15 r13, Row 1 eQ gi A12.2.1 r4, Row 1 (pl (aE .u64)) aA A12.2.2.1 r5, Row 2 (pl ax.enc) aA A12.2.2.2.2 r6, Row 21 ah.au ah.aN A3 r1, Row 21 ah.au ah.aN A00 a0] ++ aI)) (fun st hM => ?_) (fun K2 => ?_)
    ·
     obtain ⟨x52, rfl⟩ : ∃ y, y = st := ⟨st, rfl⟩
     replace hM : az.k2 x52 = some r := hM
     unfold az.k2 at hM
     try dsimp only
     refine WL.rn 1 [] [(82, vB x52)] ?_
     refine WL.join (σ := Bool) 2 (fun st => az.k1 st = some r) (fun st => [(4, vB false), (84, vB st)]) (fun st => Sat w Z [] [] ([Row 2 (pl ax.enc) aA A39 r37, Row 21 ah.au ah.aN A32 r30, Row 1 eQ gi A24.2.1 r16, Row 4 (pl dZ.enc) aA A24.2.2.2.2 r21, Row 2 (pl ax.enc) aA A24.2.2.2.1 r17, Row 21 ah.au ah.aN A15 r13, Row 1 eQ gi A12.2.1 r4, Row 1 (pl (aE .u64)) aA A12.2.2.1 r5, Row 2 (pl ax.enc) aA A12.2.2.2.2 r6, Row 21 ah.au ah.aN A3 r1, Row 21 ah.au ah.aN A00 a0] ++ aI)) (fun st hM => ?_) (fun K1 => ?_)
     ·
      obtain ⟨x56, rfl⟩ : ∃ y, y = st := ⟨st, rfl⟩
      replace hM : az.k1 x56 = some r := hM
      unfold az.k1 at hM
      try dsimp only
      refine WL.rn 1 [] [(4, vB x56)] ?_
      refine WP.done ?_
      obtain rfl := oI hM
      exact WP.dI [] [] [10]
     ·
      refine WL.sp 82 x52 (fun c53 => ?_) (fun c53 => ?_)
      ·replace hM := aG hM c53
       obtain ⟨r54, h55, hM⟩ := bind_some hM
       refine WL.cQ [] [] (fS _ h55) (fun _ h => List.mem_append_right _ h) (by kernel_rfl) rfl rfl ?_
       refine WL.rn 1 [] [(84, vB r54)] ?_
       exact WL.sub [4, 84] rfl (WL.pick [] rfl rfl (WL.aQ [0, 1, 2, 3, 4, 5, 6, 7, 8, 9, 10] rfl (K1 r54 hM)))
      ·replace hM := aH hM c53
       refine WL.rn 2 [] [(84, vB false)] ?_
       exact WL.sub [4, 84] rfl (WL.pick [] rfl rfl (WL.aQ [0, 1, 2, 3, 4, 5, 6, 7, 8, 9, 10] rfl (K1 false hM)))
    ·
     refine WL.sp 76 ((x47 && (!r27)) && (!r34)) (fun c48 => ?_) (fun c48 => ?_)
     ·replace hM := aG hM c48
      refine WL.rn 1 [] [(77, vP A12.1 0)] ?_
      obtain ⟨r49, h50, hM⟩ := bind_some hM
      refine WL.c0 (F0 := [Row 1 eQ gi A12.2.1 r4, Row 1 (pl (aE .u64)) aA A12.2.2.1 r5, Row 2 (pl ax.enc) aA A12.2.2.2.2 r6]) [] [] [true, true] (fun _ => _) [6, 7, 8] rfl (iY A12.1 A12.2.2.2.1 A12.2.1 A12.2.2.1 A12.2.2.2.2 r4 r5 r6 r7 r8 r9 0 _ h50) rfl rfl (by kernel_rfl) rfl (fun _ => rfl) (fun A51 => ?_)
      refine WL.rn 3 [] [(81, vB ((r49.length : Int) == 0))] ?_
      exact WL.sub [4, 81] rfl (WL.pick [] rfl rfl (WL.aQ [1, 2, 3, 4, 5, 6, 7, 8, 9, 10, 11] rfl (K2 ((r49.length : Int) == 0) hM)))
     ·replace hM := aH hM c48
      refine WL.rn 5 [] [(81, vB false)] ?_
      exact WL.sub [4, 81] rfl (WL.pick [] rfl rfl (WL.aQ [0, 1, 2, 3, 4, 5, 6, 7, 8, 9, 10] rfl (K2 false hM)))
   ·
    refine WL.sp 63 x43 (fun c44 => ?_) (fun c44 => ?_)
    ·replace hM := aG hM c44
     refine WL.rn 1 [] [(64, vP A12.1 0)] ?_
     obtain ⟨r45, h46, hM⟩ := bind_some hM
     refine WL.qC (X := Unit) [] [] [true, true] (fun _ => _) (jK A12.1 A12.2.2.2.1 A12.2.1 A12.2.2.1 A12.2.2.2.2 r4 r5 r6 r7 r8 r9 _ h46) rfl rfl (bE [6, 7, 8] rfl) (by kernel_rfl) rfl (fun _ => rfl) (fun _ => ?_)
     refine WL.rn 2 [] [(67, vB (r45 == 0))] ?_
     exact WL.sub [4, 5, 10, 12, 67] rfl (WL.pick [0, 1] rfl rfl (WL.aQ [0, 1, 2, 3, 4, 5, 6, 7, 8, 9, 10] rfl (K3 (r45 == 0) hM)))
    ·replace hM := aH hM c44
     refine WL.rn 4 [] [(67, vB false)] ?_
     exact WL.sub [4, 5, 10, 12, 67] rfl (WL.pick [0, 1] rfl rfl (WL.aQ [0, 1, 2, 3, 4, 5, 6, 7, 8, 9, 10] rfl (K3 false hM)))
  ·
   refine WL.sp 58 ((r37.length : Int) == 0) (fun c40 => ?_) (fun c40 => ?_)
   ·replace hM := aG hM c40
    refine WL.rn 1 [] [(59, vP A12.1 0)] ?_
    obtain ⟨r41, h42, hM⟩ := bind_some hM
    refine WL.qC (X := Unit) [] [] [true, true] (fun _ => _) (j5 A12.1 A12.2.2.2.1 A12.2.1 A12.2.2.1 A12.2.2.2.2 r4 r5 r6 r7 r8 r9 _ h42) rfl rfl (bE [6, 7, 8] rfl) (by kernel_rfl) rfl (fun _ => rfl) (fun _ => ?_)
    refine WL.rn 2 [] [(62, vB (r41 == 0))] ?_
    exact WL.sub [4, 5, 10, 12, 62] rfl (WL.pick [0, 1] rfl rfl (WL.aQ [0, 1, 2, 3, 4, 5, 6, 7, 8, 9, 10] rfl (K4 (r41 == 0) hM)))
   ·replace hM := aH hM c40
    refine WL.rn 4 [] [(62, vB false)] ?_
    exact WL.sub [4, 5, 10, 12, 62] rfl (WL.pick [0, 1] rfl rfl (WL.aQ [0, 1, 2, 3, 4, 5, 6, 7, 8, 9, 10] rfl (K4 false hM)))
def cy.f (k : Nat) (a0 : (List ah)) (a1 : Int) : Option (Bool) := match az.f k a0 a1 with
 | some r => some r
 | none => dP.f k a0 a1
theorem il (k : Nat) (A00 : av ((av (av Unit)) × (av Unit) × (av (av Unit)) × (av Unit))) (a0 : (List ah)) (a1 : Int) (r : Bool) (h : cy.f k a0 a1 = some r) : Pure Tryz.prog ([Row 21 ah.au ah.aN A00 a0] ++ aI) 3 #[ae A00 a0.length, vI a1] (vB r) := by
 unfold cy.f at h
 split at h
 ·rename_i q hq
  obtain rfl := oI h
  exact gP k A00 a0 a1 q hq
 ·exact gQ k A00 a0 a1 r h
end Go.Proofs.YtkpjjncdicgkkaaGreatDoor
