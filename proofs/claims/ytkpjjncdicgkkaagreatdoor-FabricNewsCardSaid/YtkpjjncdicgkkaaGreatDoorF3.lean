/- The walks of the functions that the laws reach: each shows that a call returns what its plain model says, wherever the model gives an answer. -/
import Derived.Test.YtkpjjncdicgkkaaGreatDoorF1
import Derived.Test.YtkpjjncdicgkkaaGreatDoorF2

namespace Go.Proofs.YtkpjjncdicgkkaaGreatDoor
set_option maxRecDepth 100000
set_option linter.unusedVariables false
set_option linter.unusedSimpArgs false
open Go Eng
def eB.f (a0 : Int) (a1 : Int) : Option (Int) :=
 bif ((((decide (a0 < 1)) || (decide (a0 > 4096))) || (decide (a1 < 1))) || (decide (a1 > 1099511627776))) then
  some 1
 else
  some 0
theorem kC (a0 : Int) (a1 : Int) (r : Int) (h : eB.f a0 a1 = some r) : eT Tryz.prog 39 #[vI a0, vI a1] [] ([] ++ aI) (fun x : (Option Addr) => .tuple #[.pointer x, vI r]) (fun x => []) (fun _ => []) (fun x => [] ++ ([] ++ aI)) := by
 intro w Z hS
 refine bh (args := [vI a0, vI a1]) (L := [(0, vI a0), (1, vI a1)]) (N := 24) Tryz.func39 hS ?_
 have hM := h
 clear h hS
 unfold eB.f at hM
 refine WP.seq (WP.rn [] [(4, .pointer none), (5, vI 0)] ?_)
 refine WP.seq (WP.seq (WP.region (WL.rn 3 [] [(8, vB (decide (a0 < 1)))] ?_)))
 refine WL.bo 8 (decide (a0 < 1)) 3 [] [] (fun b' => [(11, vB (b' || (decide (a0 > 4096))))]) ?_
 refine WL.rn 1 [] [(12, vB ((decide (a0 < 1)) || (decide (a0 > 4096))))] ?_
 refine WL.bo 12 ((decide (a0 < 1)) || (decide (a0 > 4096))) 3 [] [] (fun b' => [(15, vB (b' || (decide (a1 < 1))))]) ?_
 refine WL.rn 1 [] [(16, vB (((decide (a0 < 1)) || (decide (a0 > 4096))) || (decide (a1 < 1))))] ?_
 refine WL.bo 16 (((decide (a0 < 1)) || (decide (a0 > 4096))) || (decide (a1 < 1))) 3 [] [] (fun b' => [(19, vB (b' || (decide (a1 > 1099511627776))))]) ?_
 refine WP.done ?_
 refine WP.cond ((((decide (a0 < 1)) || (decide (a0 > 4096))) || (decide (a1 < 1))) || (decide (a1 > 1099511627776))) rfl rfl (fun c1 => ?_) (fun c1 => ?_)
 ·replace hM := aG hM c1
  refine WP.seq (WP.rn [] [(4, .pointer none), (5, vI 1)] ?_)
  obtain rfl := oI hM
  exact WP.ret [] [] (.tuple #[.pointer none, vI 1]) (by kernel_rfl) (fun w' hw => ⟨(none : Option Addr), rfl, (hw.pick [] rfl).less (aT [] [] rfl rfl)⟩)
 ·replace hM := aH hM c1
  refine WP.skip (WP.seq ?_)
  refine WP.rh [] (fun b2 => [(4, vP b2 0), (5, vI 0)]) (fun b2 => []) (fun b2 => [(b2, .cells #[.slice none 0 0, vI a0, vI a1] 208 (0, 0))]) (fun b2 => ?_)
  obtain rfl := oI hM
  exact WP.ret [] [] (.tuple #[vP b2 0, vI 0]) (by kernel_rfl) (fun w' hw => ⟨(some ⟨b2, 0, none⟩), rfl, (hw.pick [] rfl).less (aT [] [] rfl rfl)⟩)
def fe.f (a0 : Int) : Option (Bool) :=
 some ((Int.tmod (u64 (Int.tdiv a0 1099511627776)) 2) == 1)
theorem jG (a0 : Int) (r : Bool) (h : fe.f a0 = some r) : Pure Tryz.prog aI 109 #[vU a0] (vB r) := by
 intro w Z hS
 refine bh (args := [vU a0]) (L := [(0, vU a0)]) (N := 7) Tryz.func109 hS ?_
 have hM := h
 clear h hS
 unfold fe.f at hM
 refine WP.seq (WP.rn [] [(2, vB false)] ?_)
 refine WP.seq (WP.rn [] [(2, vB ((Int.tmod (u64 (Int.tdiv a0 1099511627776)) 2) == 1))] ?_)
 obtain rfl := oI hM
 exact WP.lY [] []
def bM.k1 (x4 : Bool) : Option (Bool) :=
 some x4
def bM.f (a0 : Int) : Option (Bool) :=
 bif ((decide (a0 > 0)) && (decide (a0 < 281474976710656))) then
  (fe.f a0).bind fun r2 =>
  bM.k1 (!r2)
 else
  bM.k1 false
theorem kE (a0 : Int) (r : Bool) (h : bM.f a0 = some r) : Pure Tryz.prog aI 79 #[vU a0] (vB r) := by
 intro w Z hS
 refine bh (args := [vU a0]) (L := [(0, vU a0)]) (N := 14) Tryz.func79 hS ?_
 have hM := h
 clear h hS
 unfold bM.f at hM
 refine WP.seq (WP.rn [] [(2, vB false)] ?_)
 refine WP.seq (WP.region (WL.rn 3 [] [(5, vB (decide (a0 > 0)))] ?_))
 refine WL.bo 5 (decide (a0 > 0)) 3 [] [] (fun b' => [(8, vB (b' && (decide (a0 < 281474976710656))))]) ?_
 refine WL.rn 1 [] [(9, vB ((decide (a0 > 0)) && (decide (a0 < 281474976710656))))] ?_
 refine WL.join (σ := Bool) 4 (fun st => bM.k1 st = some r) (fun st => [(2, vB false), (13, vB st)]) (fun st => Sat w Z [] [] aI) (fun st hM => ?_) (fun K1 => ?_)
 ·
  obtain ⟨x4, rfl⟩ : ∃ y, y = st := ⟨st, rfl⟩
  replace hM : bM.k1 x4 = some r := hM
  unfold bM.k1 at hM
  try dsimp only
  refine WL.rn 1 [] [(2, vB x4)] ?_
  refine WP.done ?_
  obtain rfl := oI hM
  exact WP.lY [] []
 ·
  refine WL.sp 9 ((decide (a0 > 0)) && (decide (a0 < 281474976710656))) (fun c1 => ?_) (fun c1 => ?_)
  ·replace hM := aG hM c1
   refine WL.rn 1 [] [(10, vU a0)] ?_
   obtain ⟨r2, h3, hM⟩ := bind_some hM
   refine WL.cQ [] [] (jG a0 _ h3) (fun _ h => h) (by kernel_rfl) rfl rfl ?_
   refine WL.rn 2 [] [(13, vB (!r2))] ?_
   exact WL.sub [2, 13] rfl (WL.pick [] rfl rfl (K1 (!r2) hM))
  ·replace hM := aH hM c1
   refine WL.rn 4 [] [(13, vB false)] ?_
   exact WL.sub [2, 13] rfl (WL.pick [] rfl rfl (K1 false hM))
def dq.f (a0 : Int) : Option (Bool) :=
 some ((decide (a0 ≥ 1)) && (decide (a0 ≤ 64)))
theorem fc (a0 : Int) (r : Bool) (h : dq.f a0 = some r) : Pure Tryz.prog aI 80 #[vI a0] (vB r) := by
 intro w Z hS
 refine bh (args := [vI a0]) (L := [(0, vI a0)]) (N := 9) Tryz.func80 hS ?_
 have hM := h
 clear h hS
 unfold dq.f at hM
 refine WP.seq (WP.rn [] [(2, vB false)] ?_)
 refine WP.seq (WP.region (WL.rn 3 [] [(5, vB (decide (a0 ≥ 1)))] ?_))
 refine WL.bo 5 (decide (a0 ≥ 1)) 3 [] [] (fun b' => [(8, vB (b' && (decide (a0 ≤ 64))))]) ?_
 refine WL.rn 1 [] [(2, vB ((decide (a0 ≥ 1)) && (decide (a0 ≤ 64))))] ?_
 refine WP.done ?_
 obtain rfl := oI hM
 exact WP.lY [] []
def aF.k1 (x20 : Bool) : Option (Int) :=
 bif x20 then
  some 1
 else
  some 0
def aF.k2 (a0 : bj) (x16 : Bool) : Option (Int) :=
 bif x16 then
  aF.k1 true
 else
  (dq.f a0.bn).bind fun r18 =>
  aF.k1 (!r18)
def aF.k3 (a0 : bj) (x12 : Bool) : Option (Int) :=
 bif x12 then
  aF.k2 a0 true
 else
  (dq.f a0.br).bind fun r14 =>
  aF.k2 a0 (!r14)
def aF.k4 (a0 : bj) (x8 : Bool) : Option (Int) :=
 bif (x8 || (a0.Ip == 0)) then
  aF.k3 a0 true
 else
  (dq.f a0.cp).bind fun r10 =>
  aF.k3 a0 (!r10)
def aF.f (a0 : bj) : Option (Int) :=
 (eC.f a0.Room a0.aY).bind fun r2 =>
 bif (r2 != 0) then
  aF.k4 a0 true
 else
  (bM.f a0.bx).bind fun r6 =>
  aF.k4 a0 (!r6)
theorem ky (a0 : bj) (r : Int) (h : aF.f a0 = some r) : eT Tryz.prog 40 #[bj.v a0] [] ([] ++ aI) (fun x : (Option Addr) => .tuple #[.pointer x, vI r]) (fun x => []) (fun _ => []) (fun x => [] ++ ([] ++ aI)) := by
 intro w Z hS
 refine bh (args := [bj.v a0]) (L := [(0, bj.v a0)]) (N := 49) Tryz.func40 hS ?_
 have hM := h
 clear h hS
 unfold aF.f at hM
 refine WP.seq ?_
 refine WP.rh [] (fun b1 => [(1, vP b1 0), (2, .pointer none), (3, vI 0)]) (fun b1 => []) (fun b1 => [(b1, bj.o a0)]) (fun b1 => ?_)
 refine WP.seq (WP.region (WL.rn 4 [0, 0] [(8, vI a0.Room), (10, vI a0.aY)] ?_))
 obtain ⟨r2, h3, hM⟩ := bind_some hM
 refine WL.c0 (F0 := []) [] [] [false] (fun _ => _) [] rfl (gw a0.Room a0.aY _ h3) rfl rfl (by kernel_rfl) rfl (fun _ => rfl) (fun A4 => ?_)
 refine WL.rn 5 [] [(4, .pointer A4), (5, vI r2)] ?_
 refine WP.done (WP.seq (WP.seq (WP.region (WL.rn 3 [] [(16, vB (r2 != 0))] ?_))))
 refine WL.join (σ := Bool) 5 (fun st => aF.k4 a0 st = some r) (fun st => [(1, vP b1 0), (2, .pointer none), (3, vI 0), (4, .pointer A4), (21, vB st)]) (fun st => Sat w Z [(b1, bj.o a0)] [] ([] ++ aI)) (fun st hM => ?_) (fun K4 => ?_)
 ·
  obtain ⟨x8, rfl⟩ : ∃ y, y = st := ⟨st, rfl⟩
  replace hM : aF.k4 a0 x8 = some r := hM
  unfold aF.k4 at hM
  try dsimp only
  refine WL.rn 1 [] [(22, vB x8)] ?_
  refine WL.bo 22 x8 4 [] [0] (fun b' => [(26, vB (b' || (a0.Ip == 0)))]) ?_
  refine WL.rn 1 [] [(27, vB (x8 || (a0.Ip == 0)))] ?_
  refine WL.join (σ := Bool) 5 (fun st => aF.k3 a0 st = some r) (fun st => [(1, vP b1 0), (2, .pointer none), (3, vI 0), (4, .pointer A4), (32, vB st)]) (fun st => Sat w Z [(b1, bj.o a0)] [] ([] ++ aI)) (fun st hM => ?_) (fun K3 => ?_)
  ·
   obtain ⟨x12, rfl⟩ : ∃ y, y = st := ⟨st, rfl⟩
   replace hM : aF.k3 a0 x12 = some r := hM
   unfold aF.k3 at hM
   try dsimp only
   refine WL.rn 1 [] [(33, vB x12)] ?_
   refine WL.join (σ := Bool) 5 (fun st => aF.k2 a0 st = some r) (fun st => [(1, vP b1 0), (2, .pointer none), (3, vI 0), (4, .pointer A4), (38, vB st)]) (fun st => Sat w Z [(b1, bj.o a0)] [] ([] ++ aI)) (fun st hM => ?_) (fun K2 => ?_)
   ·
    obtain ⟨x16, rfl⟩ : ∃ y, y = st := ⟨st, rfl⟩
    replace hM : aF.k2 a0 x16 = some r := hM
    unfold aF.k2 at hM
    try dsimp only
    refine WL.rn 1 [] [(39, vB x16)] ?_
    refine WL.join (σ := Bool) 5 (fun st => aF.k1 st = some r) (fun st => [(1, vP b1 0), (2, .pointer none), (3, vI 0), (4, .pointer A4), (44, vB st)]) (fun st => Sat w Z [(b1, bj.o a0)] [] ([] ++ aI)) (fun st hM => ?_) (fun K1 => ?_)
    ·
     obtain ⟨x20, rfl⟩ : ∃ y, y = st := ⟨st, rfl⟩
     replace hM : aF.k1 x20 = some r := hM
     unfold aF.k1 at hM
     try dsimp only
     refine WP.done ?_
     refine WP.cond x20 rfl rfl (fun c21 => ?_) (fun c21 => ?_)
     ·replace hM := aG hM c21
      refine WP.seq (WP.rn [] [(2, .pointer none), (3, vI 1)] ?_)
      obtain rfl := oI hM
      exact WP.ret [] [] (.tuple #[.pointer none, vI 1]) (by kernel_rfl) (fun w' hw => ⟨(none : Option Addr), rfl, (hw.pick [] rfl).less (aT [] [] rfl rfl)⟩)
     ·replace hM := aH hM c21
      refine WP.skip (WP.seq ?_)
      refine WP.rh [0, 0, 0, 0, 0, 0, 0] (fun b22 => [(2, vP b22 0), (3, vI 0)]) (fun b22 => []) (fun b22 => [(b22, .cells #[vU a0.bx, vT a0.Ip, vI a0.Room, vI a0.aY, vI a0.cp, vI a0.br, vI a0.bn, .pointer A4, .slice none 0 0, .slice none 0 0, vI 0] 214 (0, 0))]) (fun b22 => ?_)
      refine WP.kp [false, true] ?_
      obtain rfl := oI hM
      exact WP.ret [] [] (.tuple #[vP b22 0, vI 0]) (by kernel_rfl) (fun w' hw => ⟨(some ⟨b22, 0, none⟩), rfl, (hw.pick [] rfl).less (aT [] [] rfl rfl)⟩)
    ·
     refine WL.sp 39 x16 (fun c17 => ?_) (fun c17 => ?_)
     ·replace hM := aG hM c17
      refine WL.rn 5 [] [(44, vB true)] ?_
      exact WL.sub [1, 2, 3, 4, 44] rfl (WL.pick [0] rfl rfl (WL.aQ [] rfl (K1 true hM)))
     ·replace hM := aH hM c17
      refine WL.rn 2 [0] [(41, vI a0.bn)] ?_
      obtain ⟨r18, h19, hM⟩ := bind_some hM
      refine WL.cQ [] [] (fc a0.bn _ h19) (fun _ h => List.mem_append_right _ h) (by kernel_rfl) rfl rfl ?_
      refine WL.rn 2 [] [(44, vB (!r18))] ?_
      exact WL.sub [1, 2, 3, 4, 44] rfl (WL.pick [0] rfl rfl (WL.aQ [] rfl (K1 (!r18) hM)))
   ·
    refine WL.sp 33 x12 (fun c13 => ?_) (fun c13 => ?_)
    ·replace hM := aG hM c13
     refine WL.rn 5 [] [(38, vB true)] ?_
     exact WL.sub [1, 2, 3, 4, 38] rfl (WL.pick [0] rfl rfl (WL.aQ [] rfl (K2 true hM)))
    ·replace hM := aH hM c13
     refine WL.rn 2 [0] [(35, vI a0.br)] ?_
     obtain ⟨r14, h15, hM⟩ := bind_some hM
     refine WL.cQ [] [] (fc a0.br _ h15) (fun _ h => List.mem_append_right _ h) (by kernel_rfl) rfl rfl ?_
     refine WL.rn 2 [] [(38, vB (!r14))] ?_
     exact WL.sub [1, 2, 3, 4, 38] rfl (WL.pick [0] rfl rfl (WL.aQ [] rfl (K2 (!r14) hM)))
  ·
   refine WL.sp 27 (x8 || (a0.Ip == 0)) (fun c9 => ?_) (fun c9 => ?_)
   ·replace hM := aG hM c9
    refine WL.rn 5 [] [(32, vB true)] ?_
    exact WL.sub [1, 2, 3, 4, 32] rfl (WL.pick [0] rfl rfl (WL.aQ [] rfl (K3 true hM)))
   ·replace hM := aH hM c9
    refine WL.rn 2 [0] [(29, vI a0.cp)] ?_
    obtain ⟨r10, h11, hM⟩ := bind_some hM
    refine WL.cQ [] [] (fc a0.cp _ h11) (fun _ h => List.mem_append_right _ h) (by kernel_rfl) rfl rfl ?_
    refine WL.rn 2 [] [(32, vB (!r10))] ?_
    exact WL.sub [1, 2, 3, 4, 32] rfl (WL.pick [0] rfl rfl (WL.aQ [] rfl (K3 (!r10) hM)))
 ·
  refine WL.sp 16 (r2 != 0) (fun c5 => ?_) (fun c5 => ?_)
  ·replace hM := aG hM c5
   refine WL.rn 5 [] [(21, vB true)] ?_
   exact WL.sub [1, 2, 3, 4, 21] rfl (WL.pick [0] rfl rfl (WL.aQ [] rfl (K4 true hM)))
  ·replace hM := aH hM c5
   refine WL.rn 2 [0] [(18, vU a0.bx)] ?_
   obtain ⟨r6, h7, hM⟩ := bind_some hM
   refine WL.cQ [] [] (kE a0.bx _ h7) (fun _ h => List.mem_append_right _ h) (by kernel_rfl) rfl rfl ?_
   refine WL.rn 2 [] [(21, vB (!r6))] ?_
   exact WL.sub [1, 2, 3, 4, 21] rfl (WL.pick [0] rfl rfl (WL.aQ [] rfl (K4 (!r6) hM)))
def bY.l1 : Nat → Int → Int → Option (Int)
 | 0, _, _ => none
 | n + 1, x2, x3 =>
  bif decide (x3 < 32) then
   bY.l1 n (u64 (2 * x2)) (i64 (x3 + 1))
  else
   some x2
def bY.f (k : Nat) (a0 : bA) : Option (Int) :=
 bY.l1 k 1 a0.cL
theorem j3 (k : Nat) (a0 : bA) (r : Int) (h : bY.f k a0 = some r) : Pure Tryz.prog aI 141 #[bA.v a0] (vU r) := by
 intro w Z hS
 refine bh (args := [bA.v a0]) (L := [(0, bA.v a0)]) (N := 14) Tryz.func141 hS ?_
 have hM := h
 clear h hS
 unfold bY.f at hM
 refine WP.seq ?_
 refine WP.rh [] (fun b1 => [(1, vP b1 0), (2, vU 0)]) (fun b1 => []) (fun b1 => [(b1, bA.o a0)]) (fun b1 => ?_)
 refine WP.seq (WP.rn [] [(3, vU 1)] ?_)
 refine WP.seq (WP.seq (WP.rn [0] [(4, vI a0.cL)] ?_))
 refine WP.kp [false] ?_
 refine WP.block (WP.sub [2, 3, 4] (L' := [(2, vU 0), (3, vU 1), (4, vI a0.cL)]) rfl ?_)
 refine WP.loop (σ := Int × Int) (fun n st => bY.l1 n st.1 st.2) r (fun st => [(2, vU 0), (3, vU st.1), (4, vI st.2)]) (fun st => Sat w Z [] [] aI) (st := (1, a0.cL)) (fun n st hM => ?_) hM
 rcases n with _ | n
 ·exact nomatch (show (none : Option _) = some r from hM)
 obtain ⟨x2, x3⟩ := st
 replace hM : bY.l1 (n + 1) x2 x3 = some r := hM
 rw [bY.l1] at hM
 try dsimp only
 refine WP.seq (WP.seq (WP.rn [] [(7, vI x3), (8, vB (decide (x3 < 32)))] ?_))
 refine WP.cond (decide (x3 < 32)) rfl rfl (fun c4 => ?_) (fun c4 => ?_)
 ·replace hM := aG hM c4
  refine WP.skip (WP.seq (WP.block (WP.rn [] [(3, vU (u64 (2 * x2))), (11, vU x2), (12, vU (u64 (2 * x2)))] ?_)))
  refine WP.leave (WP.rn [] [(4, vI (i64 (x3 + 1))), (9, vI x3), (10, vI (i64 (x3 + 1)))] ?_)
  exact WP.cN [2, 3, 4] (u64 (2 * x2), i64 (x3 + 1)) hM rfl (fun _ h => h.pick [] rfl)
 ·replace hM := aH hM c4
  refine WP.exit rfl (WP.seq (WP.rn [] [(2, vU x2)] ?_))
  obtain rfl := oI hM
  exact WP.lY [] []
def bl.k1 (x7 : Bool) : Option (Bool) :=
 some x7
def bl.f (k : Nat) (a0 : bA) : Option (Bool) :=
 bif ((decide (a0.cL ≥ 0)) && (decide (a0.cL ≤ 32))) then
  (bY.f k a0).bind fun r3 =>
  (o3 (u64 a0.Ip) r3).bind fun t5 =>
  bl.k1 (t5 == 0)
 else
  bl.k1 false
theorem kF (k : Nat) (a0 : bA) (r : Bool) (h : bl.f k a0 = some r) : Pure Tryz.prog aI 110 #[bA.v a0] (vB r) := by
 intro w Z hS
 refine bh (args := [bA.v a0]) (L := [(0, bA.v a0)]) (N := 20) Tryz.func110 hS ?_
 have hM := h
 clear h hS
 unfold bl.f at hM
 refine WP.seq ?_
 refine WP.rh [] (fun b1 => [(1, vP b1 0), (2, vB false)]) (fun b1 => []) (fun b1 => [(b1, bA.o a0)]) (fun b1 => ?_)
 refine WP.seq (WP.quiet rfl (by kernel_rfl) ?_)
 refine QL.rn 4 [0] [(6, vB (decide (a0.cL ≥ 0)))] ?_
 refine QL.bo 6 (decide (a0.cL ≥ 0)) 4 [0] [] (fun b' => [(10, vB (b' && (decide (a0.cL ≤ 32))))]) ?_
 refine QL.rn 1 [] [(11, vB ((decide (a0.cL ≥ 0)) && (decide (a0.cL ≤ 32))))] ?_
 refine QL.join (σ := Bool) 8 (fun st => bl.k1 st = some r) (fun st => [(2, vB false), (19, vB st)]) (fun st hM => ?_) (fun K1 => ?_)
 ·
  obtain ⟨x7, rfl⟩ : ∃ y, y = st := ⟨st, rfl⟩
  replace hM : bl.k1 x7 = some r := hM
  unfold bl.k1 at hM
  show QL _ _ _ _ _ _ [(2, vB false), (19, vB x7)]
  refine QL.rn 1 [] [(2, vB x7)] ?_
  refine QL.done ?_
  refine WP.kp [false] ?_
  obtain rfl := oI hM
  exact WP.lY [] []
 ·
  refine QL.sp 11 ((decide (a0.cL ≥ 0)) && (decide (a0.cL ≤ 32))) (fun c2 => ?_) (fun c2 => ?_)
  ·replace hM := aG hM c2
   refine QL.rn 4 [0, 0, 0] [(14, vU (u64 a0.Ip)), (15, bA.v a0)] ?_
   obtain ⟨r3, h4, hM⟩ := bind_some hM
   refine QL.cQ [] [] (j3 k a0 _ h4) (fun _ h => h) (by kernel_rfl) rfl rfl ?_
   obtain ⟨t5, h6, hM⟩ := bind_some hM
   refine QL.val (fun _ => zH (k := .u64) (a := u64 a0.Ip) (b := r3) rfl rfl h6) (by kernel_rfl) rfl rfl ?_
   refine QL.rn 2 [] [(19, vB (t5 == 0))] ?_
   exact QL.sub [2, 19] rfl (K1 (t5 == 0) hM)
  ·replace hM := aH hM c2
   refine QL.rn 8 [] [(19, vB false)] ?_
   exact QL.sub [2, 19] rfl (K1 false hM)
def bc.l1 (a0 : (List aj)) (a1 : bA) : Nat → Int → Int → Option (Int)
 | 0, _, _ => none
 | n + 1, x2, x3 =>
  bif decide (x3 < (a0.length : Int)) then
   (cI a0.length a0 x3).bind fun t5 =>
   bif ((t5.To.Ip == a1.Ip) && ((t5.To.cL == a1.cL) && true)) then
    some x3
   else
    bc.l1 a0 a1 n x2 (i64 (x3 + 1))
  else
   some (-1)
def bc.f (k : Nat) (a0 : (List aj)) (a1 : bA) : Option (Int) :=
 bc.l1 a0 a1 k 0 0
theorem gv (k : Nat) (b_0 : Nat) (A00 : av Unit) (a0 : (List aj)) (a1 : bA) (r : Int) (h : bc.f k a0 a1 = some r) : oV Tryz.prog 111 #[vP b_0 0, bA.v a1] [(b_0, .cells #[ae A00 a0.length] 216 (0, 0))] [bL 3 163 (pl aj.enc) A00 a0] ([bC aA A00 a0] ++ aI) (fun x : Unit => vI r) (fun x => [(b_0, .cells #[ae A00 a0.length] 216 (0, 0))]) (fun x => [bL 3 163 (pl aj.enc) A00 a0]) (fun x => [] ++ ([bC aA A00 a0] ++ aI)) := by
 intro w Z hS
 refine bh (args := [vP b_0 0, bA.v a1]) (L := [(0, vP b_0 0), (1, bA.v a1)]) (N := 26) Tryz.func111 hS ?_
 have hM := h
 clear h hS
 unfold bc.f at hM
 refine WP.seq ?_
 refine WP.rh [] (fun b1 => [(3, vP b1 0), (4, vI 0)]) (fun b1 => []) (fun b1 => [(b1, bA.o a1)]) (fun b1 => ?_)
 refine WP.seq (WP.seq (WP.rn [] [(5, vI 0)] ?_))
 refine WP.block ?_
 refine WP.sub [0, 3, 4, 5] (L' := [(0, vP b_0 0), (3, vP b1 0), (4, vI 0), (5, vI 0)]) rfl ?_
 refine WP.aQ [0] (F' := [bC aA A00 a0]) rfl ?_
 refine WP.loop (σ := Int × Int) (fun n st => bc.l1 a0 a1 n st.1 st.2) r (fun st => [(0, vP b_0 0), (3, vP b1 0), (4, vI st.1), (5, vI st.2)]) (fun st => Sat w Z [(b_0, .cells #[ae A00 a0.length] 216 (0, 0)), (b1, bA.o a1)] [bL 3 163 (pl aj.enc) A00 a0] ([bC aA A00 a0] ++ aI)) (st := (0, 0)) (fun n st hM => ?_) hM
 rcases n with _ | n
 ·exact nomatch (show (none : Option _) = some r from hM)
 obtain ⟨x2, x3⟩ := st
 replace hM : bc.l1 a0 a1 (n + 1) x2 x3 = some r := hM
 rw [bc.l1] at hM
 try dsimp only
 refine WP.seq (WP.seq ?_)
 refine WP.rn [0] [(6, vI x3), (7, vP b_0 0), (8, vP b_0 0), (9, vP b_0 0), (10, ae A00 a0.length), (11, vI (a0.length : Int)), (12, vB (decide (x3 < (a0.length : Int))))] ?_
 refine WP.cond (decide (x3 < (a0.length : Int))) rfl rfl (fun c4 => ?_) (fun c4 => ?_)
 ·replace hM := aG hM c4
  refine WP.skip (WP.seq (WP.block (WP.seq (WP.quiet rfl (by kernel_rfl) ?_))))
  refine QL.rn 5 [0] [(15, vP b_0 0), (16, vP b_0 0), (17, vP b_0 0), (18, ae A00 a0.length), (19, vI x3)] ?_
  obtain ⟨t5, h6, hM⟩ := bind_some hM
  refine QL.nK (m := 3) (e := 163) (f := (pl aj.enc)) (K := aA) (A := A00) (xs := a0) 0 rfl (fun _ _ => rfl) (ar 0 rfl) (fun w hR => aJ (A := A00) (xs := a0) (i := x3) (k := .i64) (e := 163) (m := 3) rfl rfl h6 rfl rfl hR) (by kernel_rfl) rfl rfl ?_
  refine QL.nK (m := 3) (e := 163) (f := (pl aj.enc)) (K := aA) (A := A00) (xs := a0) 0 rfl (fun _ _ => rfl) (ar 0 rfl) (fun w hR => cY (A := A00) (xs := a0) (i := x3) (n := Int.toNat x3 * 3 + 0) (n' := Int.toNat x3 * 3 + 0) h6 rfl (fun _ _ => by kernel_rfl) hR) (by kernel_rfl) rfl rfl ?_
  refine QL.nK (m := 3) (e := 163) (f := (pl aj.enc)) (K := aA) (A := A00) (xs := a0) 0 rfl (fun _ _ => rfl) (ar 0 rfl) (fun w hR => b4 (A := A00) (xs := a0) (i := x3) (j := 0) (n := 2) (vs := [vT t5.To.Ip, vI t5.To.cL]) h6 (fun _ => by kernel_rfl) rfl rfl rfl rfl hR) (by kernel_rfl) rfl rfl ?_
  refine QL.rn 1 [1, 1] [(23, bA.v a1)] ?_
  refine QL.val (fun _ => sf (xs := #[vT t5.To.Ip, vI t5.To.cL]) (ys := #[vT a1.Ip, vI a1.cL]) (b := ((t5.To.Ip == a1.Ip) && ((t5.To.cL == a1.cL) && true))) rfl rfl (by kernel_rfl) (by kernel_rfl)) (by kernel_rfl) rfl rfl ?_
  refine QL.done ?_
  refine WP.cond ((t5.To.Ip == a1.Ip) && ((t5.To.cL == a1.cL) && true)) rfl rfl (fun c7 => ?_) (fun c7 => ?_)
  ·replace hM := aG hM c7
   refine WP.seq (WP.rn [] [(4, vI x3), (25, vI x3)] ?_)
   obtain rfl := oI hM
   exact WP.ret [] [] (vI x3) (by kernel_rfl) (fun w' hw => ⟨(), rfl, (hw.pick [0] rfl).less (aT [] [0] rfl rfl)⟩)
  ·replace hM := aH hM c7
   refine WP.skip (WP.leave (WP.rn [] [(5, vI (i64 (x3 + 1))), (13, vI x3), (14, vI (i64 (x3 + 1)))] ?_))
   exact WP.cN [0, 3, 4, 5] (x2, i64 (x3 + 1)) hM rfl (fun _ h => ((h.pick [0, 1] rfl).aQ [0] rfl).dE [0] [] 1 rfl (by decide) rfl)
 ·replace hM := aH hM c4
  refine WP.exit rfl (WP.seq (WP.rn [] [(4, vI (-1))] ?_))
  refine WP.kp [true, false] ?_
  obtain rfl := oI hM
  exact WP.ret [] [] (vI (-1)) (by kernel_rfl) (fun w' hw => ⟨(), rfl, (hw.pick [0] rfl).less (aT [] [0] rfl rfl)⟩)
def cn.f (k : Nat) (a0 : (List aj)) (a1 : aj) : Option (Int × (List aj)) :=
 (bl.f k a1.To).bind fun r2 =>
 bif !r2 then
  some (180, a0)
 else
  (bc.f k a0 a1.To).bind fun r5 =>
  bif decide (r5 ≥ 0) then
   (cI a0.length a0 r5).bind fun t9 =>
   some (0, (List.set a0 (Int.toNat r5) a1))
  else
   bif decide ((a0.length : Int) ≥ 256) then
    some (181, a0)
   else
    (ey 24 (a0 ++ ([a1] : List aj)).length).bind fun u14 =>
    some (0, (a0 ++ ([a1] : List aj)))
theorem gO (k : Nat) (b_0 : Nat) (A00 : av Unit) (a0 : (List aj)) (a1 : aj) (r : Int × (List aj)) (h : cn.f k a0 a1 = some r) : oV Tryz.prog 81 #[vP b_0 0, aj.v a1] [(b_0, .cells #[ae A00 a0.length] 216 (0, 0))] [bL 3 163 (pl aj.enc) A00 a0] ([bC aA A00 a0] ++ aI) (fun x : (av Unit) => vI r.1) (fun x => [(b_0, .cells #[ae x r.2.length] 216 (0, 0))]) (fun x => [bL 3 163 (pl aj.enc) x r.2]) (fun x => [bC aA x r.2] ++ ([bC aA A00 a0] ++ aI)) := by
 intro w Z hS
 refine bh (args := [vP b_0 0, aj.v a1]) (L := [(0, vP b_0 0), (1, aj.v a1)]) (N := 39) Tryz.func81 hS ?_
 have hM := h
 clear h hS
 unfold cn.f at hM
 refine WP.seq ?_
 refine WP.rh [] (fun b1 => [(3, vP b1 0), (4, vI 0)]) (fun b1 => []) (fun b1 => [(b1, aj.o a1)]) (fun b1 => ?_)
 refine WP.seq (WP.seq (WP.region (WL.rn 2 [1, 1] [(7, bA.v a1.To)] ?_)))
 obtain ⟨r2, h3, hM⟩ := bind_some hM
 refine WL.cQ [] [] (kF k a1.To _ h3) (fun _ h => List.mem_append_right _ h) (by kernel_rfl) rfl rfl ?_
 refine WL.rn 1 [] [(9, vB (!r2))] ?_
 refine WP.done ?_
 refine WP.cond (!r2) rfl rfl (fun c4 => ?_) (fun c4 => ?_)
 ·replace hM := aG hM c4
  refine WP.seq (WP.rn [] [(4, vI 180)] ?_)
  obtain rfl := oI hM
  exact WP.ret [] [] (vI 180) (by kernel_rfl) (fun w' hw => ⟨A00, rfl, (hw.pick [0] rfl).less (aT [0] [0] rfl rfl)⟩)
 ·replace hM := aH hM c4
  refine WP.skip (WP.seq (WP.region ?_))
  refine WL.rn 3 [1, 1] [(10, vP b_0 0), (12, bA.v a1.To)] ?_
  obtain ⟨r5, h6, hM⟩ := bind_some hM
  refine WL.nj (Gr := []) (F0 := [bC aA A00 a0]) [] [] [true, false] (fun _ => _) [0] rfl (gv k b_0 A00 a0 a1.To _ h6) rfl rfl rfl (by kernel_rfl) rfl (fun _ => rfl) (fun A7 => ?_)
  refine WL.rn 1 [] [(5, vI r5)] ?_
  refine WP.done (WP.seq (WP.seq (WP.rn [] [(15, vB (decide (r5 ≥ 0)))] ?_)))
  refine WP.cond (decide (r5 ≥ 0)) rfl rfl (fun c8 => ?_) (fun c8 => ?_)
  ·replace hM := aG hM c8
   refine WP.seq ?_
   obtain ⟨t9, h10, hM⟩ := bind_some hM
   refine WP.rs [0, 3, 4, 5] ?_
   refine WP.fB (X := Unit) 8 4 [⟨0, 8, fun _ => [(b_0, .cells #[ae A00 a0.length] 216 (0, 0))], fun _ => []⟩, ⟨0, 8, fun _ => [(b1, aj.o a1)], fun _ => []⟩, ⟨0, 7, fun _ => [], fun _ => [bL 3 163 (pl aj.enc) A00 a0]⟩, ⟨8, 8, fun _ => [], fun _ => [bL 3 163 (pl aj.enc) A00 (List.set a0 (Int.toNat r5) a1)]⟩] [⟨[], [], [], [], [], fun _ => vP b_0 0, fun _ => []⟩, ⟨[0], [], [], [], [], fun _ => vP b_0 0, fun _ => []⟩, ⟨[0, 1], [], [], [], [], fun _ => vP b_0 0, fun _ => []⟩, ⟨[0, 1, 2], [0], [0], [], [], fun _ => ae A00 a0.length, fun _ => []⟩, ⟨[], [], [], [], [], fun _ => vI r5, fun _ => []⟩, ⟨[], [1], [1], [], [], fun _ => aj.v a1, fun _ => []⟩, ⟨[0, 1, 2, 3, 4, 5], [2], [2], [], [], fun _ => dM A00 (Int.toNat r5 * 3), fun _ => []⟩, ⟨[0, 1, 2, 3, 4, 5, 6], [2], [3], [], [], fun _ => .tuple #[], fun _ => [bC aA A00 (List.set a0 (Int.toNat r5) a1)]⟩] (fun ξ => []) (fun ξ => [(b_0, .cells #[ae A00 a0.length] 216 (0, 0)), (b1, aj.o a1)]) (fun ξ => [bL 3 163 (pl aj.enc) A00 (List.set a0 (Int.toNat r5) a1)]) (fun ξ => [bC aA A00 (List.set a0 (Int.toNat r5) a1)]) (aq.cons ?_ (aq.cons ?_ (aq.cons ?_ (aq.cons ?_ (aq.cons ?_ (aq.cons ?_ (aq.cons ?_ (aq.cons ?_ aq.nil)))))))) (aq.cons (bf.c rfl) (aq.cons (bf.c rfl) (aq.cons (bf.c rfl) (aq.cons (bf.c rfl) (aq.cons (bf.c rfl) (aq.cons (bf.c rfl) (aq.cons (bf.c rfl) (aq.cons (bf.c rfl) aq.nil)))))))) (aq.cons (dA.c rfl) (aq.cons (dA.c rfl) (aq.cons (dA.c rfl) (aq.cons (dA.c rfl) aq.nil)))) (fun ξ => ?_)
   ·
    intro o t ho ht ξ Gr Γr Lr Q hk
    cases ho; cases ht
    refine WL.rn 1 [] [(16, vP b_0 0)] ?_
    exact WL.fin (hk default)
   ·
    intro o t ho ht ξ Gr Γr Lr Q hk
    cases ho; cases ht
    refine WL.rn 1 [] [(17, vP b_0 0)] ?_
    exact WL.fin (hk default)
   ·
    intro o t ho ht ξ Gr Γr Lr Q hk
    cases ho; cases ht
    refine WL.rn 1 [] [(18, vP b_0 0)] ?_
    exact WL.fin (hk default)
   ·
    intro o t ho ht ξ Gr Γr Lr Q hk
    cases ho; cases ht
    refine WL.rn 1 [0] [(19, ae A00 a0.length)] ?_
    exact WL.fin (hk default)
   ·
    intro o t ho ht ξ Gr Γr Lr Q hk
    cases ho; cases ht
    refine WL.rn 1 [] [(20, vI r5)] ?_
    exact WL.fin (hk default)
   ·
    intro o t ho ht ξ Gr Γr Lr Q hk
    cases ho; cases ht
    refine WL.rn 1 [0, 0, 0] [(21, aj.v a1)] ?_
    exact WL.fin (hk default)
   ·
    intro o t ho ht ξ Gr Γr Lr Q hk
    cases ho; cases ht
    refine WL.nK (m := 3) (e := 163) (f := (pl aj.enc)) (K := aA) (A := A00) (xs := a0) 0 rfl (fun _ _ => rfl) (ar 0 rfl) (fun w hR => aJ (A := A00) (xs := a0) (i := r5) (k := .i64) (e := 163) (m := 3) rfl rfl h10 rfl rfl hR) (by kernel_rfl) rfl rfl ?_
    exact WL.fin (hk default)
   ·
    intro o t ho ht ξ Gr Γr Lr Q hk
    cases ho; cases ht
    refine WL.Ad (G' := Gr) (m := 3) (e := 163) (n := 3) (f := (pl aj.enc)) (A := A00) (xs := a0) (i := r5) (u := t9) (r := a1) (v := aj.v a1) 0 (fun _ => by kernel_rfl) rfl rfl rfl rfl rfl rfl h10 rfl rfl (fun _ _ => rfl) (fun _ _ => rfl) (ar 0 rfl) rfl ?_
    refine WL.less (Φ' := (([bC aA A00 (List.set a0 (Int.toNat r5) a1), bC aA A00 a0] ++ Γr) ++ aI)) (fun _ h => h) ?_
    exact WL.fin (hk default)
   refine WP.less (Φ' := ([bC aA A00 (List.set a0 (Int.toNat r5) a1), bC aA A00 a0] ++ aI)) (fun _ h => h) ?_
   refine WP.uS (L1 := [(0, vP b_0 0), (3, vP b1 0), (4, vI 0), (5, vI r5)]) (L' := [(0, vP b_0 0), (3, vP b1 0), (4, vI 0), (5, vI r5)]) (H' := [(b_0, .cells #[ae A00 (List.set a0 (Int.toNat r5) a1).length] 216 (0, 0)), (b1, aj.o a1)]) [0, 3, 4, 5] rfl (by first | rfl | simp only [List.length_set, jQ]) (by first | rfl | simp only [List.length_set, jQ]) ?_
   refine WP.seq (WP.rn [] [(4, vI 0)] ?_)
   obtain rfl := oI hM
   exact WP.ret [] [] (vI 0) (by kernel_rfl) (fun w' hw => ⟨A00, rfl, (hw.pick [0] rfl).less (aT [0] [1] rfl rfl)⟩)
  ·replace hM := aH hM c8
   refine WP.skip (WP.seq (WP.seq (WP.rn [0] [(28, vB (decide ((a0.length : Int) ≥ 256)))] ?_)))
   refine WP.cond (decide ((a0.length : Int) ≥ 256)) rfl rfl (fun c11 => ?_) (fun c11 => ?_)
   ·replace hM := aG hM c11
    refine WP.seq (WP.rn [] [(4, vI 181)] ?_)
    obtain rfl := oI hM
    exact WP.ret [] [] (vI 181) (by kernel_rfl) (fun w' hw => ⟨A00, rfl, (hw.pick [0] rfl).less (aT [0] [0] rfl rfl)⟩)
   ·replace hM := aH hM c11
    refine WP.skip (WP.seq ?_)
    obtain ⟨u14, h13, hM⟩ := bind_some hM
    refine WP.rs [0, 3, 4] ?_
    refine WP.fB (X := (Nat × (av Unit))) 11 6 [⟨0, 10, fun _ => [(b_0, .cells #[ae A00 a0.length] 216 (0, 0))], fun _ => []⟩, ⟨0, 11, fun _ => [(b1, aj.o a1)], fun _ => []⟩, ⟨0, 7, fun _ => [], fun _ => [bL 3 163 (pl aj.enc) A00 a0]⟩, ⟨7, 7, fun ξ => [((ξ 6).1, aj.o a1)], fun ξ => []⟩, ⟨8, 11, fun ξ => [], fun ξ => [bL 3 163 (pl aj.enc) (ξ 7).2 (a0 ++ ([a1] : List aj))]⟩, ⟨11, 11, fun ξ => [(b_0, .cells #[ae (ξ 7).2 (a0 ++ ([a1] : List aj)).length] 216 (0, 0))], fun ξ => []⟩] [⟨[], [], [], [], [], fun _ => vP b_0 0, fun _ => []⟩, ⟨[], [], [], [], [], fun _ => vP b_0 0, fun _ => []⟩, ⟨[1], [], [], [], [], fun _ => vP b_0 0, fun _ => []⟩, ⟨[1, 2], [], [], [], [], fun _ => vP b_0 0, fun _ => []⟩, ⟨[1, 2, 3], [0], [0], [], [], fun _ => ae A00 a0.length, fun _ => []⟩, ⟨[], [1], [1], [], [], fun _ => aj.v a1, fun _ => []⟩, ⟨[5], [], [3], [], [], fun ξ => .slice (some ⟨(ξ 6).1, 0, none⟩) 1 1, fun ξ => []⟩, ⟨[1, 2, 3, 4, 5, 6], [3, 2], [4], [6], [], fun ξ => ae (ξ 7).2 (a0 ++ ([a1] : List aj)).length, fun ξ => [bC aA (ξ 7).2 (a0 ++ ([a1] : List aj)), Row 3 (pl aj.enc) aA (av.at (ξ 6).1 1 (fun _ => ())) ([a1] : List aj)]⟩, ⟨[0, 1, 2, 3, 4, 5, 6, 7], [], [], [], [], fun _ => vP b_0 0, fun _ => []⟩, ⟨[0, 1, 2, 3, 4, 5, 6, 7, 8], [], [], [], [], fun _ => vP b_0 0, fun _ => []⟩, ⟨[0, 1, 2, 3, 4, 5, 6, 7, 8, 9], [0], [5], [7], [], fun _ => .tuple #[], fun _ => []⟩] (fun ξ => []) (fun ξ => [(b1, aj.o a1), (b_0, .cells #[ae (ξ 7).2 (a0 ++ ([a1] : List aj)).length] 216 (0, 0))]) (fun ξ => [bL 3 163 (pl aj.enc) (ξ 7).2 (a0 ++ ([a1] : List aj))]) (fun ξ => [bC aA (ξ 7).2 (a0 ++ ([a1] : List aj)), Row 3 (pl aj.enc) aA (av.at (ξ 6).1 1 (fun _ => ())) ([a1] : List aj)]) (aq.cons ?_ (aq.cons ?_ (aq.cons ?_ (aq.cons ?_ (aq.cons ?_ (aq.cons ?_ (aq.cons ?_ (aq.cons ?_ (aq.cons ?_ (aq.cons ?_ (aq.cons ?_ aq.nil))))))))))) (aq.cons (bf.c rfl) (aq.cons (bf.c rfl) (aq.cons (bf.c rfl) (aq.cons (bf.c rfl) (aq.cons (bf.c rfl) (aq.cons (bf.c rfl) (aq.cons (fun t ht ξ ξ' h => by cases ht; have e6 : ξ 6 = ξ' 6 := h 6 (aC.1 rfl); exact ⟨by first | rfl | simp only [e6], by first | rfl | simp only [e6]⟩) (aq.cons (fun t ht ξ ξ' h => by cases ht; have e6 : ξ 6 = ξ' 6 := h 6 (aC.1 rfl); have e7 : ξ 7 = ξ' 7 := h 7 (aC.1 rfl); exact ⟨by first | rfl | simp only [e6, e7], by first | rfl | simp only [e6, e7]⟩) (aq.cons (bf.c rfl) (aq.cons (bf.c rfl) (aq.cons (bf.c rfl) aq.nil))))))))))) (aq.cons (dA.c rfl) (aq.cons (dA.c rfl) (aq.cons (dA.c rfl) (aq.cons (fun r hr ξ ξ' h => by cases hr; have e6 : ξ 6 = ξ' 6 := h 6 (aC.1 rfl); exact ⟨by first | rfl | simp only [e6], by first | rfl | simp only [e6]⟩) (aq.cons (fun r hr ξ ξ' h => by cases hr; have e7 : ξ 7 = ξ' 7 := h 7 (aC.1 rfl); exact ⟨by first | rfl | simp only [e7], by first | rfl | simp only [e7]⟩) (aq.cons (fun r hr ξ ξ' h => by cases hr; have e7 : ξ 7 = ξ' 7 := h 7 (aC.1 rfl); exact ⟨by first | rfl | simp only [e7], by first | rfl | simp only [e7]⟩) aq.nil)))))) (fun ξ => ?_)
    ·
     intro o t ho ht ξ Gr Γr Lr Q hk
     cases ho; cases ht
     refine WL.rn 1 [] [(29, vP b_0 0)] ?_
     exact WL.fin (hk default)
    ·
     intro o t ho ht ξ Gr Γr Lr Q hk
     cases ho; cases ht
     refine WL.rn 1 [] [(30, vP b_0 0)] ?_
     exact WL.fin (hk default)
    ·
     intro o t ho ht ξ Gr Γr Lr Q hk
     cases ho; cases ht
     refine WL.rn 1 [] [(31, vP b_0 0)] ?_
     exact WL.fin (hk default)
    ·
     intro o t ho ht ξ Gr Γr Lr Q hk
     cases ho; cases ht
     refine WL.rn 1 [] [(32, vP b_0 0)] ?_
     exact WL.fin (hk default)
    ·
     intro o t ho ht ξ Gr Γr Lr Q hk
     cases ho; cases ht
     refine WL.rn 1 [0] [(33, ae A00 a0.length)] ?_
     exact WL.fin (hk default)
    ·
     intro o t ho ht ξ Gr Γr Lr Q hk
     cases ho; cases ht
     refine WL.rn 1 [0, 0, 0] [(34, aj.v a1)] ?_
     exact WL.fin (hk default)
    ·
     intro o t ho ht ξ Gr Γr Lr Q hk
     cases ho; cases ht
     refine WL.rh 1 [] (fun b12 => [(35, .slice (some ⟨b12, 0, none⟩) 1 1)]) (fun b12 => []) (fun b12 => [(b12, aj.o a1)]) (fun b12 => ?_)
     exact WL.fin (hk (b12, default))
    ·
     intro o t ho ht ξ Gr Γr Lr Q hk
     cases ho; cases ht
     refine WL.tW (H' := []) (Row 3 (pl aj.enc) aA (av.at (ξ 6).1 1 (fun _ => ())) ([a1] : List aj)) 0 (b := (ξ 6).1) (ob := aj.o a1) rfl [] [] rfl (fun w hb hψ => cl hb (fun _ _ => rfl) ⟨[], by kernel_rfl⟩ (nB rfl) (jj.no _ _)) rfl ?_
     refine WL.dW (G' := Gr) (A := A00) (B := (av.at (ξ 6).1 1 (fun _ => ()))) (xs := a0) (ys := ([a1] : List aj)) (m := 3) (by_ := 24) (e := 163) (z := .agg #[vT 0, vI 0, vT 0]) (f := (pl aj.enc)) (K := aA) (d := 36) 0 rfl rfl rfl rfl rfl rfl rfl (fun _ _ => rfl) (fun _ _ => rfl) (by kernel_rfl) rfl rfl rfl rfl (ar 1 rfl) (ar 0 rfl) h13 rfl (fun A15 => ?_)
     refine WL.less (Φ' := (([bC aA A15 (a0 ++ ([a1] : List aj)), Row 3 (pl aj.enc) aA (av.at (ξ 6).1 1 (fun _ => ())) ([a1] : List aj), bC aA A00 a0] ++ Γr) ++ aI)) (fun _ h => h) ?_
     exact WL.fin (hk (default, A15))
    ·
     intro o t ho ht ξ Gr Γr Lr Q hk
     cases ho; cases ht
     refine WL.rn 1 [] [(37, vP b_0 0)] ?_
     exact WL.fin (hk default)
    ·
     intro o t ho ht ξ Gr Γr Lr Q hk
     cases ho; cases ht
     refine WL.rn 1 [] [(38, vP b_0 0)] ?_
     exact WL.fin (hk default)
    ·
     intro o t ho ht ξ Gr Γr Lr Q hk
     cases ho; cases ht
     refine WL.rh 1 [0] (fun _ => []) (fun _ => [(0, 0, [ae (ξ 7).2 (a0 ++ ([a1] : List aj)).length])]) (fun _ => []) (fun _ => ?_)
     exact WL.fin (hk default)
    generalize (ξ 6).1 = b12
    generalize (ξ 7).2 = A15
    refine WP.less (Φ' := ([bC aA A15 (a0 ++ ([a1] : List aj)), Row 3 (pl aj.enc) aA (av.at b12 1 (fun _ => ())) ([a1] : List aj), bC aA A00 a0] ++ aI)) (fun _ h => h) ?_
    refine WP.kp [false, true] ?_
    refine WP.seq (WP.rn [] [(4, vI 0)] ?_)
    obtain rfl := oI hM
    exact WP.ret [] [] (vI 0) (by kernel_rfl) (fun w' hw => ⟨A15, rfl, (hw.pick [0] rfl).less (aT [0] [2] rfl rfl)⟩)
def a6.l1 (a0 : (List aj)) (k : Nat) : Nat → Bool → Int → (List aj) → Option (Bool)
 | 0, _, _, _ => none
 | n + 1, x12, x13, x14 =>
  bif decide (x13 < (a0.length : Int)) then
   (cI a0.length a0 x13).bind fun t17 =>
   (cn.f k x14 t17).bind fun (r19, r20) =>
   bif (r19 != 0) then
    some false
   else
    a6.l1 a0 k n x12 (i64 (x13 + 1)) r20
  else
   some true
def a6.f (k : Nat) (a0 : (List aj)) : Option (Bool) :=
 a6.l1 a0 k k false 0 ([] : List aj)
theorem j2 (k : Nat) (A00 : av Unit) (a0 : (List aj)) (r : Bool) (h : a6.f k a0 = some r) : eT Tryz.prog 41 #[ae A00 a0.length] [] ([Row 3 (pl aj.enc) aA A00 a0] ++ aI) (fun x : (Option Addr) => .tuple #[.pointer x, vB r]) (fun x => []) (fun _ => []) (fun x => [] ++ ([Row 3 (pl aj.enc) aA A00 a0] ++ aI)) := by
 intro w Z hS
 refine bh (args := [ae A00 a0.length]) (L := [(0, ae A00 a0.length)]) (N := 25) Tryz.func41 hS ?_
 have hM := h
 clear h hS
 unfold a6.f at hM
 refine WP.seq (WP.rn [] [(2, .pointer none), (3, vB false)] ?_)
 refine WP.seq ?_
 refine WP.rh [] (fun b1 => [(4, vP b1 0)]) (fun b1 => []) (fun b1 => [(b1, .cells #[.slice none 0 0] 216 (0, 0))]) (fun b1 => ?_)
 refine WP.seq (WP.seq (WP.rn [] [(5, vI 0)] ?_))
 refine WP.block ?_
 refine WP.fH 3 163 (pl aj.enc) aA (fun _ => ()) ?_
 skip
 refine WP.sub [0, 3, 4, 5] (L' := [(0, ae A00 a0.length), (3, vB false), (4, vP b1 0), (5, vI 0)]) rfl ?_
 refine WP.aQ [0, 0, 1] (F' := [bC aA (av.nil (fun _ => ())) ([] : List aj), bC aA (av.nil (fun _ => ())) ([] : List aj), Row 3 (pl aj.enc) aA A00 a0]) rfl ?_
 refine WP.loop (σ := Bool × Int × (List aj) × av Unit) (fun n st => a6.l1 a0 k n st.1 st.2.1 st.2.2.1) r (fun st => [(0, ae A00 a0.length), (3, vB st.1), (4, vP b1 0), (5, vI st.2.1)]) (fun st => Sat w Z [(b1, .cells #[ae st.2.2.2 st.2.2.1.length] 216 (0, 0))] [bL 3 163 (pl aj.enc) st.2.2.2 st.2.2.1] ([bC aA st.2.2.2 st.2.2.1, bC aA (av.nil (fun _ => ())) ([] : List aj), Row 3 (pl aj.enc) aA A00 a0] ++ aI)) (st := (false, 0, ([] : List aj), (av.nil (fun _ => ())))) (fun n st hM => ?_) hM
 rcases n with _ | n
 ·exact nomatch (show (none : Option _) = some r from hM)
 obtain ⟨x12, x13, x14, A15⟩ := st
 replace hM : a6.l1 a0 k (n + 1) x12 x13 x14 = some r := hM
 rw [a6.l1] at hM
 try dsimp only
 refine WP.seq (WP.seq (WP.rn [] [(9, vI x13), (10, ae A00 a0.length), (11, vI (a0.length : Int)), (12, vB (decide (x13 < (a0.length : Int))))] ?_))
 refine WP.cond (decide (x13 < (a0.length : Int))) rfl rfl (fun c16 => ?_) (fun c16 => ?_)
 ·replace hM := aG hM c16
  refine WP.skip (WP.seq (WP.block (WP.seq (WP.region ?_))))
  refine WL.rn 3 [] [(15, vP b1 0), (16, ae A00 a0.length), (17, vI x13)] ?_
  obtain ⟨t17, h18, hM⟩ := bind_some hM
  refine WL.cd (φ := Row 3 (pl aj.enc) aA A00 a0) (ar 2 rfl) (fun w hR => aJ (A := A00) (xs := a0) (i := x13) (k := .i64) (e := 163) (m := 3) rfl rfl h18 rfl rfl hR) (by kernel_rfl) rfl rfl ?_
  refine WL.cd (φ := Row 3 (pl aj.enc) aA A00 a0) (ar 2 rfl) (fun w hR => b4 (A := A00) (xs := a0) (i := x13) (j := 0) (n := 3) (vs := [vT t17.To.Ip, vI t17.To.cL, vT t17.xw]) h18 (fun _ => by kernel_rfl) rfl rfl rfl rfl hR) (by kernel_rfl) rfl rfl ?_
  obtain ⟨⟨r19, r20⟩, h21, hM⟩ := bind_some hM
  dsimp only at hM
  refine WL.nj (Gr := []) (F0 := [bC aA A15 x14]) [] [] [true] (fun _ => _) [0] rfl (gO k b1 A15 x14 t17 _ h21) rfl rfl rfl (by kernel_rfl) rfl (fun _ => rfl) (fun A22 => ?_)
  refine WL.rn 1 [] [(6, vI r19)] ?_
  refine WP.done (WP.seq (WP.rn [] [(21, vI r19), (22, vB (r19 != 0))] ?_))
  refine WP.cond (r19 != 0) rfl rfl (fun c23 => ?_) (fun c23 => ?_)
  ·replace hM := aG hM c23
   refine WP.seq ?_
   refine WP.rn [] [(2, vP b1 0), (3, vB false), (23, vP b1 0)] ?_
   refine WP.dE (G' := []) [] [0] 1 rfl (by decide) rfl ?_
   obtain rfl := oI hM
   exact WP.ret [] [] (.tuple #[vP b1 0, vB false]) (by kernel_rfl) (fun w' hw => ⟨(some ⟨b1, 0, none⟩), rfl, (hw.pick [] rfl).less (aT [] [3] rfl rfl)⟩)
  ·replace hM := aH hM c23
   refine WP.skip (WP.leave (WP.rn [] [(5, vI (i64 (x13 + 1))), (13, vI x13), (14, vI (i64 (x13 + 1)))] ?_))
   exact WP.cN [0, 3, 4, 5] (x12, i64 (x13 + 1), r20, A22) hM rfl (fun _ h => ((h.pick [0] rfl).aQ [0, 2, 3] rfl).dE [0] [] 1 rfl (by decide) rfl)
 ·replace hM := aH hM c16
  refine WP.exit rfl (WP.seq ?_)
  refine WP.rn [] [(2, vP b1 0), (3, vB true)] ?_
  refine WP.dE (G' := []) [] [0] 1 rfl (by decide) rfl ?_
  obtain rfl := oI hM
  exact WP.ret [] [] (.tuple #[vP b1 0, vB true]) (by kernel_rfl) (fun w' hw => ⟨(some ⟨b1, 0, none⟩), rfl, (hw.pick [] rfl).less (aT [] [2] rfl rfl)⟩)
def aL.k1 (x2 : Int) (rec_l2 : Int → Int → Option (Int)) (x7 : Int) : Option (Int) :=
 rec_l2 x7 (i64 (x2 + 1))
def aL.l2 (a0 : (List Int)) (a1 : Int) : Nat → Int → Int → Option (Int)
 | 0, _, _ => none
 | n + 1, x1, x2 =>
  bif decide (x2 < (a0.length : Int)) then
   (cI a0.length a0 x2).bind fun t4 =>
   bif (t4 == a1) then
    aL.k1 x2 (aL.l2 a0 a1 n) (i64 (x1 + 1))
   else
    aL.k1 x2 (aL.l2 a0 a1 n) x1
  else
   some x1
def aL.f (k : Nat) (a0 : (List Int)) (a1 : Int) : Option (Int) :=
 aL.l2 a0 a1 k 0 0
theorem jC (k : Nat) (A00 : av Unit) (a0 : (List Int)) (a1 : Int) (r : Int) (h : aL.f k a0 a1 = some r) : Pure Tryz.prog ([Row 1 (pl (aE .u32)) aA A00 a0] ++ aI) 82 #[ae A00 a0.length, vT a1] (vI r) := by
 intro w Z hS
 refine bh (args := [ae A00 a0.length, vT a1]) (L := [(0, ae A00 a0.length), (1, vT a1)]) (N := 22) Tryz.func82 hS ?_
 have hM := h
 clear h hS
 unfold aL.f at hM
 refine WP.seq (WP.rn [] [(4, vI 0)] ?_)
 refine WP.seq (WP.rn [] [(5, vI 0)] ?_)
 refine WP.seq (WP.seq (WP.rn [] [(6, vI 0)] ?_))
 refine WP.block (WP.sub [0, 1, 4, 5, 6] (L' := [(0, ae A00 a0.length), (1, vT a1), (4, vI 0), (5, vI 0), (6, vI 0)]) rfl ?_)
 refine WP.aQ [0] (F' := [Row 1 (pl (aE .u32)) aA A00 a0]) rfl ?_
 refine WP.loop (σ := Int × Int) (fun n st => aL.l2 a0 a1 n st.1 st.2) r (fun st => [(0, ae A00 a0.length), (1, vT a1), (4, vI 0), (5, vI st.1), (6, vI st.2)]) (fun st => Sat w Z [] [] ([Row 1 (pl (aE .u32)) aA A00 a0] ++ aI)) (st := (0, 0)) (fun n st hM => ?_) hM
 rcases n with _ | n
 ·exact nomatch (show (none : Option _) = some r from hM)
 obtain ⟨x1, x2⟩ := st
 replace hM : aL.l2 a0 a1 (n + 1) x1 x2 = some r := hM
 rw [aL.l2] at hM
 try dsimp only
 refine WP.seq (WP.seq (WP.rn [] [(7, vI x2), (8, ae A00 a0.length), (9, vI (a0.length : Int)), (10, vB (decide (x2 < (a0.length : Int))))] ?_))
 refine WP.cond (decide (x2 < (a0.length : Int))) rfl rfl (fun c3 => ?_) (fun c3 => ?_)
 ·replace hM := aG hM c3
  refine WP.skip (WP.seq ?_)
  refine WP.xo (σ := Int) (fun st => aL.k1 x2 (aL.l2 a0 a1 n) st = some r) (fun st => [(0, ae A00 a0.length), (1, vT a1), (4, vI 0), (5, vI st), (6, vI x2), (7, vI x2), (8, ae A00 a0.length), (9, vI (a0.length : Int)), (10, vB (decide (x2 < (a0.length : Int)))), (13, ae A00 a0.length), (14, vI x2), (15, dM A00 (Int.toNat x2 * 1)), (17, vT a1)]) (fun st => Sat w Z [] [] ([Row 1 (pl (aE .u32)) aA A00 a0] ++ aI)) (fun st hM => ?_) (fun K1 => ?_)
  ·
   obtain ⟨x7, rfl⟩ : ∃ y, y = st := ⟨st, rfl⟩
   replace hM : aL.k1 x2 (aL.l2 a0 a1 n) x7 = some r := hM
   unfold aL.k1 at hM
   try dsimp only
   refine WP.rn [] [(6, vI (i64 (x2 + 1))), (11, vI x2), (12, vI (i64 (x2 + 1)))] ?_
   exact WP.cN [0, 1, 4, 5, 6] (x7, i64 (x2 + 1)) hM rfl (fun _ h => (h.pick [] rfl).aQ [0] rfl)
  ·
   refine WP.seq (WP.region (WL.rn 2 [] [(13, ae A00 a0.length), (14, vI x2)] ?_))
   obtain ⟨t4, h5, hM⟩ := bind_some hM
   refine WL.cd (φ := Row 1 (pl (aE .u32)) aA A00 a0) (ar 0 rfl) (fun w hR => aJ (A := A00) (xs := a0) (i := x2) (k := .i64) (e := 50) (m := 1) rfl rfl h5 rfl rfl hR) (by kernel_rfl) rfl rfl ?_
   refine WL.cd (φ := Row 1 (pl (aE .u32)) aA A00 a0) (ar 0 rfl) (fun w hR => bp (A := A00) (xs := a0) (i := x2) (j := 0) (v := vT t4) h5 (fun _ => by kernel_rfl) rfl rfl hR) (by kernel_rfl) rfl rfl ?_
   refine WL.rn 2 [] [(17, vT a1), (18, vB (t4 == a1))] ?_
   refine WP.done ?_
   refine WP.cond (t4 == a1) rfl rfl (fun c6 => ?_) (fun c6 => ?_)
   ·replace hM := aG hM c6
    refine WP.rn [] [(5, vI (i64 (x1 + 1))), (19, vI x1), (20, vI (i64 (x1 + 1)))] ?_
    refine WP.leave ?_
    exact WP.sub [0, 1, 4, 5, 6, 7, 8, 9, 10, 13, 14, 15, 17] rfl (WP.pick [] rfl rfl (WP.aQ [0] rfl (K1 (i64 (x1 + 1)) hM)))
   ·replace hM := aH hM c6
    refine WP.skip (WP.leave ?_)
    exact WP.sub [0, 1, 4, 5, 6, 7, 8, 9, 10, 13, 14, 15, 17] rfl (WP.pick [] rfl rfl (WP.aQ [0] rfl (K1 x1 hM)))
 ·replace hM := aH hM c3
  refine WP.exit rfl (WP.seq (WP.rn [] [(4, vI x1)] ?_))
  obtain rfl := oI hM
  exact WP.dI [] [] [0]
def ab.k2 (x15 : Int) (rec_l4 : Bool → Int → Option (Int)) (x25 : Bool) (x26 : Bool) : Option (Int) :=
 rec_l4 x26 (i64 (x15 + 1))
def ab.k3 (a1 : (List ag)) (x15 : Int) (t11 : ag) (rec_l4 : Bool → Int → Option (Int)) (x20 : Bool) (x21 : Bool) : Option (Int) :=
 bif x21 then
  (cI a1.length a1 x15).bind fun t23 =>
  ab.k2 x15 rec_l4 true (t23.bV != t11.bV)
 else
  ab.k2 x15 rec_l4 false false
def ab.k5 (x28 : Int) (rec_l8 : Bool → Int → Option (Int)) (x45 : Bool) (x46 : Bool) : Option (Int) :=
 rec_l8 x46 (i64 (x28 + 1))
def ab.k6 (t11 : ag) (x28 : Int) (k : Nat) (rec_l8 : Bool → Int → Option (Int)) (x38 : Bool) (x39 : Bool) : Option (Int) :=
 bif x39 then
  (cI t11.aD.length t11.aD x28).bind fun t41 =>
  (aL.f k t11.aD t41).bind fun r43 =>
  ab.k5 x28 rec_l8 true (r43 == 1)
 else
  ab.k5 x28 rec_l8 false false
def ab.k7 (t11 : ag) (x28 : Int) (k : Nat) (a0 : Int) (rec_l8 : Bool → Int → Option (Int)) (x33 : Bool) (x34 : Bool) : Option (Int) :=
 bif x34 then
  (cI t11.aD.length t11.aD x28).bind fun t36 =>
  ab.k6 t11 x28 k rec_l8 true (t36 != a0)
 else
  ab.k6 t11 x28 k rec_l8 false false
def ab.l8 (t11 : ag) (k : Nat) (a0 : Int) (x9 : Int) (rec_l9 : Bool → Int → Option (Int)) : Nat → Bool → Int → Option (Int)
 | 0, _, _ => none
 | n1 + 1, x27, x28 =>
  bif decide (x28 < (t11.aD.length : Int)) then
   bif x27 then
    (cI t11.aD.length t11.aD x28).bind fun t31 =>
    ab.k7 t11 x28 k a0 (ab.l8 t11 k a0 x9 rec_l9 n1) true (decide (t31 > 0))
   else
    ab.k7 t11 x28 k a0 (ab.l8 t11 k a0 x9 rec_l9 n1) false false
  else
   rec_l9 x27 (i64 (x9 + 1))
def ab.l4 (x9 : Int) (a1 : (List ag)) (t11 : ag) (k : Nat) (a0 : Int) (rec_l9 : Bool → Int → Option (Int)) : Nat → Bool → Int → Option (Int)
 | 0, _, _ => none
 | n1 + 1, x14, x15 =>
  bif decide (x15 < x9) then
   bif x14 then
    (cI a1.length a1 x15).bind fun t18 =>
    ab.k3 a1 x15 t11 (ab.l4 x9 a1 t11 k a0 rec_l9 n1) true (t18.bd != t11.bd)
   else
    ab.k3 a1 x15 t11 (ab.l4 x9 a1 t11 k a0 rec_l9 n1) false false
  else
   ab.l8 t11 k a0 x9 rec_l9 k x14 0
def ab.l9 (a1 : (List ag)) (k : Nat) (a0 : Int) : Nat → Bool → Int → Option (Int)
 | 0, _, _ => none
 | n + 1, x8, x9 =>
  bif decide (x9 < (a1.length : Int)) then
   (cI a1.length a1 x9).bind fun t11 =>
   ab.l4 x9 a1 t11 k a0 (ab.l9 a1 k a0 n) k ((((x8 && (decide (t11.bd > 0))) && (decide (t11.bd < 4095))) && (decide (t11.bV ≥ 0))) && (decide (t11.bV < 16777216))) 0
  else
   bif x8 then
    some 0
   else
    some 210
def ab.l1 (a1 : (List ag)) (k : Nat) (a0 : Int) : Nat → Int → Int → Option (Int)
 | 0, _, _ => none
 | n + 1, x1, x2 =>
  bif decide (x2 < (a1.length : Int)) then
   (cI a1.length a1 x2).bind fun t4 =>
   bif decide ((t4.aD.length : Int) > 16) then
    some 2
   else
    ab.l1 a1 k a0 n x1 (i64 (x2 + 1))
  else
   bif decide ((a1.length : Int) > 256) then
    some 2
   else
    ab.l9 a1 k a0 k (decide (a0 > 0)) 0
def ab.f (k : Nat) (a0 : Int) (a1 : (List ag)) : Option (Int) :=
 ab.l1 a1 k a0 k 0 0
theorem jD (k : Nat) (A00 : av (av Unit)) (a0 : Int) (a1 : (List ag)) (r : Int) (h : ab.f k a0 a1 = some r) : Pure Tryz.prog ([Row 3 ag.au ag.aN A00 a1] ++ aI) 42 #[vT a0, ae A00 a1.length] (vI r) := by
 intro w Z hS
 refine bh (args := [vT a0, ae A00 a1.length]) (L := [(0, vT a0), (1, ae A00 a1.length)]) (N := 123) Tryz.func42 hS ?_
 have hM := h
 clear h hS
 unfold ab.f at hM
 refine WP.seq (WP.rn [] [(4, vI 0)] ?_)
 refine WP.seq (WP.seq (WP.rn [] [(5, vI 0)] ?_))
 refine WP.block (WP.sub [0, 1, 4, 5] (L' := [(0, vT a0), (1, ae A00 a1.length), (4, vI 0), (5, vI 0)]) rfl ?_)
 refine WP.aQ [0] (F' := [Row 3 ag.au ag.aN A00 a1]) rfl ?_
 refine WP.loop (σ := Int × Int) (fun n st => ab.l1 a1 k a0 n st.1 st.2) r (fun st => [(0, vT a0), (1, ae A00 a1.length), (4, vI st.1), (5, vI st.2)]) (fun st => Sat w Z [] [] ([Row 3 ag.au ag.aN A00 a1] ++ aI)) (st := (0, 0)) (fun n st hM => ?_) hM
 rcases n with _ | n
 ·exact nomatch (show (none : Option _) = some r from hM)
 obtain ⟨x1, x2⟩ := st
 replace hM : ab.l1 a1 k a0 (n + 1) x1 x2 = some r := hM
 rw [ab.l1] at hM
 try dsimp only
 refine WP.seq (WP.seq (WP.rn [] [(11, vI x2), (12, ae A00 a1.length), (13, vI (a1.length : Int)), (14, vB (decide (x2 < (a1.length : Int))))] ?_))
 refine WP.cond (decide (x2 < (a1.length : Int))) rfl rfl (fun c3 => ?_) (fun c3 => ?_)
 ·replace hM := aG hM c3
  refine WP.skip (WP.seq (WP.block (WP.seq (WP.region (WL.rn 2 [] [(17, ae A00 a1.length), (18, vI x2)] ?_)))))
  obtain ⟨t4, h5, hM⟩ := bind_some hM
  refine WL.cd (φ := Row 3 ag.au ag.aN A00 a1) (ar 0 rfl) (fun w hR => aJ (A := A00) (xs := a1) (i := x2) (k := .i64) (e := 143) (m := 3) rfl rfl h5 rfl rfl hR) (by kernel_rfl) rfl rfl ?_
  refine WL.cd (φ := Row 3 ag.au ag.aN A00 a1) (ar 0 rfl) (fun w hR => cY (A := A00) (xs := a1) (i := x2) (n := Int.toNat x2 * 3 + 0) (n' := Int.toNat x2 * 3 + 2) h5 rfl (fun _ _ => by kernel_rfl) hR) (by kernel_rfl) rfl rfl ?_
  refine WL.cd (φ := Row 3 ag.au ag.aN A00 a1) (ar 0 rfl) (fun w hR => bp (A := A00) (xs := a1) (i := x2) (j := 2) (v := ae (A00.s (Int.toNat x2)) t4.aD.length) h5 (fun _ => by kernel_rfl) rfl rfl hR) (by kernel_rfl) rfl rfl ?_
  refine WL.ez (Row 1 (pl (aE .u32)) aA (A00.s (Int.toNat x2)) t4.aD) [0] [Row 3 ag.au ag.aN A00 a1] rfl (fun w hψ => ((hψ _ (List.mem_singleton.2 rfl)).inner _ _ (bg h5).2)) ?_
  refine WL.rn 2 [] [(22, vI (t4.aD.length : Int)), (23, vB (decide ((t4.aD.length : Int) > 16)))] ?_
  refine WP.done ?_
  refine WP.cond (decide ((t4.aD.length : Int) > 16)) rfl rfl (fun c6 => ?_) (fun c6 => ?_)
  ·replace hM := aG hM c6
   refine WP.seq (WP.rn [] [(4, vI 2)] ?_)
   obtain rfl := oI hM
   exact WP.dI [] [] [1]
  ·replace hM := aH hM c6
   refine WP.skip (WP.leave (WP.rn [] [(5, vI (i64 (x2 + 1))), (15, vI x2), (16, vI (i64 (x2 + 1)))] ?_))
   exact WP.cN [0, 1, 4, 5] (x1, i64 (x2 + 1)) hM rfl (fun _ h => (h.pick [] rfl).aQ [1] rfl)
 ·replace hM := aH hM c3
  refine WP.exit rfl (WP.seq (WP.seq (WP.rn [] [(26, vB (decide ((a1.length : Int) > 256)))] ?_)))
  refine WP.cond (decide ((a1.length : Int) > 256)) rfl rfl (fun c7 => ?_) (fun c7 => ?_)
  ·replace hM := aG hM c7
   refine WP.seq (WP.rn [] [(4, vI 2)] ?_)
   obtain rfl := oI hM
   exact WP.dI [] [] [0]
  ·replace hM := aH hM c7
   refine WP.skip (WP.seq (WP.rn [] [(6, vB (decide (a0 > 0)))] ?_))
   refine WP.seq (WP.seq (WP.rn [] [(7, vI 0)] ?_))
   refine WP.block (WP.sub [0, 1, 4, 6, 7] (L' := [(0, vT a0), (1, ae A00 a1.length), (4, vI x1), (6, vB (decide (a0 > 0))), (7, vI 0)]) rfl ?_)
   refine WP.aQ [0] (F' := [Row 3 ag.au ag.aN A00 a1]) rfl ?_
   refine WP.loop (σ := Bool × Int) (fun n st => ab.l9 a1 k a0 n st.1 st.2) r (fun st => [(0, vT a0), (1, ae A00 a1.length), (4, vI x1), (6, vB st.1), (7, vI st.2)]) (fun st => Sat w Z [] [] ([Row 3 ag.au ag.aN A00 a1] ++ aI)) (st := (decide (a0 > 0), 0)) (fun n st hM => ?_) hM
   rcases n with _ | n
   ·exact nomatch (show (none : Option _) = some r from hM)
   obtain ⟨x8, x9⟩ := st
   replace hM : ab.l9 a1 k a0 (n + 1) x8 x9 = some r := hM
   rw [ab.l9] at hM
   try dsimp only
   refine WP.seq (WP.seq (WP.rn [] [(29, vI x9), (30, ae A00 a1.length), (31, vI (a1.length : Int)), (32, vB (decide (x9 < (a1.length : Int))))] ?_))
   refine WP.cond (decide (x9 < (a1.length : Int))) rfl rfl (fun c10 => ?_) (fun c10 => ?_)
   ·replace hM := aG hM c10
    refine WP.skip (WP.seq (WP.block (WP.seq (WP.region (WL.rn 2 [] [(35, ae A00 a1.length), (36, vI x9)] ?_)))))
    obtain ⟨t11, h12, hM⟩ := bind_some hM
    refine WL.cd (φ := Row 3 ag.au ag.aN A00 a1) (ar 0 rfl) (fun w hR => aJ (A := A00) (xs := a1) (i := x9) (k := .i64) (e := 143) (m := 3) rfl rfl h12 rfl rfl hR) (by kernel_rfl) rfl rfl ?_
    refine WL.cd (φ := Row 3 ag.au ag.aN A00 a1) (ar 0 rfl) (fun w hR => b4 (A := A00) (xs := a1) (i := x9) (j := 0) (n := 3) (vs := [vI t11.bd, vI t11.bV, ae (A00.s (Int.toNat x9)) t11.aD.length]) h12 (fun _ => by kernel_rfl) rfl rfl rfl rfl hR) (by kernel_rfl) rfl rfl ?_
    refine WL.ez (Row 1 (pl (aE .u32)) aA (A00.s (Int.toNat x9)) t11.aD) [0] [Row 3 ag.au ag.aN A00 a1] rfl (fun w hψ => ((hψ _ (List.mem_singleton.2 rfl)).inner _ _ (bg h12).2)) ?_
    refine WL.rh 2 [0, 0, 0] (fun b13 => [(8, vP b13 0)]) (fun b13 => []) (fun b13 => [(b13, .cells #[vI t11.bd, vI t11.bV, ae (A00.s (Int.toNat x9)) t11.aD.length] 143 (0, 0))]) (fun b13 => ?_)
    refine WP.done (WP.seq (WP.region (WL.rn 2 [] [(39, vB x8), (40, vB x8)] ?_)))
    refine WL.bo 40 x8 4 [0] [] (fun b' => [(44, vB (b' && (decide (t11.bd > 0))))]) ?_
    refine WL.rn 1 [] [(45, vB (x8 && (decide (t11.bd > 0))))] ?_
    refine WL.bo 45 (x8 && (decide (t11.bd > 0))) 4 [0] [] (fun b' => [(49, vB (b' && (decide (t11.bd < 4095))))]) ?_
    refine WL.rn 1 [] [(50, vB ((x8 && (decide (t11.bd > 0))) && (decide (t11.bd < 4095))))] ?_
    refine WL.bo 50 ((x8 && (decide (t11.bd > 0))) && (decide (t11.bd < 4095))) 4 [0] [] (fun b' => [(54, vB (b' && (decide (t11.bV ≥ 0))))]) ?_
    refine WL.rn 1 [] [(55, vB (((x8 && (decide (t11.bd > 0))) && (decide (t11.bd < 4095))) && (decide (t11.bV ≥ 0))))] ?_
    refine WL.bo 55 (((x8 && (decide (t11.bd > 0))) && (decide (t11.bd < 4095))) && (decide (t11.bV ≥ 0))) 4 [0] [] (fun b' => [(59, vB (b' && (decide (t11.bV < 16777216))))]) ?_
    refine WL.rn 1 [] [(6, vB ((((x8 && (decide (t11.bd > 0))) && (decide (t11.bd < 4095))) && (decide (t11.bV ≥ 0))) && (decide (t11.bV < 16777216))))] ?_
    refine WP.done (WP.seq (WP.seq (WP.rn [] [(9, vI 0)] ?_)))
    refine WP.block ?_
    refine WP.sub [0, 1, 4, 6, 7, 8, 9, 29, 30, 31, 32, 35, 36, 37, 38, 39, 40, 44, 45, 49, 50, 54, 55, 59] (L' := [(0, vT a0), (1, ae A00 a1.length), (4, vI x1), (6, vB ((((x8 && (decide (t11.bd > 0))) && (decide (t11.bd < 4095))) && (decide (t11.bV ≥ 0))) && (decide (t11.bV < 16777216)))), (7, vI x9), (8, vP b13 0), (9, vI 0), (29, vI x9), (30, ae A00 a1.length), (31, vI (a1.length : Int)), (32, vB (decide (x9 < (a1.length : Int)))), (35, ae A00 a1.length), (36, vI x9), (37, dM A00 (Int.toNat x9 * 3)), (38, .agg #[vI t11.bd, vI t11.bV, ae (A00.s (Int.toNat x9)) t11.aD.length]), (39, vB x8), (40, vB x8), (44, vB (x8 && (decide (t11.bd > 0)))), (45, vB (x8 && (decide (t11.bd > 0)))), (49, vB ((x8 && (decide (t11.bd > 0))) && (decide (t11.bd < 4095)))), (50, vB ((x8 && (decide (t11.bd > 0))) && (decide (t11.bd < 4095)))), (54, vB (((x8 && (decide (t11.bd > 0))) && (decide (t11.bd < 4095))) && (decide (t11.bV ≥ 0)))), (55, vB (((x8 && (decide (t11.bd > 0))) && (decide (t11.bd < 4095))) && (decide (t11.bV ≥ 0)))), (59, vB ((((x8 && (decide (t11.bd > 0))) && (decide (t11.bd < 4095))) && (decide (t11.bV ≥ 0))) && (decide (t11.bV < 16777216))))]) rfl ?_
    refine WP.aQ [0, 1] (F' := [Row 1 (pl (aE .u32)) aA (A00.s (Int.toNat x9)) t11.aD, Row 3 ag.au ag.aN A00 a1]) rfl ?_
    refine WP.loop (σ := Bool × Int) (fun n1 st => ab.l4 x9 a1 t11 k a0 (ab.l9 a1 k a0 n) n1 st.1 st.2) r (fun st => [(0, vT a0), (1, ae A00 a1.length), (4, vI x1), (6, vB st.1), (7, vI x9), (8, vP b13 0), (9, vI st.2), (29, vI x9), (30, ae A00 a1.length), (31, vI (a1.length : Int)), (32, vB (decide (x9 < (a1.length : Int)))), (35, ae A00 a1.length), (36, vI x9), (37, dM A00 (Int.toNat x9 * 3)), (38, .agg #[vI t11.bd, vI t11.bV, ae (A00.s (Int.toNat x9)) t11.aD.length]), (39, vB x8), (40, vB x8), (44, vB (x8 && (decide (t11.bd > 0)))), (45, vB (x8 && (decide (t11.bd > 0)))), (49, vB ((x8 && (decide (t11.bd > 0))) && (decide (t11.bd < 4095)))), (50, vB ((x8 && (decide (t11.bd > 0))) && (decide (t11.bd < 4095)))), (54, vB (((x8 && (decide (t11.bd > 0))) && (decide (t11.bd < 4095))) && (decide (t11.bV ≥ 0)))), (55, vB (((x8 && (decide (t11.bd > 0))) && (decide (t11.bd < 4095))) && (decide (t11.bV ≥ 0)))), (59, vB ((((x8 && (decide (t11.bd > 0))) && (decide (t11.bd < 4095))) && (decide (t11.bV ≥ 0))) && (decide (t11.bV < 16777216))))]) (fun st => Sat w Z [(b13, .cells #[vI t11.bd, vI t11.bV, ae (A00.s (Int.toNat x9)) t11.aD.length] 143 (0, 0))] [] ([Row 1 (pl (aE .u32)) aA (A00.s (Int.toNat x9)) t11.aD, Row 3 ag.au ag.aN A00 a1] ++ aI)) (st := (((((x8 && (decide (t11.bd > 0))) && (decide (t11.bd < 4095))) && (decide (t11.bV ≥ 0))) && (decide (t11.bV < 16777216))), 0)) (fun n1 st hM => ?_) hM
    rcases n1 with _ | n1
    ·exact nomatch (show (none : Option _) = some r from hM)
    obtain ⟨x14, x15⟩ := st
    replace hM : ab.l4 x9 a1 t11 k a0 (ab.l9 a1 k a0 n) (n1 + 1) x14 x15 = some r := hM
    rw [ab.l4] at hM
    try dsimp only
    refine WP.seq (WP.seq (WP.rn [] [(60, vI x15), (61, vI x9), (62, vB (decide (x15 < x9)))] ?_))
    refine WP.cond (decide (x15 < x9)) rfl rfl (fun c16 => ?_) (fun c16 => ?_)
    ·replace hM := aG hM c16
     refine WP.skip (WP.seq (WP.block (WP.quiet rfl (by kernel_rfl) ?_)))
     refine QL.rn 2 [] [(65, vB x14), (66, vB x14)] ?_
     refine QL.join (σ := Bool × Bool) 9 (fun st => ab.k3 a1 x15 t11 (ab.l4 x9 a1 t11 k a0 (ab.l9 a1 k a0 n) n1) st.1 st.2 = some r) (fun st => [(0, vT a0), (1, ae A00 a1.length), (4, vI x1), (6, vB x14), (7, vI x9), (8, vP b13 0), (9, vI x15), (29, vI x9), (30, ae A00 a1.length), (31, vI (a1.length : Int)), (32, vB (decide (x9 < (a1.length : Int)))), (35, ae A00 a1.length), (36, vI x9), (37, dM A00 (Int.toNat x9 * 3)), (38, .agg #[vI t11.bd, vI t11.bV, ae (A00.s (Int.toNat x9)) t11.aD.length]), (39, vB x8), (40, vB x8), (44, vB (x8 && (decide (t11.bd > 0)))), (45, vB (x8 && (decide (t11.bd > 0)))), (49, vB ((x8 && (decide (t11.bd > 0))) && (decide (t11.bd < 4095)))), (50, vB ((x8 && (decide (t11.bd > 0))) && (decide (t11.bd < 4095)))), (54, vB (((x8 && (decide (t11.bd > 0))) && (decide (t11.bd < 4095))) && (decide (t11.bV ≥ 0)))), (55, vB (((x8 && (decide (t11.bd > 0))) && (decide (t11.bd < 4095))) && (decide (t11.bV ≥ 0)))), (59, vB ((((x8 && (decide (t11.bd > 0))) && (decide (t11.bd < 4095))) && (decide (t11.bV ≥ 0))) && (decide (t11.bV < 16777216)))), (60, vI x15), (61, vI x9), (62, vB (decide (x15 < x9))), (65, vB x14), (66, vB st.1), (75, vB st.2)]) (fun st hM => ?_) (fun K3 => ?_)
     ·
      obtain ⟨x20, x21⟩ := st
      replace hM : ab.k3 a1 x15 t11 (ab.l4 x9 a1 t11 k a0 (ab.l9 a1 k a0 n) n1) x20 x21 = some r := hM
      unfold ab.k3 at hM
      show QL _ _ _ _ _ _ [(0, vT a0), (1, ae A00 a1.length), (4, vI x1), (6, vB x14), (7, vI x9), (8, vP b13 0), (9, vI x15), (29, vI x9), (30, ae A00 a1.length), (31, vI (a1.length : Int)), (32, vB (decide (x9 < (a1.length : Int)))), (35, ae A00 a1.length), (36, vI x9), (37, dM A00 (Int.toNat x9 * 3)), (38, .agg #[vI t11.bd, vI t11.bV, ae (A00.s (Int.toNat x9)) t11.aD.length]), (39, vB x8), (40, vB x8), (44, vB (x8 && (decide (t11.bd > 0)))), (45, vB (x8 && (decide (t11.bd > 0)))), (49, vB ((x8 && (decide (t11.bd > 0))) && (decide (t11.bd < 4095)))), (50, vB ((x8 && (decide (t11.bd > 0))) && (decide (t11.bd < 4095)))), (54, vB (((x8 && (decide (t11.bd > 0))) && (decide (t11.bd < 4095))) && (decide (t11.bV ≥ 0)))), (55, vB (((x8 && (decide (t11.bd > 0))) && (decide (t11.bd < 4095))) && (decide (t11.bV ≥ 0)))), (59, vB ((((x8 && (decide (t11.bd > 0))) && (decide (t11.bd < 4095))) && (decide (t11.bV ≥ 0))) && (decide (t11.bV < 16777216)))), (60, vI x15), (61, vI x9), (62, vB (decide (x15 < x9))), (65, vB x14), (66, vB x20), (75, vB x21)]
      refine QL.rn 1 [] [(76, vB x21)] ?_
      refine QL.join (σ := Bool × Bool) 9 (fun st => ab.k2 x15 (ab.l4 x9 a1 t11 k a0 (ab.l9 a1 k a0 n) n1) st.1 st.2 = some r) (fun st => [(0, vT a0), (1, ae A00 a1.length), (4, vI x1), (6, vB x14), (7, vI x9), (8, vP b13 0), (9, vI x15), (29, vI x9), (30, ae A00 a1.length), (31, vI (a1.length : Int)), (32, vB (decide (x9 < (a1.length : Int)))), (35, ae A00 a1.length), (36, vI x9), (37, dM A00 (Int.toNat x9 * 3)), (38, .agg #[vI t11.bd, vI t11.bV, ae (A00.s (Int.toNat x9)) t11.aD.length]), (39, vB x8), (40, vB x8), (44, vB (x8 && (decide (t11.bd > 0)))), (45, vB (x8 && (decide (t11.bd > 0)))), (49, vB ((x8 && (decide (t11.bd > 0))) && (decide (t11.bd < 4095)))), (50, vB ((x8 && (decide (t11.bd > 0))) && (decide (t11.bd < 4095)))), (54, vB (((x8 && (decide (t11.bd > 0))) && (decide (t11.bd < 4095))) && (decide (t11.bV ≥ 0)))), (55, vB (((x8 && (decide (t11.bd > 0))) && (decide (t11.bd < 4095))) && (decide (t11.bV ≥ 0)))), (59, vB ((((x8 && (decide (t11.bd > 0))) && (decide (t11.bd < 4095))) && (decide (t11.bV ≥ 0))) && (decide (t11.bV < 16777216)))), (60, vI x15), (61, vI x9), (62, vB (decide (x15 < x9))), (65, vB x14), (66, vB x20), (75, vB x21), (76, vB st.1), (85, vB st.2)]) (fun st hM => ?_) (fun K2 => ?_)
      ·
       obtain ⟨x25, x26⟩ := st
       replace hM : ab.k2 x15 (ab.l4 x9 a1 t11 k a0 (ab.l9 a1 k a0 n) n1) x25 x26 = some r := hM
       unfold ab.k2 at hM
       show QL _ _ _ _ _ _ [(0, vT a0), (1, ae A00 a1.length), (4, vI x1), (6, vB x14), (7, vI x9), (8, vP b13 0), (9, vI x15), (29, vI x9), (30, ae A00 a1.length), (31, vI (a1.length : Int)), (32, vB (decide (x9 < (a1.length : Int)))), (35, ae A00 a1.length), (36, vI x9), (37, dM A00 (Int.toNat x9 * 3)), (38, .agg #[vI t11.bd, vI t11.bV, ae (A00.s (Int.toNat x9)) t11.aD.length]), (39, vB x8), (40, vB x8), (44, vB (x8 && (decide (t11.bd > 0)))), (45, vB (x8 && (decide (t11.bd > 0)))), (49, vB ((x8 && (decide (t11.bd > 0))) && (decide (t11.bd < 4095)))), (50, vB ((x8 && (decide (t11.bd > 0))) && (decide (t11.bd < 4095)))), (54, vB (((x8 && (decide (t11.bd > 0))) && (decide (t11.bd < 4095))) && (decide (t11.bV ≥ 0)))), (55, vB (((x8 && (decide (t11.bd > 0))) && (decide (t11.bd < 4095))) && (decide (t11.bV ≥ 0)))), (59, vB ((((x8 && (decide (t11.bd > 0))) && (decide (t11.bd < 4095))) && (decide (t11.bV ≥ 0))) && (decide (t11.bV < 16777216)))), (60, vI x15), (61, vI x9), (62, vB (decide (x15 < x9))), (65, vB x14), (66, vB x20), (75, vB x21), (76, vB x25), (85, vB x26)]
       refine QL.rn 1 [] [(6, vB x26)] ?_
       refine QL.done ?_
       refine WP.leave (WP.rn [] [(9, vI (i64 (x15 + 1))), (63, vI x15), (64, vI (i64 (x15 + 1)))] ?_)
       exact WP.cN [0, 1, 4, 6, 7, 8, 9, 29, 30, 31, 32, 35, 36, 37, 38, 39, 40, 44, 45, 49, 50, 54, 55, 59] (x26, i64 (x15 + 1)) hM rfl (fun _ h => (h.pick [0] rfl).aQ [0, 1] rfl)
      ·
       refine QL.sp 76 x21 (fun c22 => ?_) (fun c22 => ?_)
       ·replace hM := aG hM c22
        refine QL.rn 2 [] [(77, ae A00 a1.length), (78, vI x15)] ?_
        obtain ⟨t23, h24, hM⟩ := bind_some hM
        refine QL.cd (φ := Row 3 ag.au ag.aN A00 a1) (ar 1 rfl) (fun w hR => aJ (A := A00) (xs := a1) (i := x15) (k := .i64) (e := 143) (m := 3) rfl rfl h24 rfl rfl hR) (by kernel_rfl) rfl rfl ?_
        refine QL.cd (φ := Row 3 ag.au ag.aN A00 a1) (ar 1 rfl) (fun w hR => cY (A := A00) (xs := a1) (i := x15) (n := Int.toNat x15 * 3 + 0) (n' := Int.toNat x15 * 3 + 1) h24 rfl (fun _ _ => by kernel_rfl) hR) (by kernel_rfl) rfl rfl ?_
        refine QL.cd (φ := Row 3 ag.au ag.aN A00 a1) (ar 1 rfl) (fun w hR => bp (A := A00) (xs := a1) (i := x15) (j := 1) (v := vI t23.bV) h24 (fun _ => by kernel_rfl) rfl rfl hR) (by kernel_rfl) rfl rfl ?_
        refine QL.rn 4 [0] [(82, vP b13 1), (83, vI t11.bV), (84, vB (t23.bV != t11.bV)), (85, vB (t23.bV != t11.bV))] ?_
        exact QL.sub [0, 1, 4, 6, 7, 8, 9, 29, 30, 31, 32, 35, 36, 37, 38, 39, 40, 44, 45, 49, 50, 54, 55, 59, 60, 61, 62, 65, 66, 75, 76, 85] rfl (K2 (true, (t23.bV != t11.bV)) hM)
       ·replace hM := aH hM c22
        refine QL.rn 9 [] [(77, .tuple #[]), (78, .tuple #[]), (79, .tuple #[]), (80, .tuple #[]), (81, .tuple #[]), (82, .tuple #[]), (83, .tuple #[]), (84, .tuple #[]), (85, vB false)] ?_
        exact QL.sub [0, 1, 4, 6, 7, 8, 9, 29, 30, 31, 32, 35, 36, 37, 38, 39, 40, 44, 45, 49, 50, 54, 55, 59, 60, 61, 62, 65, 66, 75, 76, 85] rfl (K2 (false, false) hM)
     ·
      refine QL.sp 66 x14 (fun c17 => ?_) (fun c17 => ?_)
      ·replace hM := aG hM c17
       refine QL.rn 2 [] [(67, ae A00 a1.length), (68, vI x15)] ?_
       obtain ⟨t18, h19, hM⟩ := bind_some hM
       refine QL.cd (φ := Row 3 ag.au ag.aN A00 a1) (ar 1 rfl) (fun w hR => aJ (A := A00) (xs := a1) (i := x15) (k := .i64) (e := 143) (m := 3) rfl rfl h19 rfl rfl hR) (by kernel_rfl) rfl rfl ?_
       refine QL.cd (φ := Row 3 ag.au ag.aN A00 a1) (ar 1 rfl) (fun w hR => cY (A := A00) (xs := a1) (i := x15) (n := Int.toNat x15 * 3 + 0) (n' := Int.toNat x15 * 3 + 0) h19 rfl (fun _ _ => by kernel_rfl) hR) (by kernel_rfl) rfl rfl ?_
       refine QL.cd (φ := Row 3 ag.au ag.aN A00 a1) (ar 1 rfl) (fun w hR => bp (A := A00) (xs := a1) (i := x15) (j := 0) (v := vI t18.bd) h19 (fun _ => by kernel_rfl) rfl rfl hR) (by kernel_rfl) rfl rfl ?_
       refine QL.rn 4 [0] [(72, vP b13 0), (73, vI t11.bd), (74, vB (t18.bd != t11.bd)), (75, vB (t18.bd != t11.bd))] ?_
       exact QL.sub [0, 1, 4, 6, 7, 8, 9, 29, 30, 31, 32, 35, 36, 37, 38, 39, 40, 44, 45, 49, 50, 54, 55, 59, 60, 61, 62, 65, 66, 75] rfl (K3 (true, (t18.bd != t11.bd)) hM)
      ·replace hM := aH hM c17
       refine QL.rn 9 [] [(67, .tuple #[]), (68, .tuple #[]), (69, .tuple #[]), (70, .tuple #[]), (71, .tuple #[]), (72, .tuple #[]), (73, .tuple #[]), (74, .tuple #[]), (75, vB false)] ?_
       exact QL.sub [0, 1, 4, 6, 7, 8, 9, 29, 30, 31, 32, 35, 36, 37, 38, 39, 40, 44, 45, 49, 50, 54, 55, 59, 60, 61, 62, 65, 66, 75] rfl (K3 (false, false) hM)
    ·replace hM := aH hM c16
     refine WP.exit rfl (WP.seq (WP.rn [] [(10, vI 0)] ?_))
     refine WP.block ?_
     refine WP.sub [0, 1, 4, 6, 7, 8, 9, 10, 29, 30, 31, 32, 35, 36, 37, 38, 39, 40, 44, 45, 49, 50, 54, 55, 59, 60, 61, 62] (L' := [(0, vT a0), (1, ae A00 a1.length), (4, vI x1), (6, vB x14), (7, vI x9), (8, vP b13 0), (9, vI x15), (10, vI 0), (29, vI x9), (30, ae A00 a1.length), (31, vI (a1.length : Int)), (32, vB (decide (x9 < (a1.length : Int)))), (35, ae A00 a1.length), (36, vI x9), (37, dM A00 (Int.toNat x9 * 3)), (38, .agg #[vI t11.bd, vI t11.bV, ae (A00.s (Int.toNat x9)) t11.aD.length]), (39, vB x8), (40, vB x8), (44, vB (x8 && (decide (t11.bd > 0)))), (45, vB (x8 && (decide (t11.bd > 0)))), (49, vB ((x8 && (decide (t11.bd > 0))) && (decide (t11.bd < 4095)))), (50, vB ((x8 && (decide (t11.bd > 0))) && (decide (t11.bd < 4095)))), (54, vB (((x8 && (decide (t11.bd > 0))) && (decide (t11.bd < 4095))) && (decide (t11.bV ≥ 0)))), (55, vB (((x8 && (decide (t11.bd > 0))) && (decide (t11.bd < 4095))) && (decide (t11.bV ≥ 0)))), (59, vB ((((x8 && (decide (t11.bd > 0))) && (decide (t11.bd < 4095))) && (decide (t11.bV ≥ 0))) && (decide (t11.bV < 16777216)))), (60, vI x15), (61, vI x9), (62, vB (decide (x15 < x9)))]) rfl ?_
     refine WP.aQ [0, 1] (F' := [Row 1 (pl (aE .u32)) aA (A00.s (Int.toNat x9)) t11.aD, Row 3 ag.au ag.aN A00 a1]) rfl ?_
     refine WP.loop (σ := Bool × Int) (fun n1 st => ab.l8 t11 k a0 x9 (ab.l9 a1 k a0 n) n1 st.1 st.2) r (fun st => [(0, vT a0), (1, ae A00 a1.length), (4, vI x1), (6, vB st.1), (7, vI x9), (8, vP b13 0), (9, vI x15), (10, vI st.2), (29, vI x9), (30, ae A00 a1.length), (31, vI (a1.length : Int)), (32, vB (decide (x9 < (a1.length : Int)))), (35, ae A00 a1.length), (36, vI x9), (37, dM A00 (Int.toNat x9 * 3)), (38, .agg #[vI t11.bd, vI t11.bV, ae (A00.s (Int.toNat x9)) t11.aD.length]), (39, vB x8), (40, vB x8), (44, vB (x8 && (decide (t11.bd > 0)))), (45, vB (x8 && (decide (t11.bd > 0)))), (49, vB ((x8 && (decide (t11.bd > 0))) && (decide (t11.bd < 4095)))), (50, vB ((x8 && (decide (t11.bd > 0))) && (decide (t11.bd < 4095)))), (54, vB (((x8 && (decide (t11.bd > 0))) && (decide (t11.bd < 4095))) && (decide (t11.bV ≥ 0)))), (55, vB (((x8 && (decide (t11.bd > 0))) && (decide (t11.bd < 4095))) && (decide (t11.bV ≥ 0)))), (59, vB ((((x8 && (decide (t11.bd > 0))) && (decide (t11.bd < 4095))) && (decide (t11.bV ≥ 0))) && (decide (t11.bV < 16777216)))), (60, vI x15), (61, vI x9), (62, vB (decide (x15 < x9)))]) (fun st => Sat w Z [(b13, .cells #[vI t11.bd, vI t11.bV, ae (A00.s (Int.toNat x9)) t11.aD.length] 143 (0, 0))] [] ([Row 1 (pl (aE .u32)) aA (A00.s (Int.toNat x9)) t11.aD, Row 3 ag.au ag.aN A00 a1] ++ aI)) (st := (x14, 0)) (fun n1 st hM => ?_) hM
     rcases n1 with _ | n1
     ·exact nomatch (show (none : Option _) = some r from hM)
     obtain ⟨x27, x28⟩ := st
     replace hM : ab.l8 t11 k a0 x9 (ab.l9 a1 k a0 n) (n1 + 1) x27 x28 = some r := hM
     rw [ab.l8] at hM
     try dsimp only
     refine WP.seq (WP.seq ?_)
     refine WP.rn [0] [(86, vI x28), (87, vP b13 2), (88, ae (A00.s (Int.toNat x9)) t11.aD.length), (89, vI (t11.aD.length : Int)), (90, vB (decide (x28 < (t11.aD.length : Int))))] ?_
     refine WP.cond (decide (x28 < (t11.aD.length : Int))) rfl rfl (fun c29 => ?_) (fun c29 => ?_)
     ·replace hM := aG hM c29
      refine WP.skip (WP.seq (WP.block (WP.quiet rfl (by kernel_rfl) ?_)))
      refine QL.rn 2 [] [(93, vB x27), (94, vB x27)] ?_
      refine QL.join (σ := Bool × Bool) 7 (fun st => ab.k7 t11 x28 k a0 (ab.l8 t11 k a0 x9 (ab.l9 a1 k a0 n) n1) st.1 st.2 = some r) (fun st => [(0, vT a0), (1, ae A00 a1.length), (4, vI x1), (6, vB x27), (7, vI x9), (8, vP b13 0), (9, vI x15), (10, vI x28), (29, vI x9), (30, ae A00 a1.length), (31, vI (a1.length : Int)), (32, vB (decide (x9 < (a1.length : Int)))), (35, ae A00 a1.length), (36, vI x9), (37, dM A00 (Int.toNat x9 * 3)), (38, .agg #[vI t11.bd, vI t11.bV, ae (A00.s (Int.toNat x9)) t11.aD.length]), (39, vB x8), (40, vB x8), (44, vB (x8 && (decide (t11.bd > 0)))), (45, vB (x8 && (decide (t11.bd > 0)))), (49, vB ((x8 && (decide (t11.bd > 0))) && (decide (t11.bd < 4095)))), (50, vB ((x8 && (decide (t11.bd > 0))) && (decide (t11.bd < 4095)))), (54, vB (((x8 && (decide (t11.bd > 0))) && (decide (t11.bd < 4095))) && (decide (t11.bV ≥ 0)))), (55, vB (((x8 && (decide (t11.bd > 0))) && (decide (t11.bd < 4095))) && (decide (t11.bV ≥ 0)))), (59, vB ((((x8 && (decide (t11.bd > 0))) && (decide (t11.bd < 4095))) && (decide (t11.bV ≥ 0))) && (decide (t11.bV < 16777216)))), (60, vI x15), (61, vI x9), (62, vB (decide (x15 < x9))), (86, vI x28), (87, vP b13 2), (88, ae (A00.s (Int.toNat x9)) t11.aD.length), (89, vI (t11.aD.length : Int)), (90, vB (decide (x28 < (t11.aD.length : Int)))), (93, vB x27), (94, vB st.1), (101, vB st.2)]) (fun st hM => ?_) (fun K7 => ?_)
      ·
       obtain ⟨x33, x34⟩ := st
       replace hM : ab.k7 t11 x28 k a0 (ab.l8 t11 k a0 x9 (ab.l9 a1 k a0 n) n1) x33 x34 = some r := hM
       unfold ab.k7 at hM
       show QL _ _ _ _ _ _ [(0, vT a0), (1, ae A00 a1.length), (4, vI x1), (6, vB x27), (7, vI x9), (8, vP b13 0), (9, vI x15), (10, vI x28), (29, vI x9), (30, ae A00 a1.length), (31, vI (a1.length : Int)), (32, vB (decide (x9 < (a1.length : Int)))), (35, ae A00 a1.length), (36, vI x9), (37, dM A00 (Int.toNat x9 * 3)), (38, .agg #[vI t11.bd, vI t11.bV, ae (A00.s (Int.toNat x9)) t11.aD.length]), (39, vB x8), (40, vB x8), (44, vB (x8 && (decide (t11.bd > 0)))), (45, vB (x8 && (decide (t11.bd > 0)))), (49, vB ((x8 && (decide (t11.bd > 0))) && (decide (t11.bd < 4095)))), (50, vB ((x8 && (decide (t11.bd > 0))) && (decide (t11.bd < 4095)))), (54, vB (((x8 && (decide (t11.bd > 0))) && (decide (t11.bd < 4095))) && (decide (t11.bV ≥ 0)))), (55, vB (((x8 && (decide (t11.bd > 0))) && (decide (t11.bd < 4095))) && (decide (t11.bV ≥ 0)))), (59, vB ((((x8 && (decide (t11.bd > 0))) && (decide (t11.bd < 4095))) && (decide (t11.bV ≥ 0))) && (decide (t11.bV < 16777216)))), (60, vI x15), (61, vI x9), (62, vB (decide (x15 < x9))), (86, vI x28), (87, vP b13 2), (88, ae (A00.s (Int.toNat x9)) t11.aD.length), (89, vI (t11.aD.length : Int)), (90, vB (decide (x28 < (t11.aD.length : Int)))), (93, vB x27), (94, vB x33), (101, vB x34)]
       refine QL.rn 1 [] [(102, vB x34)] ?_
       refine QL.join (σ := Bool × Bool) 8 (fun st => ab.k6 t11 x28 k (ab.l8 t11 k a0 x9 (ab.l9 a1 k a0 n) n1) st.1 st.2 = some r) (fun st => [(0, vT a0), (1, ae A00 a1.length), (4, vI x1), (6, vB x27), (7, vI x9), (8, vP b13 0), (9, vI x15), (10, vI x28), (29, vI x9), (30, ae A00 a1.length), (31, vI (a1.length : Int)), (32, vB (decide (x9 < (a1.length : Int)))), (35, ae A00 a1.length), (36, vI x9), (37, dM A00 (Int.toNat x9 * 3)), (38, .agg #[vI t11.bd, vI t11.bV, ae (A00.s (Int.toNat x9)) t11.aD.length]), (39, vB x8), (40, vB x8), (44, vB (x8 && (decide (t11.bd > 0)))), (45, vB (x8 && (decide (t11.bd > 0)))), (49, vB ((x8 && (decide (t11.bd > 0))) && (decide (t11.bd < 4095)))), (50, vB ((x8 && (decide (t11.bd > 0))) && (decide (t11.bd < 4095)))), (54, vB (((x8 && (decide (t11.bd > 0))) && (decide (t11.bd < 4095))) && (decide (t11.bV ≥ 0)))), (55, vB (((x8 && (decide (t11.bd > 0))) && (decide (t11.bd < 4095))) && (decide (t11.bV ≥ 0)))), (59, vB ((((x8 && (decide (t11.bd > 0))) && (decide (t11.bd < 4095))) && (decide (t11.bV ≥ 0))) && (decide (t11.bV < 16777216)))), (60, vI x15), (61, vI x9), (62, vB (decide (x15 < x9))), (86, vI x28), (87, vP b13 2), (88, ae (A00.s (Int.toNat x9)) t11.aD.length), (89, vI (t11.aD.length : Int)), (90, vB (decide (x28 < (t11.aD.length : Int)))), (93, vB x27), (94, vB x33), (101, vB x34), (102, vB st.1), (110, vB st.2)]) (fun st hM => ?_) (fun K6 => ?_)
       ·
        obtain ⟨x38, x39⟩ := st
        replace hM : ab.k6 t11 x28 k (ab.l8 t11 k a0 x9 (ab.l9 a1 k a0 n) n1) x38 x39 = some r := hM
        unfold ab.k6 at hM
        show QL _ _ _ _ _ _ [(0, vT a0), (1, ae A00 a1.length), (4, vI x1), (6, vB x27), (7, vI x9), (8, vP b13 0), (9, vI x15), (10, vI x28), (29, vI x9), (30, ae A00 a1.length), (31, vI (a1.length : Int)), (32, vB (decide (x9 < (a1.length : Int)))), (35, ae A00 a1.length), (36, vI x9), (37, dM A00 (Int.toNat x9 * 3)), (38, .agg #[vI t11.bd, vI t11.bV, ae (A00.s (Int.toNat x9)) t11.aD.length]), (39, vB x8), (40, vB x8), (44, vB (x8 && (decide (t11.bd > 0)))), (45, vB (x8 && (decide (t11.bd > 0)))), (49, vB ((x8 && (decide (t11.bd > 0))) && (decide (t11.bd < 4095)))), (50, vB ((x8 && (decide (t11.bd > 0))) && (decide (t11.bd < 4095)))), (54, vB (((x8 && (decide (t11.bd > 0))) && (decide (t11.bd < 4095))) && (decide (t11.bV ≥ 0)))), (55, vB (((x8 && (decide (t11.bd > 0))) && (decide (t11.bd < 4095))) && (decide (t11.bV ≥ 0)))), (59, vB ((((x8 && (decide (t11.bd > 0))) && (decide (t11.bd < 4095))) && (decide (t11.bV ≥ 0))) && (decide (t11.bV < 16777216)))), (60, vI x15), (61, vI x9), (62, vB (decide (x15 < x9))), (86, vI x28), (87, vP b13 2), (88, ae (A00.s (Int.toNat x9)) t11.aD.length), (89, vI (t11.aD.length : Int)), (90, vB (decide (x28 < (t11.aD.length : Int)))), (93, vB x27), (94, vB x33), (101, vB x34), (102, vB x38), (110, vB x39)]
        refine QL.rn 1 [] [(111, vB x39)] ?_
        refine QL.join (σ := Bool × Bool) 10 (fun st => ab.k5 x28 (ab.l8 t11 k a0 x9 (ab.l9 a1 k a0 n) n1) st.1 st.2 = some r) (fun st => [(0, vT a0), (1, ae A00 a1.length), (4, vI x1), (6, vB x27), (7, vI x9), (8, vP b13 0), (9, vI x15), (10, vI x28), (29, vI x9), (30, ae A00 a1.length), (31, vI (a1.length : Int)), (32, vB (decide (x9 < (a1.length : Int)))), (35, ae A00 a1.length), (36, vI x9), (37, dM A00 (Int.toNat x9 * 3)), (38, .agg #[vI t11.bd, vI t11.bV, ae (A00.s (Int.toNat x9)) t11.aD.length]), (39, vB x8), (40, vB x8), (44, vB (x8 && (decide (t11.bd > 0)))), (45, vB (x8 && (decide (t11.bd > 0)))), (49, vB ((x8 && (decide (t11.bd > 0))) && (decide (t11.bd < 4095)))), (50, vB ((x8 && (decide (t11.bd > 0))) && (decide (t11.bd < 4095)))), (54, vB (((x8 && (decide (t11.bd > 0))) && (decide (t11.bd < 4095))) && (decide (t11.bV ≥ 0)))), (55, vB (((x8 && (decide (t11.bd > 0))) && (decide (t11.bd < 4095))) && (decide (t11.bV ≥ 0)))), (59, vB ((((x8 && (decide (t11.bd > 0))) && (decide (t11.bd < 4095))) && (decide (t11.bV ≥ 0))) && (decide (t11.bV < 16777216)))), (60, vI x15), (61, vI x9), (62, vB (decide (x15 < x9))), (86, vI x28), (87, vP b13 2), (88, ae (A00.s (Int.toNat x9)) t11.aD.length), (89, vI (t11.aD.length : Int)), (90, vB (decide (x28 < (t11.aD.length : Int)))), (93, vB x27), (94, vB x33), (101, vB x34), (102, vB x38), (110, vB x39), (111, vB st.1), (121, vB st.2)]) (fun st hM => ?_) (fun K5 => ?_)
        ·
         obtain ⟨x45, x46⟩ := st
         replace hM : ab.k5 x28 (ab.l8 t11 k a0 x9 (ab.l9 a1 k a0 n) n1) x45 x46 = some r := hM
         unfold ab.k5 at hM
         show QL _ _ _ _ _ _ [(0, vT a0), (1, ae A00 a1.length), (4, vI x1), (6, vB x27), (7, vI x9), (8, vP b13 0), (9, vI x15), (10, vI x28), (29, vI x9), (30, ae A00 a1.length), (31, vI (a1.length : Int)), (32, vB (decide (x9 < (a1.length : Int)))), (35, ae A00 a1.length), (36, vI x9), (37, dM A00 (Int.toNat x9 * 3)), (38, .agg #[vI t11.bd, vI t11.bV, ae (A00.s (Int.toNat x9)) t11.aD.length]), (39, vB x8), (40, vB x8), (44, vB (x8 && (decide (t11.bd > 0)))), (45, vB (x8 && (decide (t11.bd > 0)))), (49, vB ((x8 && (decide (t11.bd > 0))) && (decide (t11.bd < 4095)))), (50, vB ((x8 && (decide (t11.bd > 0))) && (decide (t11.bd < 4095)))), (54, vB (((x8 && (decide (t11.bd > 0))) && (decide (t11.bd < 4095))) && (decide (t11.bV ≥ 0)))), (55, vB (((x8 && (decide (t11.bd > 0))) && (decide (t11.bd < 4095))) && (decide (t11.bV ≥ 0)))), (59, vB ((((x8 && (decide (t11.bd > 0))) && (decide (t11.bd < 4095))) && (decide (t11.bV ≥ 0))) && (decide (t11.bV < 16777216)))), (60, vI x15), (61, vI x9), (62, vB (decide (x15 < x9))), (86, vI x28), (87, vP b13 2), (88, ae (A00.s (Int.toNat x9)) t11.aD.length), (89, vI (t11.aD.length : Int)), (90, vB (decide (x28 < (t11.aD.length : Int)))), (93, vB x27), (94, vB x33), (101, vB x34), (102, vB x38), (110, vB x39), (111, vB x45), (121, vB x46)]
         refine QL.rn 1 [] [(6, vB x46)] ?_
         refine QL.done ?_
         refine WP.leave (WP.rn [] [(10, vI (i64 (x28 + 1))), (91, vI x28), (92, vI (i64 (x28 + 1)))] ?_)
         exact WP.cN [0, 1, 4, 6, 7, 8, 9, 10, 29, 30, 31, 32, 35, 36, 37, 38, 39, 40, 44, 45, 49, 50, 54, 55, 59, 60, 61, 62] (x46, i64 (x28 + 1)) hM rfl (fun _ h => (h.pick [0] rfl).aQ [0, 1] rfl)
        ·
         refine QL.sp 111 x39 (fun c40 => ?_) (fun c40 => ?_)
         ·replace hM := aG hM c40
          refine QL.rn 5 [0, 0] [(112, vP b13 2), (113, ae (A00.s (Int.toNat x9)) t11.aD.length), (114, vP b13 2), (115, ae (A00.s (Int.toNat x9)) t11.aD.length), (116, vI x28)] ?_
          obtain ⟨t41, h42, hM⟩ := bind_some hM
          refine QL.cd (φ := Row 1 (pl (aE .u32)) aA (A00.s (Int.toNat x9)) t11.aD) (ar 0 rfl) (fun w hR => aJ (A := (A00.s (Int.toNat x9))) (xs := t11.aD) (i := x28) (k := .i64) (e := 50) (m := 1) rfl rfl h42 rfl rfl hR) (by kernel_rfl) rfl rfl ?_
          refine QL.cd (φ := Row 1 (pl (aE .u32)) aA (A00.s (Int.toNat x9)) t11.aD) (ar 0 rfl) (fun w hR => bp (A := (A00.s (Int.toNat x9))) (xs := t11.aD) (i := x28) (j := 0) (v := vT t41) h42 (fun _ => by kernel_rfl) rfl rfl hR) (by kernel_rfl) rfl rfl ?_
          obtain ⟨r43, h44, hM⟩ := bind_some hM
          refine QL.cQ [] [] (jC k (A00.s (Int.toNat x9)) t11.aD t41 _ h44) (bE [0] rfl) (by kernel_rfl) rfl rfl ?_
          refine QL.rn 2 [] [(120, vB (r43 == 1)), (121, vB (r43 == 1))] ?_
          exact QL.sub [0, 1, 4, 6, 7, 8, 9, 10, 29, 30, 31, 32, 35, 36, 37, 38, 39, 40, 44, 45, 49, 50, 54, 55, 59, 60, 61, 62, 86, 87, 88, 89, 90, 93, 94, 101, 102, 110, 111, 121] rfl (K5 (true, (r43 == 1)) hM)
         ·replace hM := aH hM c40
          refine QL.rn 10 [] [(112, .tuple #[]), (113, .tuple #[]), (114, .tuple #[]), (115, .tuple #[]), (116, .tuple #[]), (117, .tuple #[]), (118, .tuple #[]), (119, .tuple #[]), (120, .tuple #[]), (121, vB false)] ?_
          exact QL.sub [0, 1, 4, 6, 7, 8, 9, 10, 29, 30, 31, 32, 35, 36, 37, 38, 39, 40, 44, 45, 49, 50, 54, 55, 59, 60, 61, 62, 86, 87, 88, 89, 90, 93, 94, 101, 102, 110, 111, 121] rfl (K5 (false, false) hM)
       ·
        refine QL.sp 102 x34 (fun c35 => ?_) (fun c35 => ?_)
        ·replace hM := aG hM c35
         refine QL.rn 3 [0] [(103, vP b13 2), (104, ae (A00.s (Int.toNat x9)) t11.aD.length), (105, vI x28)] ?_
         obtain ⟨t36, h37, hM⟩ := bind_some hM
         refine QL.cd (φ := Row 1 (pl (aE .u32)) aA (A00.s (Int.toNat x9)) t11.aD) (ar 0 rfl) (fun w hR => aJ (A := (A00.s (Int.toNat x9))) (xs := t11.aD) (i := x28) (k := .i64) (e := 50) (m := 1) rfl rfl h37 rfl rfl hR) (by kernel_rfl) rfl rfl ?_
         refine QL.cd (φ := Row 1 (pl (aE .u32)) aA (A00.s (Int.toNat x9)) t11.aD) (ar 0 rfl) (fun w hR => bp (A := (A00.s (Int.toNat x9))) (xs := t11.aD) (i := x28) (j := 0) (v := vT t36) h37 (fun _ => by kernel_rfl) rfl rfl hR) (by kernel_rfl) rfl rfl ?_
         refine QL.rn 3 [] [(108, vT a0), (109, vB (t36 != a0)), (110, vB (t36 != a0))] ?_
         exact QL.sub [0, 1, 4, 6, 7, 8, 9, 10, 29, 30, 31, 32, 35, 36, 37, 38, 39, 40, 44, 45, 49, 50, 54, 55, 59, 60, 61, 62, 86, 87, 88, 89, 90, 93, 94, 101, 102, 110] rfl (K6 (true, (t36 != a0)) hM)
        ·replace hM := aH hM c35
         refine QL.rn 8 [] [(103, .tuple #[]), (104, .tuple #[]), (105, .tuple #[]), (106, .tuple #[]), (107, .tuple #[]), (108, .tuple #[]), (109, .tuple #[]), (110, vB false)] ?_
         exact QL.sub [0, 1, 4, 6, 7, 8, 9, 10, 29, 30, 31, 32, 35, 36, 37, 38, 39, 40, 44, 45, 49, 50, 54, 55, 59, 60, 61, 62, 86, 87, 88, 89, 90, 93, 94, 101, 102, 110] rfl (K6 (false, false) hM)
      ·
       refine QL.sp 94 x27 (fun c30 => ?_) (fun c30 => ?_)
       ·replace hM := aG hM c30
        refine QL.rn 3 [0] [(95, vP b13 2), (96, ae (A00.s (Int.toNat x9)) t11.aD.length), (97, vI x28)] ?_
        obtain ⟨t31, h32, hM⟩ := bind_some hM
        refine QL.cd (φ := Row 1 (pl (aE .u32)) aA (A00.s (Int.toNat x9)) t11.aD) (ar 0 rfl) (fun w hR => aJ (A := (A00.s (Int.toNat x9))) (xs := t11.aD) (i := x28) (k := .i64) (e := 50) (m := 1) rfl rfl h32 rfl rfl hR) (by kernel_rfl) rfl rfl ?_
        refine QL.cd (φ := Row 1 (pl (aE .u32)) aA (A00.s (Int.toNat x9)) t11.aD) (ar 0 rfl) (fun w hR => bp (A := (A00.s (Int.toNat x9))) (xs := t11.aD) (i := x28) (j := 0) (v := vT t31) h32 (fun _ => by kernel_rfl) rfl rfl hR) (by kernel_rfl) rfl rfl ?_
        refine QL.rn 2 [] [(100, vB (decide (t31 > 0))), (101, vB (decide (t31 > 0)))] ?_
        exact QL.sub [0, 1, 4, 6, 7, 8, 9, 10, 29, 30, 31, 32, 35, 36, 37, 38, 39, 40, 44, 45, 49, 50, 54, 55, 59, 60, 61, 62, 86, 87, 88, 89, 90, 93, 94, 101] rfl (K7 (true, decide (t31 > 0)) hM)
       ·replace hM := aH hM c30
        refine QL.rn 7 [] [(95, .tuple #[]), (96, .tuple #[]), (97, .tuple #[]), (98, .tuple #[]), (99, .tuple #[]), (100, .tuple #[]), (101, vB false)] ?_
        exact QL.sub [0, 1, 4, 6, 7, 8, 9, 10, 29, 30, 31, 32, 35, 36, 37, 38, 39, 40, 44, 45, 49, 50, 54, 55, 59, 60, 61, 62, 86, 87, 88, 89, 90, 93, 94, 101] rfl (K7 (false, false) hM)
     ·replace hM := aH hM c29
      refine WP.exit rfl (WP.leave (WP.rn [] [(7, vI (i64 (x9 + 1))), (33, vI x9), (34, vI (i64 (x9 + 1)))] ?_))
      exact WP.cN [0, 1, 4, 6, 7] (x27, i64 (x9 + 1)) hM rfl (fun _ h => (h.pick [] rfl).aQ [1] rfl)
   ·replace hM := aH hM c10
    refine WP.exit rfl (WP.seq (WP.seq (WP.rn [] [(122, vB x8)] ?_)))
    refine WP.cond x8 rfl rfl (fun c47 => ?_) (fun c47 => ?_)
    ·replace hM := aG hM c47
     refine WP.seq (WP.rn [] [(4, vI 0)] ?_)
     obtain rfl := oI hM
     exact WP.dI [] [] [0]
    ·replace hM := aH hM c47
     refine WP.skip (WP.seq (WP.rn [] [(4, vI 210)] ?_))
     obtain rfl := oI hM
     exact WP.dI [] [] [0]
def aB.k2 (a0_6 : bj) (a0_1 : Int) (a0_2 : Int) (a0 : Int) (a0_10 : Int) (x31 : Bool) : Option (Int) :=
 bif ((((((!x31) || (a0_6.bx != a0_1)) || (a0_6.Ip != a0_2)) || (a0 == 0)) || (decide (a0_10 < 68))) || (decide (a0_10 > 65535))) then
  some 240
 else
  (jW 8 13).bind fun t33 =>
  some 0
def aB.l1 (a0_3 : (List aa)) (k : Nat) (a0_5 : ba) (a0 : Int) (a0_4 : (List Bool)) (a0_7 : Int) (a0_6 : bj) (a0_9 : (List aj)) (a0_2 : Int) (a0_8 : (List ag)) (a0_1 : Int) (a0_10 : Int) : Nat → (List Int) → Int → Option (Int)
 | 0, _, _ => none
 | n + 1, x3, x5 =>
  bif decide (x5 < (a0_3.length : Int)) then
   (ey 8 (x3 ++ ([1] : List Int)).length).bind fun u9 =>
   aB.l1 a0_3 k a0_5 a0 a0_4 a0_7 a0_6 a0_9 a0_2 a0_8 a0_1 a0_10 n (x3 ++ ([1] : List Int)) (i64 (x5 + 1))
  else
   (aV.f k a0_3 a0_5).bind fun r11 =>
   (aM.f k a0 x3 a0_4).bind fun (r14, r15) =>
   (eB.f a0_5.Room a0_7).bind fun r19 =>
   (aF.f a0_6).bind fun r22 =>
   (a6.f k a0_9).bind fun r25 =>
   bif (((((r11 == 0) && (r15 == 0)) && (r19 == 0)) && (r22 == 0)) && r25) then
    (ab.f k a0_2 a0_8).bind fun r29 =>
    aB.k2 a0_6 a0_1 a0_2 a0 a0_10 (r29 == 0)
   else
    aB.k2 a0_6 a0_1 a0_2 a0 a0_10 false
def aB.f (k : Nat) (a0 : Int) (a0_1 : Int) (a0_2 : Int) (a0_3 : (List aa)) (a0_4 : (List Bool)) (a0_5 : ba) (a0_6 : bj) (a0_7 : Int) (a0_8 : (List ag)) (a0_9 : (List aj)) (a0_10 : Int) (a0_11 : Bool) : Option (Int) :=
 aB.l1 a0_3 k a0_5 a0 a0_4 a0_7 a0_6 a0_9 a0_2 a0_8 a0_1 a0_10 k ([] : List Int) 0
theorem gu (k : Nat) (A00 : av (av Unit)) (A01 : av Unit) (A02 : av (av Unit)) (A03 : av Unit) (a0 : Int) (a0_1 : Int) (a0_2 : Int) (a0_3 : (List aa)) (a0_4 : (List Bool)) (a0_5 : ba) (a0_6 : bj) (a0_7 : Int) (a0_8 : (List ag)) (a0_9 : (List aj)) (a0_10 : Int) (a0_11 : Bool) (r : Int) (h : aB.f k a0 a0_1 a0_2 a0_3 a0_4 a0_5 a0_6 a0_7 a0_8 a0_9 a0_10 a0_11 = some r) : eT Tryz.prog 19 #[.agg #[vU a0, vU a0_1, vT a0_2, ae A00 a0_3.length, ae A01 a0_4.length, vI a0_5.Room, vI a0_5.aY, vI a0_5.a8, vI a0_5.aR, vU a0_6.bx, vT a0_6.Ip, vI a0_6.Room, vI a0_6.aY, vI a0_6.cp, vI a0_6.br, vI a0_6.bn, vI a0_7, ae A02 a0_8.length, ae A03 a0_9.length, vI a0_10, vB a0_11]] [] ([Row 3 aa.au aa.aN A00 a0_3, Row 1 (pl ca) aA A01 a0_4, Row 3 ag.au ag.aN A02 a0_8, Row 3 (pl aj.enc) aA A03 a0_9] ++ aI) (fun x : (Option Addr) => .tuple #[.pointer x, vI r]) (fun x => []) (fun _ => []) (fun x => [] ++ ([Row 3 aa.au aa.aN A00 a0_3, Row 1 (pl ca) aA A01 a0_4, Row 3 ag.au ag.aN A02 a0_8, Row 3 (pl aj.enc) aA A03 a0_9] ++ aI)) := by
 intro w Z hS
 refine bh (args := [.agg #[vU a0, vU a0_1, vT a0_2, ae A00 a0_3.length, ae A01 a0_4.length, vI a0_5.Room, vI a0_5.aY, vI a0_5.a8, vI a0_5.aR, vU a0_6.bx, vT a0_6.Ip, vI a0_6.Room, vI a0_6.aY, vI a0_6.cp, vI a0_6.br, vI a0_6.bn, vI a0_7, ae A02 a0_8.length, ae A03 a0_9.length, vI a0_10, vB a0_11]]) (L := [(0, .agg #[vU a0, vU a0_1, vT a0_2, ae A00 a0_3.length, ae A01 a0_4.length, vI a0_5.Room, vI a0_5.aY, vI a0_5.a8, vI a0_5.aR, vU a0_6.bx, vT a0_6.Ip, vI a0_6.Room, vI a0_6.aY, vI a0_6.cp, vI a0_6.br, vI a0_6.bn, vI a0_7, ae A02 a0_8.length, ae A03 a0_9.length, vI a0_10, vB a0_11])]) (N := 133) Tryz.func19 hS ?_
 have hM := h
 clear h hS
 unfold aB.f at hM
 refine WP.seq ?_
 refine WP.rh [] (fun b1 => [(1, vP b1 0), (2, .pointer none), (3, vI 0)]) (fun b1 => []) (fun b1 => [(b1, .cells #[vU a0, vU a0_1, vT a0_2, ae A00 a0_3.length, ae A01 a0_4.length, vI a0_5.Room, vI a0_5.aY, vI a0_5.a8, vI a0_5.aR, vU a0_6.bx, vT a0_6.Ip, vI a0_6.Room, vI a0_6.aY, vI a0_6.cp, vI a0_6.br, vI a0_6.bn, vI a0_7, ae A02 a0_8.length, ae A03 a0_9.length, vI a0_10, vB a0_11] 60 (0, 0))]) (fun b1 => ?_)
 refine WP.seq ?_
 refine WP.rh [] (fun b2 => [(4, .slice (some ⟨b2, 0, none⟩) 0 0)]) (fun b2 => []) (fun b2 => [(b2, .cells #[] 3 (0, 0))]) (fun b2 => ?_)
 refine WP.seq (WP.seq (WP.rn [] [(5, vI 0)] ?_))
 refine WP.block ?_
 refine WP.fb (H' := [(b1, .cells #[vU a0, vU a0_1, vT a0_2, ae A00 a0_3.length, ae A01 a0_4.length, vI a0_5.Room, vI a0_5.aY, vI a0_5.a8, vI a0_5.aR, vU a0_6.bx, vT a0_6.Ip, vI a0_6.Room, vI a0_6.aY, vI a0_6.cp, vI a0_6.br, vI a0_6.bn, vI a0_7, ae A02 a0_8.length, ae A03 a0_9.length, vI a0_10, vB a0_11] 60 (0, 0))]) (m := 1) (e := 3) (f := (pl (aE .i64))) aA 1 (b := b2) (cs := #[]) (fun _ => ()) ([] : List Int) rfl (fun _ _ => rfl) rfl (by decide) [] [] rfl (fun w hψ => (jj.no _ _)) rfl ?_
 refine WP.sub [1, 2, 3, 4, 5] (L' := [(1, vP b1 0), (2, .pointer none), (3, vI 0), (4, ae (av.at b2 0 (fun _ => ())) ([] : List Int).length), (5, vI 0)]) rfl ?_
 refine WP.aQ [0, 0, 1, 2, 3, 4] (F' := [bC aA (av.at b2 0 (fun _ => ())) ([] : List Int), bC aA (av.at b2 0 (fun _ => ())) ([] : List Int), Row 3 aa.au aa.aN A00 a0_3, Row 1 (pl ca) aA A01 a0_4, Row 3 ag.au ag.aN A02 a0_8, Row 3 (pl aj.enc) aA A03 a0_9]) rfl ?_
 refine WP.loop (σ := (List Int) × av Unit × Int) (fun n st => aB.l1 a0_3 k a0_5 a0 a0_4 a0_7 a0_6 a0_9 a0_2 a0_8 a0_1 a0_10 n st.1 st.2.2) r (fun st => [(1, vP b1 0), (2, .pointer none), (3, vI 0), (4, ae st.2.1 st.1.length), (5, vI st.2.2)]) (fun st => Sat w Z [(b1, .cells #[vU a0, vU a0_1, vT a0_2, ae A00 a0_3.length, ae A01 a0_4.length, vI a0_5.Room, vI a0_5.aY, vI a0_5.a8, vI a0_5.aR, vU a0_6.bx, vT a0_6.Ip, vI a0_6.Room, vI a0_6.aY, vI a0_6.cp, vI a0_6.br, vI a0_6.bn, vI a0_7, ae A02 a0_8.length, ae A03 a0_9.length, vI a0_10, vB a0_11] 60 (0, 0))] [bL 1 3 (pl (aE .i64)) st.2.1 st.1] ([bC aA st.2.1 st.1, bC aA (av.at b2 0 (fun _ => ())) ([] : List Int), Row 3 aa.au aa.aN A00 a0_3, Row 1 (pl ca) aA A01 a0_4, Row 3 ag.au ag.aN A02 a0_8, Row 3 (pl aj.enc) aA A03 a0_9] ++ aI)) (st := (([] : List Int), (av.at b2 0 (fun _ => ())), 0)) (fun n st hM => ?_) hM
 rcases n with _ | n
 ·exact nomatch (show (none : Option _) = some r from hM)
 obtain ⟨x3, A4, x5⟩ := st
 replace hM : aB.l1 a0_3 k a0_5 a0 a0_4 a0_7 a0_6 a0_9 a0_2 a0_8 a0_1 a0_10 (n + 1) x3 x5 = some r := hM
 rw [aB.l1] at hM
 try dsimp only
 refine WP.seq (WP.seq ?_)
 refine WP.rn [0] [(18, vI x5), (19, vP b1 3), (20, ae A00 a0_3.length), (21, vI (a0_3.length : Int)), (22, vB (decide (x5 < (a0_3.length : Int))))] ?_
 refine WP.cond (decide (x5 < (a0_3.length : Int))) rfl rfl (fun c6 => ?_) (fun c6 => ?_)
 ·replace hM := aG hM c6
  refine WP.skip (WP.seq (WP.block (WP.region ?_)))
  refine WL.rh 2 [] (fun b7 => [(25, ae A4 x3.length), (26, .slice (some ⟨b7, 0, none⟩) 1 1)]) (fun b7 => []) (fun b7 => [(b7, .cells #[vI 1] 3 (0, 0))]) (fun b7 => ?_)
  refine WL.tW (H' := [(b1, .cells #[vU a0, vU a0_1, vT a0_2, ae A00 a0_3.length, ae A01 a0_4.length, vI a0_5.Room, vI a0_5.aY, vI a0_5.a8, vI a0_5.aR, vU a0_6.bx, vT a0_6.Ip, vI a0_6.Room, vI a0_6.aY, vI a0_6.cp, vI a0_6.br, vI a0_6.bn, vI a0_7, ae A02 a0_8.length, ae A03 a0_9.length, vI a0_10, vB a0_11] 60 (0, 0))]) (Row 1 (pl (aE .i64)) aA (av.at b7 1 (fun _ => ())) ([1] : List Int)) 1 (b := b7) (ob := .cells #[vI 1] 3 (0, 0)) rfl [] [] rfl (fun w hb hψ => cl hb (fun _ _ => rfl) ⟨[], by kernel_rfl⟩ (nB rfl) (jj.no _ _)) rfl ?_
  obtain ⟨u9, h8, hM⟩ := bind_some hM
  refine WL.dW (G' := []) (A := A4) (B := (av.at b7 1 (fun _ => ()))) (xs := x3) (ys := ([1] : List Int)) (m := 1) (by_ := 8) (e := 3) (z := vI 0) (f := (pl (aE .i64))) (K := aA) (d := 27) 0 rfl rfl rfl rfl rfl rfl rfl (fun _ _ => rfl) (fun _ _ => rfl) (by kernel_rfl) rfl rfl rfl rfl (ar 1 rfl) (ar 0 rfl) h8 rfl (fun A10 => ?_)
  refine WL.less (Φ' := ([bC aA A10 (x3 ++ ([1] : List Int)), Row 1 (pl (aE .i64)) aA (av.at b7 1 (fun _ => ())) ([1] : List Int), bC aA A4 x3, bC aA (av.at b2 0 (fun _ => ())) ([] : List Int), Row 3 aa.au aa.aN A00 a0_3, Row 1 (pl ca) aA A01 a0_4, Row 3 ag.au ag.aN A02 a0_8, Row 3 (pl aj.enc) aA A03 a0_9] ++ aI)) (fun _ h => h) ?_
  refine WL.rn 1 [] [(4, ae A10 (x3 ++ ([1] : List Int)).length)] ?_
  refine WP.done (WP.leave (WP.rn [] [(5, vI (i64 (x5 + 1))), (23, vI x5), (24, vI (i64 (x5 + 1)))] ?_))
  exact WP.cN [1, 2, 3, 4, 5] ((x3 ++ ([1] : List Int)), A10, i64 (x5 + 1)) hM rfl (fun _ h => ((h.pick [0] rfl).aQ [0, 3, 4, 5, 6, 7] rfl).dE [0] [] 1 rfl (by decide) rfl)
 ·replace hM := aH hM c6
  refine WP.exit rfl (WP.seq (WP.region (WL.rn 4 [0, 0, 0, 0, 0] [(30, ae A00 a0_3.length), (32, ba.v a0_5)] ?_)))
  obtain ⟨r11, h12, hM⟩ := bind_some hM
  refine WL.c0 (F0 := [Row 3 aa.au aa.aN A00 a0_3]) [] [] [false] (fun _ => _) [2] rfl (kz k A00 a0_3 a0_5 _ h12) rfl rfl (by kernel_rfl) rfl (fun _ => rfl) (fun A13 => ?_)
  refine WL.rn 5 [] [(6, .pointer A13), (7, vI r11)] ?_
  refine WP.done (WP.seq (WP.region (WL.rn 5 [0, 0] [(38, vU a0), (39, ae A4 x3.length), (41, ae A01 a0_4.length)] ?_)))
  refine WL.dD (G' := []) (m := 1) (e := 3) (f := (pl (aE .i64))) (K := aA) (A := A4) (xs := x3) 0 0 rfl rfl (fun _ _ => rfl) rfl ?_
  obtain ⟨⟨r14, r15⟩, h16, hM⟩ := bind_some hM
  dsimp only at hM
  refine WL.c0 (F0 := [Row 1 (pl (aE .i64)) aA A4 x3, Row 1 (pl ca) aA A01 a0_4]) [] [] [false] (fun _ => _) [0, 4] rfl (kA k A4 A01 a0 x3 a0_4 _ h16) rfl rfl (by kernel_rfl) rfl (fun _ => rfl) (fun A17 => ?_)
  refine WL.rh 6 [1, 1, 1] (fun b18 => [(8, vP b18 0), (9, vI r15)]) (fun b18 => []) (fun b18 => [(b18, .cells #[vU r14.aK, ae A17 r14.aX.length, vI r14.vq] 101 (0, 0))]) (fun b18 => ?_)
  refine WP.done (WP.seq (WP.region (WL.rn 5 [0, 0] [(48, vI a0_5.Room), (50, vI a0_7)] ?_)))
  obtain ⟨r19, h20, hM⟩ := bind_some hM
  refine WL.c0 (F0 := []) [] [] [false, false] (fun _ => _) [] rfl (kC a0_5.Room a0_7 _ h20) rfl rfl (by kernel_rfl) rfl (fun _ => rfl) (fun A21 => ?_)
  refine WL.rn 5 [] [(10, .pointer A21), (11, vI r19)] ?_
  refine WP.done (WP.seq (WP.region (WL.rn 2 [0, 0, 0, 0, 0, 0, 0] [(56, bj.v a0_6)] ?_)))
  obtain ⟨r22, h23, hM⟩ := bind_some hM
  refine WL.c0 (F0 := []) [] [] [false, false] (fun _ => _) [] rfl (ky a0_6 _ h23) rfl rfl (by kernel_rfl) rfl (fun _ => rfl) (fun A24 => ?_)
  refine WL.rn 5 [] [(12, .pointer A24), (13, vI r22)] ?_
  refine WP.done (WP.seq (WP.region (WL.rn 2 [0] [(62, ae A03 a0_9.length)] ?_)))
  obtain ⟨r25, h26, hM⟩ := bind_some hM
  refine WL.c0 (F0 := [Row 3 (pl aj.enc) aA A03 a0_9]) [] [] [false, false] (fun _ => _) [7] rfl (j2 k A03 a0_9 _ h26) rfl rfl (by kernel_rfl) rfl (fun _ => rfl) (fun A27 => ?_)
  refine WL.rn 5 [] [(14, .pointer A27), (15, vB r25)] ?_
  refine WP.done (WP.seq (WP.region (WL.rn 3 [] [(68, vB (r11 == 0))] ?_)))
  refine WL.bo 68 (r11 == 0) 3 [] [] (fun b' => [(71, vB (b' && (r15 == 0)))]) ?_
  refine WL.rn 1 [] [(72, vB ((r11 == 0) && (r15 == 0)))] ?_
  refine WL.bo 72 ((r11 == 0) && (r15 == 0)) 3 [] [] (fun b' => [(75, vB (b' && (r19 == 0)))]) ?_
  refine WL.rn 1 [] [(76, vB (((r11 == 0) && (r15 == 0)) && (r19 == 0)))] ?_
  refine WL.bo 76 (((r11 == 0) && (r15 == 0)) && (r19 == 0)) 3 [] [] (fun b' => [(79, vB (b' && (r22 == 0)))]) ?_
  refine WL.rn 1 [] [(80, vB ((((r11 == 0) && (r15 == 0)) && (r19 == 0)) && (r22 == 0)))] ?_
  refine WL.bo 80 ((((r11 == 0) && (r15 == 0)) && (r19 == 0)) && (r22 == 0)) 2 [] [] (fun b' => [(82, vB (b' && r25))]) ?_
  refine WL.rn 1 [] [(83, vB (((((r11 == 0) && (r15 == 0)) && (r19 == 0)) && (r22 == 0)) && r25))] ?_
  refine WL.join (σ := Bool) 7 (fun st => aB.k2 a0_6 a0_1 a0_2 a0 a0_10 st = some r) (fun st => [(1, vP b1 0), (2, .pointer none), (3, vI 0), (6, .pointer A13), (8, vP b18 0), (10, .pointer A21), (12, .pointer A24), (14, .pointer A27), (90, vB st)]) (fun st => Sat w Z [(b1, .cells #[vU a0, vU a0_1, vT a0_2, ae A00 a0_3.length, ae A01 a0_4.length, vI a0_5.Room, vI a0_5.aY, vI a0_5.a8, vI a0_5.aR, vU a0_6.bx, vT a0_6.Ip, vI a0_6.Room, vI a0_6.aY, vI a0_6.cp, vI a0_6.br, vI a0_6.bn, vI a0_7, ae A02 a0_8.length, ae A03 a0_9.length, vI a0_10, vB a0_11] 60 (0, 0)), (b18, .cells #[vU r14.aK, ae A17 r14.aX.length, vI r14.vq] 101 (0, 0))] [] ([Row 15 (pl an.enc) aA A17 r14.aX, Row 1 (pl (aE .i64)) aA A4 x3, bC aA A4 x3, bC aA (av.at b2 0 (fun _ => ())) ([] : List Int), Row 3 aa.au aa.aN A00 a0_3, Row 1 (pl ca) aA A01 a0_4, Row 3 ag.au ag.aN A02 a0_8, Row 3 (pl aj.enc) aA A03 a0_9] ++ aI)) (fun st hM => ?_) (fun K2 => ?_)
  ·
   obtain ⟨x31, rfl⟩ : ∃ y, y = st := ⟨st, rfl⟩
   replace hM : aB.k2 a0_6 a0_1 a0_2 a0 a0_10 x31 = some r := hM
   unfold aB.k2 at hM
   try dsimp only
   refine WL.rn 1 [] [(16, vB x31)] ?_
   refine WP.done (WP.seq (WP.seq (WP.region (WL.rn 3 [] [(93, vB (!x31))] ?_))))
   refine WL.bo 93 (!x31) 7 [] [0, 0] (fun b' => [(100, vB (b' || (a0_6.bx != a0_1)))]) ?_
   refine WL.rn 1 [] [(101, vB ((!x31) || (a0_6.bx != a0_1)))] ?_
   refine WL.bo 101 ((!x31) || (a0_6.bx != a0_1)) 7 [] [0, 0] (fun b' => [(108, vB (b' || (a0_6.Ip != a0_2)))]) ?_
   refine WL.rn 1 [] [(109, vB (((!x31) || (a0_6.bx != a0_1)) || (a0_6.Ip != a0_2)))] ?_
   refine WL.bo 109 (((!x31) || (a0_6.bx != a0_1)) || (a0_6.Ip != a0_2)) 4 [] [0] (fun b' => [(113, vB (b' || (a0 == 0)))]) ?_
   refine WL.rn 1 [] [(114, vB ((((!x31) || (a0_6.bx != a0_1)) || (a0_6.Ip != a0_2)) || (a0 == 0)))] ?_
   refine WL.bo 114 ((((!x31) || (a0_6.bx != a0_1)) || (a0_6.Ip != a0_2)) || (a0 == 0)) 4 [] [0] (fun b' => [(118, vB (b' || (decide (a0_10 < 68))))]) ?_
   refine WL.rn 1 [] [(119, vB (((((!x31) || (a0_6.bx != a0_1)) || (a0_6.Ip != a0_2)) || (a0 == 0)) || (decide (a0_10 < 68))))] ?_
   refine WL.bo 119 (((((!x31) || (a0_6.bx != a0_1)) || (a0_6.Ip != a0_2)) || (a0 == 0)) || (decide (a0_10 < 68))) 4 [] [0] (fun b' => [(123, vB (b' || (decide (a0_10 > 65535))))]) ?_
   refine WP.done ?_
   refine WP.cond ((((((!x31) || (a0_6.bx != a0_1)) || (a0_6.Ip != a0_2)) || (a0 == 0)) || (decide (a0_10 < 68))) || (decide (a0_10 > 65535))) rfl rfl (fun c32 => ?_) (fun c32 => ?_)
   ·replace hM := aG hM c32
    refine WP.seq (WP.rn [] [(2, .pointer none), (3, vI 240)] ?_)
    obtain rfl := oI hM
    exact WP.ret [] [] (.tuple #[.pointer none, vI 240]) (by kernel_rfl) (fun w' hw => ⟨(none : Option Addr), rfl, (hw.pick [] rfl).less (aT [] [4, 5, 6, 7] rfl rfl)⟩)
   ·replace hM := aH hM c32
    refine WP.skip (WP.seq ?_)
    obtain ⟨t33, h34, hM⟩ := bind_some hM
    refine WP.rs [1, 2, 3, 6, 8, 10, 12, 14] ?_
    refine WP.fB (X := ((av Unit) × Nat)) 11 3 [⟨0, 11, fun _ => [(b1, .cells #[vU a0, vU a0_1, vT a0_2, ae A00 a0_3.length, ae A01 a0_4.length, vI a0_5.Room, vI a0_5.aY, vI a0_5.a8, vI a0_5.aR, vU a0_6.bx, vT a0_6.Ip, vI a0_6.Room, vI a0_6.aY, vI a0_6.cp, vI a0_6.br, vI a0_6.bn, vI a0_7, ae A02 a0_8.length, ae A03 a0_9.length, vI a0_10, vB a0_11] 60 (0, 0))], fun _ => []⟩, ⟨0, 11, fun _ => [(b18, .cells #[vU r14.aK, ae A17 r14.aX.length, vI r14.vq] 101 (0, 0))], fun _ => []⟩, ⟨9, 11, fun ξ => [((ξ 8).2, .cells #[vU a0, vU a0_1, vT a0_2, ae A00 a0_3.length, ae A01 a0_4.length, vI a0_5.Room, vI a0_5.aY, vI a0_5.a8, vI a0_5.aR, vU a0_6.bx, vT a0_6.Ip, vI a0_6.Room, vI a0_6.aY, vI a0_6.cp, vI a0_6.br, vI a0_6.bn, vI a0_7, ae A02 a0_8.length, ae A03 a0_9.length, vI a0_10, vB a0_11, .pointer A13, vU r14.aK, ae A17 r14.aX.length, vI r14.vq, .pointer A21, .pointer A24, .pointer A27, ae (ξ 6).1 (List.replicate t33 0 : List Int).length, .slice none 0 0] 139 (0, 0))], fun ξ => []⟩] [⟨[], [0], [0], [], [], fun _ => .agg #[vU a0, vU a0_1, vT a0_2, ae A00 a0_3.length, ae A01 a0_4.length, vI a0_5.Room, vI a0_5.aY, vI a0_5.a8, vI a0_5.aR, vU a0_6.bx, vT a0_6.Ip, vI a0_6.Room, vI a0_6.aY, vI a0_6.cp, vI a0_6.br, vI a0_6.bn, vI a0_7, ae A02 a0_8.length, ae A03 a0_9.length, vI a0_10, vB a0_11], fun _ => []⟩, ⟨[], [], [], [], [], fun _ => .pointer A13, fun _ => []⟩, ⟨[], [1], [1], [], [], fun _ => .agg #[vU r14.aK, ae A17 r14.aX.length, vI r14.vq], fun _ => []⟩, ⟨[], [], [], [], [], fun _ => .pointer A21, fun _ => []⟩, ⟨[], [], [], [], [], fun _ => .pointer A24, fun _ => []⟩, ⟨[], [], [], [], [], fun _ => .pointer A27, fun _ => []⟩, ⟨[], [], [], [], [], fun ξ => ae (ξ 6).1 (List.replicate t33 0 : List Int).length, fun ξ => [Row 1 (pl (aE .i64)) aA (ξ 6).1 (List.replicate t33 0 : List Int)]⟩, ⟨[0, 1, 2, 3, 4, 5, 6], [], [], [6], [], fun ξ => .agg #[vU a0, vU a0_1, vT a0_2, ae A00 a0_3.length, ae A01 a0_4.length, vI a0_5.Room, vI a0_5.aY, vI a0_5.a8, vI a0_5.aR, vU a0_6.bx, vT a0_6.Ip, vI a0_6.Room, vI a0_6.aY, vI a0_6.cp, vI a0_6.br, vI a0_6.bn, vI a0_7, ae A02 a0_8.length, ae A03 a0_9.length, vI a0_10, vB a0_11, .pointer A13, vU r14.aK, ae A17 r14.aX.length, vI r14.vq, .pointer A21, .pointer A24, .pointer A27, ae (ξ 6).1 (List.replicate t33 0 : List Int).length, .slice none 0 0], fun ξ => []⟩, ⟨[0, 1, 2, 3, 4, 5, 6, 7], [], [2], [6], [], fun ξ => .pointer (some ⟨(ξ 8).2, 0, none⟩), fun ξ => []⟩, ⟨[0, 1, 2, 3, 4, 5, 6, 7, 8], [], [], [8], [], fun ξ => .pointer (some ⟨(ξ 8).2, 0, none⟩), fun ξ => []⟩, ⟨[0, 1, 2, 3, 4, 5, 6, 7, 8, 9], [], [], [], [2], fun _ => vI 0, fun _ => []⟩] (fun ξ => [(2, .pointer (some ⟨(ξ 8).2, 0, none⟩)), (3, vI 0)]) (fun ξ => [(b1, .cells #[vU a0, vU a0_1, vT a0_2, ae A00 a0_3.length, ae A01 a0_4.length, vI a0_5.Room, vI a0_5.aY, vI a0_5.a8, vI a0_5.aR, vU a0_6.bx, vT a0_6.Ip, vI a0_6.Room, vI a0_6.aY, vI a0_6.cp, vI a0_6.br, vI a0_6.bn, vI a0_7, ae A02 a0_8.length, ae A03 a0_9.length, vI a0_10, vB a0_11] 60 (0, 0)), (b18, .cells #[vU r14.aK, ae A17 r14.aX.length, vI r14.vq] 101 (0, 0)), ((ξ 8).2, .cells #[vU a0, vU a0_1, vT a0_2, ae A00 a0_3.length, ae A01 a0_4.length, vI a0_5.Room, vI a0_5.aY, vI a0_5.a8, vI a0_5.aR, vU a0_6.bx, vT a0_6.Ip, vI a0_6.Room, vI a0_6.aY, vI a0_6.cp, vI a0_6.br, vI a0_6.bn, vI a0_7, ae A02 a0_8.length, ae A03 a0_9.length, vI a0_10, vB a0_11, .pointer A13, vU r14.aK, ae A17 r14.aX.length, vI r14.vq, .pointer A21, .pointer A24, .pointer A27, ae (ξ 6).1 (List.replicate t33 0 : List Int).length, .slice none 0 0] 139 (0, 0))]) (fun ξ => []) (fun ξ => [Row 1 (pl (aE .i64)) aA (ξ 6).1 (List.replicate t33 0 : List Int)]) (aq.cons ?_ (aq.cons ?_ (aq.cons ?_ (aq.cons ?_ (aq.cons ?_ (aq.cons ?_ (aq.cons ?_ (aq.cons ?_ (aq.cons ?_ (aq.cons ?_ (aq.cons ?_ aq.nil))))))))))) (aq.cons (bf.c rfl) (aq.cons (bf.c rfl) (aq.cons (bf.c rfl) (aq.cons (bf.c rfl) (aq.cons (bf.c rfl) (aq.cons (bf.c rfl) (aq.cons (fun t ht ξ ξ' h => by cases ht; have e6 : ξ 6 = ξ' 6 := h 6 (aC.1 rfl); exact ⟨by first | rfl | simp only [e6], by first | rfl | simp only [e6]⟩) (aq.cons (fun t ht ξ ξ' h => by cases ht; have e6 : ξ 6 = ξ' 6 := h 6 (aC.1 rfl); exact ⟨by first | rfl | simp only [e6], by first | rfl | simp only [e6]⟩) (aq.cons (fun t ht ξ ξ' h => by cases ht; have e8 : ξ 8 = ξ' 8 := h 8 (aC.1 rfl); exact ⟨by first | rfl | simp only [e8], by first | rfl | simp only [e8]⟩) (aq.cons (fun t ht ξ ξ' h => by cases ht; have e8 : ξ 8 = ξ' 8 := h 8 (aC.1 rfl); exact ⟨by first | rfl | simp only [e8], by first | rfl | simp only [e8]⟩) (aq.cons (bf.c rfl) aq.nil))))))))))) (aq.cons (dA.c rfl) (aq.cons (dA.c rfl) (aq.cons (fun r hr ξ ξ' h => by cases hr; have e6 : ξ 6 = ξ' 6 := h 6 (aC.1 rfl); have e8 : ξ 8 = ξ' 8 := h 8 (aC.1 rfl); exact ⟨by first | rfl | simp only [e6, e8], by first | rfl | simp only [e6, e8]⟩) aq.nil))) (fun ξ => ?_)
    ·
     intro o t ho ht ξ Gr Γr Lr Q hk
     cases ho; cases ht
     refine WL.rn 1 [0, 0, 0, 0, 0, 0, 0, 0, 0, 0, 0, 0, 0, 0, 0, 0, 0, 0, 0, 0, 0] [(124, .agg #[vU a0, vU a0_1, vT a0_2, ae A00 a0_3.length, ae A01 a0_4.length, vI a0_5.Room, vI a0_5.aY, vI a0_5.a8, vI a0_5.aR, vU a0_6.bx, vT a0_6.Ip, vI a0_6.Room, vI a0_6.aY, vI a0_6.cp, vI a0_6.br, vI a0_6.bn, vI a0_7, ae A02 a0_8.length, ae A03 a0_9.length, vI a0_10, vB a0_11])] ?_
     exact WL.fin (hk default)
    ·
     intro o t ho ht ξ Gr Γr Lr Q hk
     cases ho; cases ht
     refine WL.rn 1 [] [(125, .pointer A13)] ?_
     exact WL.fin (hk default)
    ·
     intro o t ho ht ξ Gr Γr Lr Q hk
     cases ho; cases ht
     refine WL.rn 1 [0, 0, 0] [(126, .agg #[vU r14.aK, ae A17 r14.aX.length, vI r14.vq])] ?_
     exact WL.fin (hk default)
    ·
     intro o t ho ht ξ Gr Γr Lr Q hk
     cases ho; cases ht
     refine WL.rn 1 [] [(127, .pointer A21)] ?_
     exact WL.fin (hk default)
    ·
     intro o t ho ht ξ Gr Γr Lr Q hk
     cases ho; cases ht
     refine WL.rn 1 [] [(128, .pointer A24)] ?_
     exact WL.fin (hk default)
    ·
     intro o t ho ht ξ Gr Γr Lr Q hk
     cases ho; cases ht
     refine WL.rn 1 [] [(129, .pointer A27)] ?_
     exact WL.fin (hk default)
    ·
     intro o t ho ht ξ Gr Γr Lr Q hk
     cases ho; cases ht
     refine WL.Df (V := fun x : av Unit => ae x (List.replicate t33 0 : List Int).length) (R := fun x => [Row 1 (pl (aE .i64)) aA x (List.replicate t33 0 : List Int)]) (L' := fun x => (130, ae x (List.replicate t33 0 : List Int).length) :: _) (by kernel_rfl) (yw (f := (aE .i64)) (z := 0) (zv := vI 0) (i := 13) (k := .i64) (n := t33) (e := 3) (m := 1) rfl rfl rfl rfl rfl (by decide) (fun _ => rfl) rfl h34) rfl (fun _ => rfl) (fun A35 => ?_)
     refine WL.less (Φ' := (([Row 1 (pl (aE .i64)) aA A35 (List.replicate t33 0 : List Int), Row 15 (pl an.enc) aA A17 r14.aX, Row 1 (pl (aE .i64)) aA A4 x3, bC aA A4 x3, bC aA (av.at b2 0 (fun _ => ())) ([] : List Int), Row 3 aa.au aa.aN A00 a0_3, Row 1 (pl ca) aA A01 a0_4, Row 3 ag.au ag.aN A02 a0_8, Row 3 (pl aj.enc) aA A03 a0_9] ++ Γr) ++ aI)) (fun _ h => h) ?_
     exact WL.fin (hk (A35, default))
    ·
     intro o t ho ht ξ Gr Γr Lr Q hk
     cases ho; cases ht
     refine WL.rn 1 [] [(131, .agg #[vU a0, vU a0_1, vT a0_2, ae A00 a0_3.length, ae A01 a0_4.length, vI a0_5.Room, vI a0_5.aY, vI a0_5.a8, vI a0_5.aR, vU a0_6.bx, vT a0_6.Ip, vI a0_6.Room, vI a0_6.aY, vI a0_6.cp, vI a0_6.br, vI a0_6.bn, vI a0_7, ae A02 a0_8.length, ae A03 a0_9.length, vI a0_10, vB a0_11, .pointer A13, vU r14.aK, ae A17 r14.aX.length, vI r14.vq, .pointer A21, .pointer A24, .pointer A27, ae (ξ 6).1 (List.replicate t33 0 : List Int).length, .slice none 0 0])] ?_
     exact WL.fin (hk default)
    ·
     intro o t ho ht ξ Gr Γr Lr Q hk
     cases ho; cases ht
     refine WL.rh 1 [] (fun b36 => [(132, vP b36 0)]) (fun b36 => []) (fun b36 => [(b36, .cells #[vU a0, vU a0_1, vT a0_2, ae A00 a0_3.length, ae A01 a0_4.length, vI a0_5.Room, vI a0_5.aY, vI a0_5.a8, vI a0_5.aR, vU a0_6.bx, vT a0_6.Ip, vI a0_6.Room, vI a0_6.aY, vI a0_6.cp, vI a0_6.br, vI a0_6.bn, vI a0_7, ae A02 a0_8.length, ae A03 a0_9.length, vI a0_10, vB a0_11, .pointer A13, vU r14.aK, ae A17 r14.aX.length, vI r14.vq, .pointer A21, .pointer A24, .pointer A27, ae (ξ 6).1 (List.replicate t33 0 : List Int).length, .slice none 0 0] 139 (0, 0))]) (fun b36 => ?_)
     exact WL.fin (hk (default, b36))
    ·
     intro o t ho ht ξ Gr Γr Lr Q hk
     cases ho; cases ht
     refine WL.rn 1 [] [(2, .pointer (some ⟨(ξ 8).2, 0, none⟩))] ?_
     exact WL.fin (hk default)
    ·
     intro o t ho ht ξ Gr Γr Lr Q hk
     cases ho; cases ht
     refine WL.rn 1 [] [(3, vI 0)] ?_
     exact WL.fin (hk default)
    generalize (ξ 6).1 = A35
    generalize (ξ 8).2 = b36
    refine WP.less (Φ' := ([Row 1 (pl (aE .i64)) aA A35 (List.replicate t33 0 : List Int), Row 15 (pl an.enc) aA A17 r14.aX, Row 1 (pl (aE .i64)) aA A4 x3, bC aA A4 x3, bC aA (av.at b2 0 (fun _ => ())) ([] : List Int), Row 3 aa.au aa.aN A00 a0_3, Row 1 (pl ca) aA A01 a0_4, Row 3 ag.au ag.aN A02 a0_8, Row 3 (pl aj.enc) aA A03 a0_9] ++ aI)) (fun _ h => h) ?_
    refine WP.kp [false, false, true] ?_
    obtain rfl := oI hM
    exact WP.ret [] [] (.tuple #[vP b36 0, vI 0]) (by kernel_rfl) (fun w' hw => ⟨(some ⟨b36, 0, none⟩), rfl, (hw.pick [] rfl).less (aT [] [5, 6, 7, 8] rfl rfl)⟩)
  ·
   refine WL.sp 83 (((((r11 == 0) && (r15 == 0)) && (r19 == 0)) && (r22 == 0)) && r25) (fun c28 => ?_) (fun c28 => ?_)
   ·replace hM := aG hM c28
    refine WL.rn 4 [0, 0] [(85, vT a0_2), (87, ae A02 a0_8.length)] ?_
    obtain ⟨r29, h30, hM⟩ := bind_some hM
    refine WL.cQ [] [] (jD k A02 a0_2 a0_8 _ h30) (bE [6] rfl) (by kernel_rfl) rfl rfl ?_
    refine WL.rn 2 [] [(90, vB (r29 == 0))] ?_
    exact WL.sub [1, 2, 3, 6, 8, 10, 12, 14, 90] rfl (WL.pick [0, 1] rfl rfl (WL.aQ [0, 1, 2, 3, 4, 5, 6, 7] rfl (K2 (r29 == 0) hM)))
   ·replace hM := aH hM c28
    refine WL.rn 7 [] [(90, vB false)] ?_
    exact WL.sub [1, 2, 3, 6, 8, 10, 12, 14, 90] rfl (WL.pick [0, 1] rfl rfl (WL.aQ [0, 1, 2, 3, 4, 5, 6, 7] rfl (K2 false hM)))
def ak.k2 (x14 : Int) (x15 : Int) (rec_l4 : Int → Int → Option (Int)) (x33 : Bool) (x34 : Bool) : Option (Int) :=
 bif x34 then
  some 270
 else
  rec_l4 x14 (i64 (x15 + 1))
def ak.k3 (x14 : Int) (x15 : Int) (a0 : (List ah)) (x12 : Int) (rec_l4 : Int → Int → Option (Int)) (x26 : Bool) (x27 : Bool) : Option (Int) :=
 bif x27 then
  ak.k2 x14 x15 rec_l4 true true
 else
  (cI a0.length a0 x12).bind fun t29 =>
  (cI a0.length a0 x15).bind fun t31 =>
  ak.k2 x14 x15 rec_l4 false (t29.aK == t31.aK)
def ak.l4 (x12 : Int) (a0 : (List ah)) (rec_l5 : Int → Int → Option (Int)) : Nat → Int → Int → Option (Int)
 | 0, _, _ => none
 | n1 + 1, x14, x15 =>
  bif decide (x15 < x12) then
   (cI a0.length a0 x12).bind fun t17 =>
   (cI a0.length a0 x15).bind fun t19 =>
   bif (t17.Ip == t19.Ip) then
    ak.k3 x14 x15 a0 x12 (ak.l4 x12 a0 rec_l5 n1) true true
   else
    (cI a0.length a0 x12).bind fun t22 =>
    (cI a0.length a0 x15).bind fun t24 =>
    ak.k3 x14 x15 a0 x12 (ak.l4 x12 a0 rec_l5 n1) false (t22.bx == t24.bx)
  else
   rec_l5 x14 (i64 (x12 + 1))
def ak.l5 (a0 : (List ah)) (k : Nat) : Nat → Int → Int → Option (Int)
 | 0, _, _ => none
 | n + 1, x11, x12 =>
  bif decide (x12 < (a0.length : Int)) then
   ak.l4 x12 a0 (ak.l5 a0 k n) k x11 0
  else
   some 0
def ak.l1 (a0 : (List ah)) (k : Nat) : Nat → Int → Int → Option (Int)
 | 0, _, _ => none
 | n + 1, x2, x3 =>
  bif decide (x3 < (a0.length : Int)) then
   (cI a0.length a0 x3).bind fun t5 =>
   (aB.f k t5.aK t5.bx t5.Ip t5.aX t5.bt t5.bz t5.aO t5.cj t5.cm t5.a7 t5.cT t5.bu).bind fun r7 =>
   bif (r7 != 0) then
    some r7
   else
    ak.l1 a0 k n x2 (i64 (x3 + 1))
  else
   ak.l5 a0 k k x2 0
def ak.f (k : Nat) (a0 : (List ah)) : Option (Int) :=
 bif decide ((a0.length : Int) > 16) then
  some 2
 else
  ak.l1 a0 k k 0 0
theorem fR (k : Nat) (A00 : av ((av (av Unit)) × (av Unit) × (av (av Unit)) × (av Unit))) (a0 : (List ah)) (r : Int) (h : ak.f k a0 = some r) : Pure Tryz.prog ([Row 21 ah.au ah.aN A00 a0] ++ aI) 17 #[ae A00 a0.length] (vI r) := by
 intro w Z hS
 refine bh (args := [ae A00 a0.length]) (L := [(0, ae A00 a0.length)]) (N := 76) Tryz.func17 hS ?_
 have hM := h
 clear h hS
 unfold ak.f at hM
 refine WP.seq (WP.rn [] [(2, vI 0)] ?_)
 refine WP.seq (WP.seq (WP.rn [] [(10, vB (decide ((a0.length : Int) > 16)))] ?_))
 refine WP.cond (decide ((a0.length : Int) > 16)) rfl rfl (fun c1 => ?_) (fun c1 => ?_)
 ·replace hM := aG hM c1
  refine WP.seq (WP.rn [] [(2, vI 2)] ?_)
  obtain rfl := oI hM
  exact WP.dI [] [] [0]
 ·replace hM := aH hM c1
  refine WP.skip (WP.seq (WP.seq (WP.rn [] [(3, vI 0)] ?_)))
  refine WP.block (WP.sub [0, 2, 3] (L' := [(0, ae A00 a0.length), (2, vI 0), (3, vI 0)]) rfl ?_)
  refine WP.aQ [0] (F' := [Row 21 ah.au ah.aN A00 a0]) rfl ?_
  refine WP.loop (σ := Int × Int) (fun n st => ak.l1 a0 k n st.1 st.2) r (fun st => [(0, ae A00 a0.length), (2, vI st.1), (3, vI st.2)]) (fun st => Sat w Z [] [] ([Row 21 ah.au ah.aN A00 a0] ++ aI)) (st := (0, 0)) (fun n st hM => ?_) hM
  rcases n with _ | n
  ·exact nomatch (show (none : Option _) = some r from hM)
  obtain ⟨x2, x3⟩ := st
  replace hM : ak.l1 a0 k (n + 1) x2 x3 = some r := hM
  rw [ak.l1] at hM
  try dsimp only
  refine WP.seq (WP.seq (WP.rn [] [(11, vI x3), (12, ae A00 a0.length), (13, vI (a0.length : Int)), (14, vB (decide (x3 < (a0.length : Int))))] ?_))
  refine WP.cond (decide (x3 < (a0.length : Int))) rfl rfl (fun c4 => ?_) (fun c4 => ?_)
  ·replace hM := aG hM c4
   refine WP.skip (WP.seq (WP.block (WP.seq (WP.region (WL.rn 2 [] [(18, ae A00 a0.length), (19, vI x3)] ?_)))))
   obtain ⟨t5, h6, hM⟩ := bind_some hM
   refine WL.cd (φ := Row 21 ah.au ah.aN A00 a0) (ar 0 rfl) (fun w hR => aJ (A := A00) (xs := a0) (i := x3) (k := .i64) (e := 60) (m := 21) rfl rfl h6 rfl rfl hR) (by kernel_rfl) rfl rfl ?_
   refine WL.cd (φ := Row 21 ah.au ah.aN A00 a0) (ar 0 rfl) (fun w hR => b4 (A := A00) (xs := a0) (i := x3) (j := 0) (n := 21) (vs := [vU t5.aK, vU t5.bx, vT t5.Ip, ae ((A00.s (Int.toNat x3)).1) t5.aX.length, ae ((A00.s (Int.toNat x3)).2.1) t5.bt.length, vI t5.bz.Room, vI t5.bz.aY, vI t5.bz.a8, vI t5.bz.aR, vU t5.aO.bx, vT t5.aO.Ip, vI t5.aO.Room, vI t5.aO.aY, vI t5.aO.cp, vI t5.aO.br, vI t5.aO.bn, vI t5.cj, ae ((A00.s (Int.toNat x3)).2.2.1) t5.cm.length, ae ((A00.s (Int.toNat x3)).2.2.2) t5.a7.length, vI t5.cT, vB t5.bu]) h6 (fun _ => by kernel_rfl) rfl rfl rfl rfl hR) (by kernel_rfl) rfl rfl ?_
   refine WL.ez (Row 3 aa.au aa.aN ((A00.s (Int.toNat x3)).1) t5.aX) [0] [Row 21 ah.au ah.aN A00 a0] rfl (fun w hψ => ((hψ _ (List.mem_singleton.2 rfl)).inner _ _ (bg h6).2).1) ?_
   refine WL.ez (Row 1 (pl ca) aA ((A00.s (Int.toNat x3)).2.1) t5.bt) [1] [Row 21 ah.au ah.aN A00 a0] rfl (fun w hψ => ((hψ _ (List.mem_singleton.2 rfl)).inner _ _ (bg h6).2).2.1) ?_
   refine WL.ez (Row 3 ag.au ag.aN ((A00.s (Int.toNat x3)).2.2.1) t5.cm) [2] [Row 21 ah.au ah.aN A00 a0] rfl (fun w hψ => ((hψ _ (List.mem_singleton.2 rfl)).inner _ _ (bg h6).2).2.2.1) ?_
   refine WL.ez (Row 3 (pl aj.enc) aA ((A00.s (Int.toNat x3)).2.2.2) t5.a7) [3] [Row 21 ah.au ah.aN A00 a0] rfl (fun w hψ => ((hψ _ (List.mem_singleton.2 rfl)).inner _ _ (bg h6).2).2.2.2) ?_
   obtain ⟨r7, h8, hM⟩ := bind_some hM
   refine WL.c0 (F0 := [Row 3 aa.au aa.aN ((A00.s (Int.toNat x3)).1) t5.aX, Row 1 (pl ca) aA ((A00.s (Int.toNat x3)).2.1) t5.bt, Row 3 ag.au ag.aN ((A00.s (Int.toNat x3)).2.2.1) t5.cm, Row 3 (pl aj.enc) aA ((A00.s (Int.toNat x3)).2.2.2) t5.a7]) [] [] [] (fun _ => _) [3, 2, 1, 0] rfl (gu k ((A00.s (Int.toNat x3)).1) ((A00.s (Int.toNat x3)).2.1) ((A00.s (Int.toNat x3)).2.2.1) ((A00.s (Int.toNat x3)).2.2.2) t5.aK t5.bx t5.Ip t5.aX t5.bt t5.bz t5.aO t5.cj t5.cm t5.a7 t5.cT t5.bu _ h8) rfl rfl (by kernel_rfl) rfl (fun _ => rfl) (fun A9 => ?_)
   refine WL.rn 5 [] [(5, vI r7), (17, .tuple #[.pointer A9, vI r7]), (23, .pointer A9), (24, vI r7)] ?_
   refine WP.done (WP.seq (WP.rn [] [(25, vI r7), (26, vB (r7 != 0))] ?_))
   refine WP.cond (r7 != 0) rfl rfl (fun c10 => ?_) (fun c10 => ?_)
   ·replace hM := aG hM c10
    refine WP.seq (WP.rn [] [(2, vI r7), (27, vI r7)] ?_)
    obtain rfl := oI hM
    exact WP.dI [] [] [4]
   ·replace hM := aH hM c10
    refine WP.skip (WP.leave (WP.rn [] [(3, vI (i64 (x3 + 1))), (15, vI x3), (16, vI (i64 (x3 + 1)))] ?_))
    exact WP.cN [0, 2, 3] (x2, i64 (x3 + 1)) hM rfl (fun _ h => (h.pick [] rfl).aQ [4] rfl)
  ·replace hM := aH hM c4
   refine WP.exit rfl (WP.seq (WP.seq (WP.rn [] [(6, vI 0)] ?_)))
   refine WP.block (WP.sub [0, 2, 6] (L' := [(0, ae A00 a0.length), (2, vI x2), (6, vI 0)]) rfl ?_)
   refine WP.aQ [0] (F' := [Row 21 ah.au ah.aN A00 a0]) rfl ?_
   refine WP.loop (σ := Int × Int) (fun n st => ak.l5 a0 k n st.1 st.2) r (fun st => [(0, ae A00 a0.length), (2, vI st.1), (6, vI st.2)]) (fun st => Sat w Z [] [] ([Row 21 ah.au ah.aN A00 a0] ++ aI)) (st := (x2, 0)) (fun n st hM => ?_) hM
   rcases n with _ | n
   ·exact nomatch (show (none : Option _) = some r from hM)
   obtain ⟨x11, x12⟩ := st
   replace hM : ak.l5 a0 k (n + 1) x11 x12 = some r := hM
   rw [ak.l5] at hM
   try dsimp only
   refine WP.seq (WP.seq (WP.rn [] [(28, vI x12), (29, ae A00 a0.length), (30, vI (a0.length : Int)), (31, vB (decide (x12 < (a0.length : Int))))] ?_))
   refine WP.cond (decide (x12 < (a0.length : Int))) rfl rfl (fun c13 => ?_) (fun c13 => ?_)
   ·replace hM := aG hM c13
    refine WP.skip (WP.seq (WP.block (WP.seq (WP.rn [] [(7, vI 0)] ?_))))
    refine WP.block (WP.sub [0, 2, 6, 7, 28, 29, 30, 31] (L' := [(0, ae A00 a0.length), (2, vI x11), (6, vI x12), (7, vI 0), (28, vI x12), (29, ae A00 a0.length), (30, vI (a0.length : Int)), (31, vB (decide (x12 < (a0.length : Int))))]) rfl ?_)
    refine WP.aQ [0] (F' := [Row 21 ah.au ah.aN A00 a0]) rfl ?_
    refine WP.loop (σ := Int × Int) (fun n1 st => ak.l4 x12 a0 (ak.l5 a0 k n) n1 st.1 st.2) r (fun st => [(0, ae A00 a0.length), (2, vI st.1), (6, vI x12), (7, vI st.2), (28, vI x12), (29, ae A00 a0.length), (30, vI (a0.length : Int)), (31, vB (decide (x12 < (a0.length : Int))))]) (fun st => Sat w Z [] [] ([Row 21 ah.au ah.aN A00 a0] ++ aI)) (st := (x11, 0)) (fun n1 st hM => ?_) hM
    rcases n1 with _ | n1
    ·exact nomatch (show (none : Option _) = some r from hM)
    obtain ⟨x14, x15⟩ := st
    replace hM : ak.l4 x12 a0 (ak.l5 a0 k n) (n1 + 1) x14 x15 = some r := hM
    rw [ak.l4] at hM
    try dsimp only
    refine WP.seq (WP.seq (WP.rn [] [(34, vI x15), (35, vI x12), (36, vB (decide (x15 < x12)))] ?_))
    refine WP.cond (decide (x15 < x12)) rfl rfl (fun c16 => ?_) (fun c16 => ?_)
    ·replace hM := aG hM c16
     refine WP.skip (WP.seq (WP.block (WP.seq (WP.quiet rfl (by kernel_rfl) ?_))))
     refine QL.rn 2 [] [(39, ae A00 a0.length), (40, vI x12)] ?_
     obtain ⟨t17, h18, hM⟩ := bind_some hM
     refine QL.cd (φ := Row 21 ah.au ah.aN A00 a0) (ar 0 rfl) (fun w hR => aJ (A := A00) (xs := a0) (i := x12) (k := .i64) (e := 60) (m := 21) rfl rfl h18 rfl rfl hR) (by kernel_rfl) rfl rfl ?_
     refine QL.cd (φ := Row 21 ah.au ah.aN A00 a0) (ar 0 rfl) (fun w hR => cY (A := A00) (xs := a0) (i := x12) (n := Int.toNat x12 * 21 + 0) (n' := Int.toNat x12 * 21 + 2) h18 rfl (fun _ _ => by kernel_rfl) hR) (by kernel_rfl) rfl rfl ?_
     refine QL.cd (φ := Row 21 ah.au ah.aN A00 a0) (ar 0 rfl) (fun w hR => bp (A := A00) (xs := a0) (i := x12) (j := 2) (v := vT t17.Ip) h18 (fun _ => by kernel_rfl) rfl rfl hR) (by kernel_rfl) rfl rfl ?_
     refine QL.rn 2 [] [(44, ae A00 a0.length), (45, vI x15)] ?_
     obtain ⟨t19, h20, hM⟩ := bind_some hM
     refine QL.cd (φ := Row 21 ah.au ah.aN A00 a0) (ar 0 rfl) (fun w hR => aJ (A := A00) (xs := a0) (i := x15) (k := .i64) (e := 60) (m := 21) rfl rfl h20 rfl rfl hR) (by kernel_rfl) rfl rfl ?_
     refine QL.cd (φ := Row 21 ah.au ah.aN A00 a0) (ar 0 rfl) (fun w hR => cY (A := A00) (xs := a0) (i := x15) (n := Int.toNat x15 * 21 + 0) (n' := Int.toNat x15 * 21 + 2) h20 rfl (fun _ _ => by kernel_rfl) hR) (by kernel_rfl) rfl rfl ?_
     refine QL.cd (φ := Row 21 ah.au ah.aN A00 a0) (ar 0 rfl) (fun w hR => bp (A := A00) (xs := a0) (i := x15) (j := 2) (v := vT t19.Ip) h20 (fun _ => by kernel_rfl) rfl rfl hR) (by kernel_rfl) rfl rfl ?_
     refine QL.rn 2 [] [(49, vB (t17.Ip == t19.Ip)), (50, vB (t17.Ip == t19.Ip))] ?_
     refine QL.join (σ := Bool × Bool) 12 (fun st => ak.k3 x14 x15 a0 x12 (ak.l4 x12 a0 (ak.l5 a0 k n) n1) st.1 st.2 = some r) (fun st => [(0, ae A00 a0.length), (2, vI x14), (6, vI x12), (7, vI x15), (28, vI x12), (29, ae A00 a0.length), (30, vI (a0.length : Int)), (31, vB (decide (x12 < (a0.length : Int)))), (34, vI x15), (35, vI x12), (36, vB (decide (x15 < x12))), (39, ae A00 a0.length), (40, vI x12), (41, dM A00 (Int.toNat x12 * 21)), (42, dM A00 (Int.toNat x12 * 21 + 2)), (43, vT t17.Ip), (44, ae A00 a0.length), (45, vI x15), (46, dM A00 (Int.toNat x15 * 21)), (47, dM A00 (Int.toNat x15 * 21 + 2)), (48, vT t19.Ip), (49, vB (t17.Ip == t19.Ip)), (50, vB st.1), (62, vB st.2)]) (fun st hM => ?_) (fun K3 => ?_)
     ·
      obtain ⟨x26, x27⟩ := st
      replace hM : ak.k3 x14 x15 a0 x12 (ak.l4 x12 a0 (ak.l5 a0 k n) n1) x26 x27 = some r := hM
      unfold ak.k3 at hM
      show QL _ _ _ _ _ _ [(0, ae A00 a0.length), (2, vI x14), (6, vI x12), (7, vI x15), (28, vI x12), (29, ae A00 a0.length), (30, vI (a0.length : Int)), (31, vB (decide (x12 < (a0.length : Int)))), (34, vI x15), (35, vI x12), (36, vB (decide (x15 < x12))), (39, ae A00 a0.length), (40, vI x12), (41, dM A00 (Int.toNat x12 * 21)), (42, dM A00 (Int.toNat x12 * 21 + 2)), (43, vT t17.Ip), (44, ae A00 a0.length), (45, vI x15), (46, dM A00 (Int.toNat x15 * 21)), (47, dM A00 (Int.toNat x15 * 21 + 2)), (48, vT t19.Ip), (49, vB (t17.Ip == t19.Ip)), (50, vB x26), (62, vB x27)]
      refine QL.rn 1 [] [(63, vB x27)] ?_
      refine QL.join (σ := Bool × Bool) 12 (fun st => ak.k2 x14 x15 (ak.l4 x12 a0 (ak.l5 a0 k n) n1) st.1 st.2 = some r) (fun st => [(0, ae A00 a0.length), (2, vI x14), (6, vI x12), (7, vI x15), (28, vI x12), (29, ae A00 a0.length), (30, vI (a0.length : Int)), (31, vB (decide (x12 < (a0.length : Int)))), (34, vI x15), (35, vI x12), (36, vB (decide (x15 < x12))), (39, ae A00 a0.length), (40, vI x12), (41, dM A00 (Int.toNat x12 * 21)), (42, dM A00 (Int.toNat x12 * 21 + 2)), (43, vT t17.Ip), (44, ae A00 a0.length), (45, vI x15), (46, dM A00 (Int.toNat x15 * 21)), (47, dM A00 (Int.toNat x15 * 21 + 2)), (48, vT t19.Ip), (49, vB (t17.Ip == t19.Ip)), (50, vB x26), (62, vB x27), (63, vB st.1), (75, vB st.2)]) (fun st hM => ?_) (fun K2 => ?_)
      ·
       obtain ⟨x33, x34⟩ := st
       replace hM : ak.k2 x14 x15 (ak.l4 x12 a0 (ak.l5 a0 k n) n1) x33 x34 = some r := hM
       unfold ak.k2 at hM
       show QL _ _ _ _ _ _ [(0, ae A00 a0.length), (2, vI x14), (6, vI x12), (7, vI x15), (28, vI x12), (29, ae A00 a0.length), (30, vI (a0.length : Int)), (31, vB (decide (x12 < (a0.length : Int)))), (34, vI x15), (35, vI x12), (36, vB (decide (x15 < x12))), (39, ae A00 a0.length), (40, vI x12), (41, dM A00 (Int.toNat x12 * 21)), (42, dM A00 (Int.toNat x12 * 21 + 2)), (43, vT t17.Ip), (44, ae A00 a0.length), (45, vI x15), (46, dM A00 (Int.toNat x15 * 21)), (47, dM A00 (Int.toNat x15 * 21 + 2)), (48, vT t19.Ip), (49, vB (t17.Ip == t19.Ip)), (50, vB x26), (62, vB x27), (63, vB x33), (75, vB x34)]
       refine QL.done ?_
       refine WP.cond x34 rfl rfl (fun c35 => ?_) (fun c35 => ?_)
       ·replace hM := aG hM c35
        refine WP.seq (WP.rn [] [(2, vI 270)] ?_)
        obtain rfl := oI hM
        exact WP.dI [] [] [0]
       ·replace hM := aH hM c35
        refine WP.skip (WP.leave (WP.rn [] [(7, vI (i64 (x15 + 1))), (37, vI x15), (38, vI (i64 (x15 + 1)))] ?_))
        exact WP.cN [0, 2, 6, 7, 28, 29, 30, 31] (x14, i64 (x15 + 1)) hM rfl (fun _ h => (h.pick [] rfl).aQ [0] rfl)
      ·
       refine QL.sp 63 x27 (fun c28 => ?_) (fun c28 => ?_)
       ·replace hM := aG hM c28
        refine QL.rn 12 [] [(64, .tuple #[]), (65, .tuple #[]), (66, .tuple #[]), (67, .tuple #[]), (68, .tuple #[]), (69, .tuple #[]), (70, .tuple #[]), (71, .tuple #[]), (72, .tuple #[]), (73, .tuple #[]), (74, .tuple #[]), (75, vB true)] ?_
        exact QL.sub [0, 2, 6, 7, 28, 29, 30, 31, 34, 35, 36, 39, 40, 41, 42, 43, 44, 45, 46, 47, 48, 49, 50, 62, 63, 75] rfl (K2 (true, true) hM)
       ·replace hM := aH hM c28
        refine QL.rn 2 [] [(64, ae A00 a0.length), (65, vI x12)] ?_
        obtain ⟨t29, h30, hM⟩ := bind_some hM
        refine QL.cd (φ := Row 21 ah.au ah.aN A00 a0) (ar 0 rfl) (fun w hR => aJ (A := A00) (xs := a0) (i := x12) (k := .i64) (e := 60) (m := 21) rfl rfl h30 rfl rfl hR) (by kernel_rfl) rfl rfl ?_
        refine QL.cd (φ := Row 21 ah.au ah.aN A00 a0) (ar 0 rfl) (fun w hR => cY (A := A00) (xs := a0) (i := x12) (n := Int.toNat x12 * 21 + 0) (n' := Int.toNat x12 * 21 + 0) h30 rfl (fun _ _ => by kernel_rfl) hR) (by kernel_rfl) rfl rfl ?_
        refine QL.cd (φ := Row 21 ah.au ah.aN A00 a0) (ar 0 rfl) (fun w hR => bp (A := A00) (xs := a0) (i := x12) (j := 0) (v := vU t29.aK) h30 (fun _ => by kernel_rfl) rfl rfl hR) (by kernel_rfl) rfl rfl ?_
        refine QL.rn 2 [] [(69, ae A00 a0.length), (70, vI x15)] ?_
        obtain ⟨t31, h32, hM⟩ := bind_some hM
        refine QL.cd (φ := Row 21 ah.au ah.aN A00 a0) (ar 0 rfl) (fun w hR => aJ (A := A00) (xs := a0) (i := x15) (k := .i64) (e := 60) (m := 21) rfl rfl h32 rfl rfl hR) (by kernel_rfl) rfl rfl ?_
        refine QL.cd (φ := Row 21 ah.au ah.aN A00 a0) (ar 0 rfl) (fun w hR => cY (A := A00) (xs := a0) (i := x15) (n := Int.toNat x15 * 21 + 0) (n' := Int.toNat x15 * 21 + 0) h32 rfl (fun _ _ => by kernel_rfl) hR) (by kernel_rfl) rfl rfl ?_
        refine QL.cd (φ := Row 21 ah.au ah.aN A00 a0) (ar 0 rfl) (fun w hR => bp (A := A00) (xs := a0) (i := x15) (j := 0) (v := vU t31.aK) h32 (fun _ => by kernel_rfl) rfl rfl hR) (by kernel_rfl) rfl rfl ?_
        refine QL.rn 2 [] [(74, vB (t29.aK == t31.aK)), (75, vB (t29.aK == t31.aK))] ?_
        exact QL.sub [0, 2, 6, 7, 28, 29, 30, 31, 34, 35, 36, 39, 40, 41, 42, 43, 44, 45, 46, 47, 48, 49, 50, 62, 63, 75] rfl (K2 (false, (t29.aK == t31.aK)) hM)
     ·
      refine QL.sp 50 (t17.Ip == t19.Ip) (fun c21 => ?_) (fun c21 => ?_)
      ·replace hM := aG hM c21
       refine QL.rn 12 [] [(51, .tuple #[]), (52, .tuple #[]), (53, .tuple #[]), (54, .tuple #[]), (55, .tuple #[]), (56, .tuple #[]), (57, .tuple #[]), (58, .tuple #[]), (59, .tuple #[]), (60, .tuple #[]), (61, .tuple #[]), (62, vB true)] ?_
       exact QL.sub [0, 2, 6, 7, 28, 29, 30, 31, 34, 35, 36, 39, 40, 41, 42, 43, 44, 45, 46, 47, 48, 49, 50, 62] rfl (K3 (true, true) hM)
      ·replace hM := aH hM c21
       refine QL.rn 2 [] [(51, ae A00 a0.length), (52, vI x12)] ?_
       obtain ⟨t22, h23, hM⟩ := bind_some hM
       refine QL.cd (φ := Row 21 ah.au ah.aN A00 a0) (ar 0 rfl) (fun w hR => aJ (A := A00) (xs := a0) (i := x12) (k := .i64) (e := 60) (m := 21) rfl rfl h23 rfl rfl hR) (by kernel_rfl) rfl rfl ?_
       refine QL.cd (φ := Row 21 ah.au ah.aN A00 a0) (ar 0 rfl) (fun w hR => cY (A := A00) (xs := a0) (i := x12) (n := Int.toNat x12 * 21 + 0) (n' := Int.toNat x12 * 21 + 1) h23 rfl (fun _ _ => by kernel_rfl) hR) (by kernel_rfl) rfl rfl ?_
       refine QL.cd (φ := Row 21 ah.au ah.aN A00 a0) (ar 0 rfl) (fun w hR => bp (A := A00) (xs := a0) (i := x12) (j := 1) (v := vU t22.bx) h23 (fun _ => by kernel_rfl) rfl rfl hR) (by kernel_rfl) rfl rfl ?_
       refine QL.rn 2 [] [(56, ae A00 a0.length), (57, vI x15)] ?_
       obtain ⟨t24, h25, hM⟩ := bind_some hM
       refine QL.cd (φ := Row 21 ah.au ah.aN A00 a0) (ar 0 rfl) (fun w hR => aJ (A := A00) (xs := a0) (i := x15) (k := .i64) (e := 60) (m := 21) rfl rfl h25 rfl rfl hR) (by kernel_rfl) rfl rfl ?_
       refine QL.cd (φ := Row 21 ah.au ah.aN A00 a0) (ar 0 rfl) (fun w hR => cY (A := A00) (xs := a0) (i := x15) (n := Int.toNat x15 * 21 + 0) (n' := Int.toNat x15 * 21 + 1) h25 rfl (fun _ _ => by kernel_rfl) hR) (by kernel_rfl) rfl rfl ?_
       refine QL.cd (φ := Row 21 ah.au ah.aN A00 a0) (ar 0 rfl) (fun w hR => bp (A := A00) (xs := a0) (i := x15) (j := 1) (v := vU t24.bx) h25 (fun _ => by kernel_rfl) rfl rfl hR) (by kernel_rfl) rfl rfl ?_
       refine QL.rn 2 [] [(61, vB (t22.bx == t24.bx)), (62, vB (t22.bx == t24.bx))] ?_
       exact QL.sub [0, 2, 6, 7, 28, 29, 30, 31, 34, 35, 36, 39, 40, 41, 42, 43, 44, 45, 46, 47, 48, 49, 50, 62] rfl (K3 (false, (t22.bx == t24.bx)) hM)
    ·replace hM := aH hM c16
     refine WP.exit rfl (WP.leave (WP.rn [] [(6, vI (i64 (x12 + 1))), (32, vI x12), (33, vI (i64 (x12 + 1)))] ?_))
     exact WP.cN [0, 2, 6] (x14, i64 (x12 + 1)) hM rfl (fun _ h => (h.pick [] rfl).aQ [0] rfl)
   ·replace hM := aH hM c13
    refine WP.exit rfl (WP.seq (WP.rn [] [(2, vI 0)] ?_))
    obtain rfl := oI hM
    exact WP.dI [] [] [0]
def eA.f (a0 : Int) : Option (Int) :=
 bif ((decide (a0 < 1)) || (decide (a0 > 4096))) then
  some 1
 else
  some 0
theorem kx (a0 : Int) (r : Int) (h : eA.f a0 = some r) : eT Tryz.prog 18 #[vI a0] [] ([] ++ aI) (fun x : (Option Addr) => .tuple #[.pointer x, vI r]) (fun x => []) (fun _ => []) (fun x => [] ++ ([] ++ aI)) := by
 intro w Z hS
 refine bh (args := [vI a0]) (L := [(0, vI a0)]) (N := 13) Tryz.func18 hS ?_
 have hM := h
 clear h hS
 unfold eA.f at hM
 refine WP.seq (WP.rn [] [(2, .pointer none), (3, vI 0)] ?_)
 refine WP.seq (WP.seq (WP.region (WL.rn 3 [] [(6, vB (decide (a0 < 1)))] ?_)))
 refine WL.bo 6 (decide (a0 < 1)) 3 [] [] (fun b' => [(9, vB (b' || (decide (a0 > 4096))))]) ?_
 refine WP.done ?_
 refine WP.cond ((decide (a0 < 1)) || (decide (a0 > 4096))) rfl rfl (fun c1 => ?_) (fun c1 => ?_)
 ·replace hM := aG hM c1
  refine WP.seq (WP.rn [] [(2, .pointer none), (3, vI 1)] ?_)
  obtain rfl := oI hM
  exact WP.ret [] [] (.tuple #[.pointer none, vI 1]) (by kernel_rfl) (fun w' hw => ⟨(none : Option Addr), rfl, (hw.pick [] rfl).less (aT [] [] rfl rfl)⟩)
 ·replace hM := aH hM c1
  refine WP.skip (WP.seq ?_)
  refine WP.rh [] (fun b2 => [(2, vP b2 0), (3, vI 0)]) (fun b2 => []) (fun b2 => [(b2, .cells #[.slice none 0 0, vI a0] 125 (0, 0))]) (fun b2 => ?_)
  obtain rfl := oI hM
  exact WP.ret [] [] (.tuple #[vP b2 0, vI 0]) (by kernel_rfl) (fun w' hw => ⟨(some ⟨b2, 0, none⟩), rfl, (hw.pick [] rfl).less (aT [] [] rfl rfl)⟩)
def dX.f (k : Nat) (a0 : (List ah)) (a1 : Int) : Option (Int) :=
 (ak.f k a0).bind fun r1 =>
 bif (r1 != 0) then
  some r1
 else
  (eA.f a1).bind fun r4 =>
  bif (r4 != 0) then
   some r4
  else
   none
theorem j0 (k : Nat) (A00 : av ((av (av Unit)) × (av Unit) × (av (av Unit)) × (av Unit))) (a0 : (List ah)) (a1 : Int) (r : Int) (h : dX.f k a0 a1 = some r) : Pure Tryz.prog ([Row 21 ah.au ah.aN A00 a0] ++ aI) 6 #[ae A00 a0.length, vI a1] (.tuple #[.pointer none, vI r]) := by
 intro w Z hS
 refine bh (args := [ae A00 a0.length, vI a1]) (L := [(0, ae A00 a0.length), (1, vI a1)]) (N := 54) Tryz.func6 hS ?_
 have hM := h
 clear h hS
 unfold dX.f at hM
 refine WP.seq (WP.rn [] [(4, .pointer none), (5, vI 0)] ?_)
 refine WP.seq (WP.region (WL.rn 1 [] [(13, ae A00 a0.length)] ?_))
 obtain ⟨r1, h2, hM⟩ := bind_some hM
 refine WL.cQ [] [] (fR k A00 a0 _ h2) (bE [0] rfl) (by kernel_rfl) rfl rfl ?_
 refine WL.rn 1 [] [(6, vI r1)] ?_
 refine WP.done (WP.seq (WP.seq (WP.rn [] [(16, vB (r1 != 0))] ?_)))
 refine WP.cond (r1 != 0) rfl rfl (fun c3 => ?_) (fun c3 => ?_)
 ·replace hM := aG hM c3
  refine WP.seq (WP.rn [] [(4, .pointer none), (5, vI r1)] ?_)
  obtain rfl := oI hM
  exact WP.dI [] [] [0]
 ·replace hM := aH hM c3
  refine WP.skip (WP.seq (WP.region (WL.rn 1 [] [(19, vI a1)] ?_)))
  obtain ⟨r4, h5, hM⟩ := bind_some hM
  refine WL.c0 (F0 := []) [] [] [] (fun _ => _) [] rfl (kx a1 _ h5) rfl rfl (by kernel_rfl) rfl (fun _ => rfl) (fun A6 => ?_)
  refine WL.rn 5 [] [(7, .pointer A6), (8, vI r4)] ?_
  refine WP.done (WP.seq (WP.seq (WP.rn [] [(24, vB (r4 != 0))] ?_)))
  refine WP.cond (r4 != 0) rfl rfl (fun c7 => ?_) (fun c7 => ?_)
  ·replace hM := aG hM c7
   refine WP.seq (WP.rn [] [(4, .pointer none), (5, vI r4)] ?_)
   obtain rfl := oI hM
   exact WP.dI [] [] [0]
  ·replace hM := aH hM c7
   refine WP.skip (WP.seq ?_)
   refine WP.rh [] (fun b8 => [(9, vP b8 0)]) (fun b8 => []) (fun b8 => [(b8, .cells #[.slice none 0 0, .pointer A6, vI 0, vI 0, .slice none 0 0] 71 (0, 0))]) (fun b8 => ?_)
   refine WP.seq (WP.seq (WP.rn [] [(10, vI 0)] ?_))
   refine WP.block ?_
   exact absurd hM (by simp)
def cK.l3 (t8 : Nat) (a0 : Int) (a1 : Int) : Nat → Int → (List Int) → Option (ByteArray × Int)
 | 0, _, _ => none
 | n + 1, x17, x18 =>
  bif decide (x17 < (t8 : Int)) then
   (qS .u64 a0 (i64 (8 * x17))).bind fun t20 =>
   (cI t8 x18 (i64 ((i64 (a1 - 1)) - x17))).bind fun t22 =>
   cK.l3 t8 a0 a1 n (i64 (x17 + 1)) (List.set x18 (i64 ((i64 (a1 - 1)) - x17)).toNat (u8 t20))
  else
   (cZ t8 x18).bind fun t24 =>
   some (t24, 0)
def cK.k2 (a1 : Int) (a0 : Int) (k : Nat) (x6 : Bool) : Option (ByteArray × Int) :=
 bif x6 then
  some ((⟨#[]⟩ : ByteArray), 1)
 else
  (jW 1 a1).bind fun t8 =>
  cK.l3 t8 a0 a1 k 0 (List.replicate t8 0)
def cK.k1 (a1 : Int) (a0 : Int) (k : Nat) (x5 : Bool) : Option (ByteArray × Int) :=
 cK.k2 a1 a0 k x5
def cK.f (k : Nat) (a0 : Int) (a1 : Int) : Option (ByteArray × Int) :=
 bif ((decide (a1 < 1)) || (decide (a1 > 8))) then
  cK.k2 a1 a0 k true
 else
  bif decide (a1 < 8) then
   (qS .u64 a0 (i64 (8 * a1))).bind fun t3 =>
   cK.k1 a1 a0 k (t3 != 0)
  else
   cK.k1 a1 a0 k false
theorem nX (k : Nat) (a0 : Int) (a1 : Int) (r : ByteArray × Int) (h : cK.f k a0 a1 = some r) : Pure Tryz.prog aI 135 #[vU a0, vI a1] (.tuple #[.string r.1, vI r.2]) := by
 intro w Z hS
 refine bh (args := [vU a0, vI a1]) (L := [(0, vU a0), (1, vI a1)]) (N := 46) Tryz.func135 hS ?_
 have hM := h
 clear h hS
 unfold cK.f at hM
 refine WP.seq ?_
 refine WP.rn [] [(4, .string (⟨#[]⟩ : ByteArray)), (5, vI 0)] ?_
 refine WP.seq (WP.seq (WP.region (WL.rn 3 [] [(10, vB (decide (a1 < 1)))] ?_)))
 refine WL.bo 10 (decide (a1 < 1)) 3 [] [] (fun b' => [(13, vB (b' || (decide (a1 > 8))))]) ?_
 refine WL.rn 1 [] [(14, vB ((decide (a1 < 1)) || (decide (a1 > 8))))] ?_
 refine WL.join (σ := Bool) 10 (fun st => cK.k2 a1 a0 k st = some r) (fun st => [(0, vU a0), (1, vI a1), (4, .string (⟨#[]⟩ : ByteArray)), (5, vI 0), (24, vB st)]) (fun st => Sat w Z [] [] aI) (fun st hM => ?_) (fun K2 => ?_)
 ·
  obtain ⟨x6, rfl⟩ : ∃ y, y = st := ⟨st, rfl⟩
  replace hM : cK.k2 a1 a0 k x6 = some r := hM
  unfold cK.k2 at hM
  try dsimp only
  refine WP.done ?_
  refine WP.cond x6 rfl rfl (fun c7 => ?_) (fun c7 => ?_)
  ·replace hM := aG hM c7
   refine WP.seq ?_
   refine WP.rn [] [(4, .string (⟨#[]⟩ : ByteArray)), (5, vI 1)] ?_
   obtain rfl := oI hM
   exact WP.lY [] []
  ·replace hM := aH hM c7
   refine WP.skip (WP.seq (WP.region (WL.rn 1 [] [(25, vI a1)] ?_)))
   obtain ⟨t8, h9, hM⟩ := bind_some hM
   refine WL.makeSlice (f := (aE .u8)) (z := 0) (zv := vE 0) (i := a1) (k := .i64) (e := 5) rfl rfl rfl Nat.zero_lt_one (fun _ => rfl) rfl rfl h9 rfl rfl (fun b10 => ?_)
   refine WL.rn 1 [] [(6, .slice (some ⟨b10, 0, none⟩) t8 t8)] ?_
   refine WP.done (WP.seq (WP.seq (WP.rn [] [(28, vI (t8 : Int)), (29, vI 0)] ?_)))
   refine WP.block ?_
   refine WP.sub [0, 1, 4, 5, 6, 28, 29] (L' := [(0, vU a0), (1, vI a1), (4, .string (⟨#[]⟩ : ByteArray)), (5, vI 0), (6, .slice (some ⟨b10, 0, none⟩) t8 t8), (28, vI (t8 : Int)), (29, vI 0)]) rfl ?_
   refine WP.loop (σ := Int × (List Int)) (fun n st => cK.l3 t8 a0 a1 n st.1 st.2) r (fun st => [(0, vU a0), (1, vI a1), (4, .string (⟨#[]⟩ : ByteArray)), (5, vI 0), (6, .slice (some ⟨b10, 0, none⟩) t8 t8), (28, vI (t8 : Int)), (29, vI st.1)]) (fun st => Sat w Z [(b10, .cells (dU (aE .u8) st.2) 5 (0, 0))] [] aI) (st := (0, (List.replicate t8 0))) (fun n st hM => ?_) hM
   rcases n with _ | n
   ·exact nomatch (show (none : Option _) = some r from hM)
   obtain ⟨x17, x18⟩ := st
   replace hM : cK.l3 t8 a0 a1 (n + 1) x17 x18 = some r := hM
   rw [cK.l3] at hM
   try dsimp only
   refine WP.seq (WP.rn [] [(30, vB (decide (x17 < (t8 : Int))))] ?_)
   refine WP.seq ?_
   refine WP.cond (decide (x17 < (t8 : Int))) rfl rfl (fun c19 => ?_) (fun c19 => ?_)
   ·replace hM := aG hM c19
    refine WP.skip (WP.seq (WP.block (WP.seq (WP.rn [] [(7, vI x17), (31, vI x17)] ?_))))
    refine WP.region ?_
    refine WL.rn 8 [] [(32, .slice (some ⟨b10, 0, none⟩) t8 t8), (33, vI a1), (34, vI (i64 (a1 - 1))), (35, vI x17), (36, vI (i64 ((i64 (a1 - 1)) - x17))), (37, vU a0), (38, vI x17), (39, vI (i64 (8 * x17)))] ?_
    obtain ⟨t20, h21, hM⟩ := bind_some hM
    refine WL.val (fun _ => vG (k := .u64) (k' := .i64) (a := a0) (b := i64 (8 * x17)) rfl rfl h21) (by kernel_rfl) rfl rfl ?_
    refine WL.rn 1 [] [(41, vE (u8 t20))] ?_
    obtain ⟨t22, h23, hM⟩ := bind_some hM
    refine WL.val (fun _ => mh (i := i64 ((i64 (a1 - 1)) - x17)) (k := .i64) (b := b10) (o := 0) (n := t8) (c := t8) (e := 5) (sz := 1) rfl rfl rfl rfl (bg h23).1) (by kernel_rfl) rfl rfl ?_
    refine WL.wD (b := b10) (off := 0 + (i64 ((i64 (a1 - 1)) - x17)).toNat * 1) (e := 5) (H' := [(b10, .cells (dU (aE .u8) (List.set x18 (i64 ((i64 (a1 - 1)) - x17)).toNat (u8 t20))) 5 (0, 0))]) (v := vE (u8 t20)) (u := vE t22) 0 (fun _ => by kernel_rfl) rfl rfl rfl rfl rfl rfl (yd (f := (aE .u8)) (m := 1) (fun _ => rfl) Nat.zero_lt_one h23) (wQ (f := (aE .u8)) (m := 1) (x' := u8 t20) (fun _ => rfl) Nat.zero_lt_one h23 rfl) rfl rfl ?_
    refine WP.done (WP.leave (WP.rn [] [(29, vI (i64 (x17 + 1))), (43, vI (i64 (x17 + 1)))] ?_))
    exact WP.cN [0, 1, 4, 5, 6, 28, 29] (i64 (x17 + 1), (List.set x18 (i64 ((i64 (a1 - 1)) - x17)).toNat (u8 t20))) hM rfl (fun _ h => h.pick [0] rfl)
   ·replace hM := aH hM c19
    refine WP.exit rfl (WP.seq (WP.region ?_))
    refine WL.rn 1 [] [(44, .slice (some ⟨b10, 0, none⟩) t8 t8)] ?_
    obtain ⟨t24, h25, hM⟩ := bind_some hM
    refine WL.cZ (b := b10) (n := t8) (c := t8) (xs := x18) (e0 := 5) (fr := (0, 0)) 0 (e := 5) rfl rfl rfl rfl rfl rfl h25 rfl rfl ?_
    refine WL.rn 2 [] [(4, .string t24), (5, vI 0)] ?_
    refine WP.done (WP.kp [false] ?_)
    obtain rfl := oI hM
    exact WP.lY [] []
 ·
  refine WL.sp 14 ((decide (a1 < 1)) || (decide (a1 > 8))) (fun c1 => ?_) (fun c1 => ?_)
  ·replace hM := aG hM c1
   refine WL.rn 10 [] [(24, vB true)] ?_
   exact WL.sub [0, 1, 4, 5, 24] rfl (WL.pick [] rfl rfl (K2 true hM))
  ·replace hM := aH hM c1
   refine WL.rn 3 [] [(17, vB (decide (a1 < 8)))] ?_
   refine WL.join (σ := Bool) 6 (fun st => cK.k1 a1 a0 k st = some r) (fun st => [(0, vU a0), (1, vI a1), (4, .string (⟨#[]⟩ : ByteArray)), (5, vI 0), (14, vB false), (23, vB st)]) (fun st => Sat w Z [] [] aI) (fun st hM => ?_) (fun K1 => ?_)
   ·
    obtain ⟨x5, rfl⟩ : ∃ y, y = st := ⟨st, rfl⟩
    replace hM : cK.k1 a1 a0 k x5 = some r := hM
    unfold cK.k1 at hM
    try dsimp only
    refine WL.rn 1 [] [(24, vB x5)] ?_
    exact WL.sub [0, 1, 4, 5, 24] rfl (WL.pick [] rfl rfl (K2 x5 hM))
   ·
    refine WL.sp 17 (decide (a1 < 8)) (fun c2 => ?_) (fun c2 => ?_)
    ·replace hM := aG hM c2
     refine WL.rn 3 [] [(18, vU a0), (20, vI (i64 (8 * a1)))] ?_
     obtain ⟨t3, h4, hM⟩ := bind_some hM
     refine WL.val (fun _ => vG (k := .u64) (k' := .i64) (a := a0) (b := i64 (8 * a1)) rfl rfl h4) (by kernel_rfl) rfl rfl ?_
     refine WL.rn 2 [] [(23, vB (t3 != 0))] ?_
     exact WL.sub [0, 1, 4, 5, 14, 23] rfl (WL.pick [] rfl rfl (K1 (t3 != 0) hM))
    ·replace hM := aH hM c2
     refine WL.rn 6 [] [(23, vB false)] ?_
     exact WL.sub [0, 1, 4, 5, 14, 23] rfl (WL.pick [] rfl rfl (K1 false hM))
def fi.l1 (a0 : (List bN)) (k : Nat) : Nat → Int → ByteArray → Option (ByteArray)
 | 0, _, _ => none
 | n + 1, x12, x13 =>
  bif decide (x12 < (a0.length : Int)) then
   (cI a0.length a0 x12).bind fun t15 =>
   (cK.f k t15.v t15.n).bind fun (r18, r19) =>
   (CI x13 r18).bind fun t21 =>
   fi.l1 a0 k n (i64 (x12 + 1)) t21
  else
   some x13
def fi.f (k : Nat) (a0 : (List bN)) : Option (ByteArray) :=
 fi.l1 a0 k k 0 (⟨#[]⟩ : ByteArray)
theorem ov (k : Nat) (A00 : av Unit) (a0 : (List bN)) (r : ByteArray) (h : fi.f k a0 = some r) : Pure Tryz.prog ([Row 2 (pl bN.enc) aA A00 a0] ++ aI) 297 #[ae A00 a0.length] (.string r) := by
 intro w Z hS'
 obtain ⟨Z0, hz, hS, hback⟩ := Sat.FI hS'
 refine Calls.mono (R := fun e w' => e = .returned (.string r) ∧ Sat w Z0 [] [] ([Row 2 (pl bN.enc) aA A00 a0] ++ aI) w') ?_ (fun e w' ⟨a, b⟩ => ⟨a, hback w' b⟩)
 refine bh (args := [ae A00 a0.length]) (L := [(0, ae A00 a0.length)]) (N := 26) Tryz.func297 hS ?_
 have hM := h
 clear h
 unfold fi.f at hM
 refine WP.seq ?_
 refine WP.rn [] [(2, .string (⟨#[]⟩ : ByteArray))] ?_
 refine WP.seq ?_
 refine WP.rh [] (fun b1 => [(3, vP b1 0)]) (fun b1 => []) (fun b1 => [(b1, .cells #[.pointer none, .slice none 0 0] 561 (0, 0))]) (fun b1 => ?_)
 refine WP.CJ (T := 561) (e := 5) hz hS ?_
 refine WP.seq (WP.seq (WP.rn [] [(8, ae A00 a0.length), (9, vI (a0.length : Int)), (10, vI 0)] ?_))
 refine WP.block ?_
 refine WP.sub [2, 3, 8, 9, 10] (L' := [(2, .string (⟨#[]⟩ : ByteArray)), (3, vP b1 0), (8, ae A00 a0.length), (9, vI (a0.length : Int)), (10, vI 0)]) rfl ?_
 refine WP.aQ [0] (F' := [Row 2 (pl bN.enc) aA A00 a0]) rfl ?_
 refine WP.loop (σ := Int × ByteArray) (fun n st => fi.l1 a0 k n st.1 st.2) r (fun st => [(2, .string (⟨#[]⟩ : ByteArray)), (3, vP b1 0), (8, ae A00 a0.length), (9, vI (a0.length : Int)), (10, vI st.1)]) (fun st => Sat w Z0 [] [xv 561 5 w.heap.size b1 st.2] ([Row 2 (pl bN.enc) aA A00 a0] ++ aI)) (st := (0, (⟨#[]⟩ : ByteArray))) (fun n st hM => ?_) hM
 rcases n with _ | n
 ·exact nomatch (show (none : Option _) = some r from hM)
 obtain ⟨x12, x13⟩ := st
 replace hM : fi.l1 a0 k (n + 1) x12 x13 = some r := hM
 rw [fi.l1] at hM
 try dsimp only
 refine WP.seq (WP.rn [] [(11, vB (decide (x12 < (a0.length : Int))))] ?_)
 refine WP.seq ?_
 refine WP.cond (decide (x12 < (a0.length : Int))) rfl rfl (fun c14 => ?_) (fun c14 => ?_)
 ·replace hM := aG hM c14
  refine WP.skip (WP.seq (WP.block (WP.seq (WP.region ?_))))
  obtain ⟨t15, h16, hM⟩ := bind_some hM
  refine WL.cd (φ := Row 2 (pl bN.enc) aA A00 a0) (ar 0 rfl) (fun w hR => aJ (A := A00) (xs := a0) (i := x12) (k := .i64) (e := 532) (m := 2) rfl rfl h16 rfl rfl hR) (by kernel_rfl) rfl rfl ?_
  refine WL.cd (φ := Row 2 (pl bN.enc) aA A00 a0) (ar 0 rfl) (fun w hR => b4 (A := A00) (xs := a0) (i := x12) (j := 0) (n := 2) (vs := [vU t15.v, vI t15.n]) h16 (fun _ => by kernel_rfl) rfl rfl rfl rfl hR) (by kernel_rfl) rfl rfl ?_
  refine WL.rh 2 [0, 0] (fun b17 => [(5, vP b17 0)]) (fun b17 => []) (fun b17 => [(b17, bN.o t15)]) (fun b17 => ?_)
  refine WP.done (WP.seq (WP.region ?_))
  refine WL.rn 4 [0, 0] [(15, vP b17 0), (16, vU t15.v), (17, vP b17 1), (18, vI t15.n)] ?_
  obtain ⟨⟨r18, r19⟩, h20, hM⟩ := bind_some hM
  dsimp only at hM
  refine WL.cQ [] [] (nX k t15.v t15.n _ h20) (fun _ h => List.mem_append_right _ h) (by kernel_rfl) rfl rfl ?_
  refine WL.rn 5 [] [(6, .string r18), (14, .tuple #[.string r18, vI r19]), (20, .string r18), (21, vI r19)] ?_
  refine WP.done (WP.region (WL.rn 1 [] [(22, .string r18)] ?_))
  refine WL.kp [false] ?_
  obtain ⟨t21, h22, hM⟩ := bind_some hM
  refine WL.ze nG.z6 nG.extra hz hS [] [] x13 r18 t21 (by kernel_rfl) h22 rfl rfl ?_
  refine WP.done (WP.leave (WP.rn [] [(10, vI (i64 (x12 + 1))), (24, vI (i64 (x12 + 1)))] ?_))
  exact WP.cN [2, 3, 8, 9, 10] (i64 (x12 + 1), t21) hM rfl (fun _ h => ((h.pick [] rfl).aQ [0] rfl).dE [0] [] 1 rfl (by decide) rfl)
 ·replace hM := aH hM c14
  refine WP.exit rfl (WP.seq (WP.region (WL.xp nG.zZ nG.extra hz hS [] [] x13 (by kernel_rfl) rfl rfl ?_)))
  refine WL.rn 1 [] [(2, .string x13)] ?_
  refine WP.done ?_
  obtain rfl := oI hM
  exact WP.dI [] [] [0]
def qL.f (k : Nat) (a0 : gB) : Option (ByteArray) :=
 (fi.f k ([(bN.mk (u64 a0.Op) 2), (bN.mk (Int.tmod a0.vp 281474976710656) 6), (bN.mk (u64 a0.CP) 4), (bN.mk (Int.tmod a0.vo 281474976710656) 6), (bN.mk (u64 a0.CM) 4)] : List bN)).bind fun r3 =>
 (CB (⟨#[0, 1, 8, 0, 6, 4]⟩ : ByteArray) r3).bind fun t5 =>
 some t5
theorem qK (k : Nat) (a0 : gB) (r : ByteArray) (h : qL.f k a0 = some r) : Pure Tryz.prog aI 248 #[gB.v a0] (.string r) := by
 intro w Z hS
 refine bh (args := [gB.v a0]) (L := [(0, gB.v a0)]) (N := 26) Tryz.func248 hS ?_
 have hM := h
 clear h hS
 unfold qL.f at hM
 refine WP.less (Φ' := [] ++ aI) (fun _ h => h) ?_
 refine WP.seq ?_
 refine WP.rh [] (fun b1 => [(1, vP b1 0), (2, .string (⟨#[]⟩ : ByteArray))]) (fun b1 => []) (fun b1 => [(b1, gB.o a0)]) (fun b1 => ?_)
 refine WP.seq (WP.region ?_)
 refine WL.rh 21 [0, 0, 0, 0, 0] (fun b2 => [(23, .slice (some ⟨b2, 0, none⟩) 5 5)]) (fun b2 => []) (fun b2 => [(b2, .cells #[vU (u64 a0.Op), vI 2, vU (Int.tmod a0.vp 281474976710656), vI 6, vU (u64 a0.CP), vI 4, vU (Int.tmod a0.vo 281474976710656), vI 6, vU (u64 a0.CM), vI 4] 532 (0, 0))]) (fun b2 => ?_)
 refine WL.tW (H' := [(b1, gB.o a0)]) (Row 2 (pl bN.enc) aA (av.at b2 5 (fun _ => ())) ([(bN.mk (u64 a0.Op) 2), (bN.mk (Int.tmod a0.vp 281474976710656) 6), (bN.mk (u64 a0.CP) 4), (bN.mk (Int.tmod a0.vo 281474976710656) 6), (bN.mk (u64 a0.CM) 4)] : List bN)) 1 (b := b2) (ob := .cells #[vU (u64 a0.Op), vI 2, vU (Int.tmod a0.vp 281474976710656), vI 6, vU (u64 a0.CP), vI 4, vU (Int.tmod a0.vo 281474976710656), vI 6, vU (u64 a0.CM), vI 4] 532 (0, 0)) rfl [] [] rfl (fun w hb hψ => cl hb (fun _ _ => rfl) ⟨[], by kernel_rfl⟩ (nB rfl) (jj.no _ _)) rfl ?_
 obtain ⟨r3, h4, hM⟩ := bind_some hM
 refine WL.cQ [] [] (ov k (av.at b2 5 (fun _ => ())) ([(bN.mk (u64 a0.Op) 2), (bN.mk (Int.tmod a0.vp 281474976710656) 6), (bN.mk (u64 a0.CP) 4), (bN.mk (Int.tmod a0.vo 281474976710656) 6), (bN.mk (u64 a0.CM) 4)] : List bN) _ h4) (bE [0] rfl) (by kernel_rfl) rfl rfl ?_
 obtain ⟨t5, h6, hM⟩ := bind_some hM
 refine WL.val (fun _ => xZ (a := (⟨#[0, 1, 8, 0, 6, 4]⟩ : ByteArray)) (b := r3) rfl rfl h6) (by kernel_rfl) rfl rfl ?_
 refine WL.rn 1 [] [(2, .string t5)] ?_
 refine WP.done (WP.kp [false] ?_)
 obtain rfl := oI hM
 exact WP.ret [] [] (.string t5) (by kernel_rfl) (fun w' hw => ⟨rfl, (hw.pick [] rfl).less (fun _ h => List.mem_append_right _ h)⟩)
def fz.f (a0 : Int) : Option (Int × Int) :=
 bif ((decide (a0 < 1)) || (decide (a0 > 4096))) then
  none
 else
  some (a0, 0)
theorem nI (a0 : Int) (r : Int × Int) (h : fz.f a0 = some r) : eT Tryz.prog 14 #[vI a0] [] ([] ++ aI) (fun x : Nat => .tuple #[vP x 0, vI r.2]) (fun x => [(x, .cells #[.slice none 0 0, vI r.1] 93 (0, 0))]) (fun _ => []) (fun x => [] ++ ([] ++ aI)) := by
 intro w Z hS
 refine bh (args := [vI a0]) (L := [(0, vI a0)]) (N := 13) Tryz.func14 hS ?_
 have hM := h
 clear h hS
 unfold fz.f at hM
 refine WP.seq (WP.rn [] [(2, .pointer none), (3, vI 0)] ?_)
 refine WP.seq (WP.seq (WP.region (WL.rn 3 [] [(6, vB (decide (a0 < 1)))] ?_)))
 refine WL.bo 6 (decide (a0 < 1)) 3 [] [] (fun b' => [(9, vB (b' || (decide (a0 > 4096))))]) ?_
 refine WP.done ?_
 refine WP.cond ((decide (a0 < 1)) || (decide (a0 > 4096))) rfl rfl (fun c1 => ?_) (fun c1 => ?_)
 ·replace hM := aG hM c1
  refine WP.seq (WP.rn [] [(2, .pointer none), (3, vI 1)] ?_)
  exact absurd hM (by simp)
 ·replace hM := aH hM c1
  refine WP.skip (WP.seq ?_)
  refine WP.rh [] (fun b2 => [(2, vP b2 0), (3, vI 0)]) (fun b2 => []) (fun b2 => [(b2, .cells #[.slice none 0 0, vI a0] 93 (0, 0))]) (fun b2 => ?_)
  obtain rfl := oI hM
  exact WP.ret [] [] (.tuple #[vP b2 0, vI 0]) (by kernel_rfl) (fun w' hw => ⟨b2, rfl, (hw.pick [0] rfl).less (aT [] [] rfl rfl)⟩)
def cP.l1 (a0 : (List ah)) (k : Nat) (r4 : Int) : Nat → Int → Int → (List Unit) → (List Int) → Option ((List Unit) × (List Int) × (List ax) × Int × Int × Int × Int)
 | 0, _, _, _, _ => none
 | n + 1, x28, x29, x30, x32 =>
  bif decide (x29 < (a0.length : Int)) then
   (cI a0.length a0 x29).bind fun t35 =>
   (eM.f k t35.aK t35.bx t35.Ip t35.aX t35.bt t35.bz t35.aO t35.cj t35.cm t35.a7 t35.cT t35.bu).bind fun r38 =>
   bif (r38 != 0) then
    none
   else
    (ey 8 (x30 ++ ([()] : List Unit)).length).bind fun u44 =>
    (ey 8 (x32 ++ ([t35.bx] : List Int)).length).bind fun u48 =>
    cP.l1 a0 k r4 n x28 (i64 (x29 + 1)) (x30 ++ ([()] : List Unit)) (x32 ++ ([t35.bx] : List Int))
  else
   some (x30, x32, ([] : List ax), r4, 0, 0, 0)
def cP.f (k : Nat) (a0 : (List ah)) (a1 : Int) : Option ((List Unit) × (List Int) × (List ax) × Int × Int × Int × Int) :=
 (bm.f k a0).bind fun r1 =>
 bif (r1 != 0) then
  none
 else
  (fz.f a1).bind fun (r4, r5) =>
  bif (r5 != 0) then
   none
  else
   cP.l1 a0 k r4 k 0 0 ([] : List Unit) ([] : List Int)
theorem mY (k : Nat) (A00 : av ((av (av Unit)) × (av Unit) × (av (av Unit)) × (av Unit))) (a0 : (List ah)) (a1 : Int) (r : (List Unit) × (List Int) × (List ax) × Int × Int × Int × Int) (h : cP.f k a0 a1 = some r) : eT Tryz.prog 4 #[ae A00 a0.length, vI a1] [] ([Row 21 ah.au ah.aN A00 a0] ++ aI) (fun x : (Nat × (av (Option Addr)) × (av Unit) × Nat × (av Unit)) => .tuple #[vP x.1 0, vI r.2.2.2.2.2.2]) (fun x => [(x.1, .cells #[ae x.2.1 r.1.length, ae x.2.2.1 r.2.1.length, vP x.2.2.2.1 0, vI r.2.2.2.2.1, vI r.2.2.2.2.2.1] 48 (0, 0)), (x.2.2.2.1, .cells #[ae x.2.2.2.2 r.2.2.1.length, vI r.2.2.2.1] 93 (0, 0))]) (fun _ => []) (fun x => [Row 1 eQ gi x.2.1 r.1, Row 1 (pl (aE .u64)) aA x.2.2.1 r.2.1, Row 2 (pl ax.enc) aA x.2.2.2.2 r.2.2.1] ++ ([Row 21 ah.au ah.aN A00 a0] ++ aI)) := by
 intro w Z hS
 refine bh (args := [ae A00 a0.length, vI a1]) (L := [(0, ae A00 a0.length), (1, vI a1)]) (N := 67) Tryz.func4 hS ?_
 have hM := h
 clear h hS
 unfold cP.f at hM
 refine WP.seq (WP.rn [] [(4, .pointer none), (5, vI 0)] ?_)
 refine WP.seq (WP.seq (WP.region (WL.rn 1 [] [(14, ae A00 a0.length)] ?_)))
 obtain ⟨r1, h2, hM⟩ := bind_some hM
 refine WL.cQ [] [] (jb k A00 a0 _ h2) (bE [0] rfl) (by kernel_rfl) rfl rfl ?_
 refine WL.rn 1 [] [(6, vI r1)] ?_
 refine WP.done (WP.seq (WP.rn [] [(17, vB (r1 != 0))] ?_))
 refine WP.cond (r1 != 0) rfl rfl (fun c3 => ?_) (fun c3 => ?_)
 ·replace hM := aG hM c3
  refine WP.seq (WP.rn [] [(4, .pointer none), (5, vI r1)] ?_)
  exact absurd hM (by simp)
 ·replace hM := aH hM c3
  refine WP.skip (WP.seq (WP.region (WL.rn 1 [] [(20, vI a1)] ?_)))
  obtain ⟨⟨r4, r5⟩, h6, hM⟩ := bind_some hM
  dsimp only at hM
  refine WL.c0 (F0 := []) [] [] [] (fun _ => _) [] rfl (nI a1 _ h6) rfl rfl (by kernel_rfl) rfl (fun _ => rfl) (fun A7 => ?_)
  refine WL.rn 5 [] [(7, vP A7 0), (8, vI r5)] ?_
  refine WP.done (WP.seq (WP.seq (WP.rn [] [(25, vB (r5 != 0))] ?_)))
  refine WP.cond (r5 != 0) rfl rfl (fun c8 => ?_) (fun c8 => ?_)
  ·replace hM := aG hM c8
   refine WP.seq (WP.rn [] [(4, .pointer none), (5, vI r5)] ?_)
   exact absurd hM (by simp)
  ·replace hM := aH hM c8
   refine WP.skip (WP.seq ?_)
   refine WP.rh [] (fun b9 => [(9, vP b9 0)]) (fun b9 => []) (fun b9 => [(b9, .cells #[.slice none 0 0, .slice none 0 0, vP A7 0, vI 0, vI 0] 48 (0, 0))]) (fun b9 => ?_)
   refine WP.seq (WP.seq (WP.rn [] [(30, ae A00 a0.length), (31, vI (a0.length : Int)), (32, vI 0)] ?_))
   refine WP.block ?_
   refine WP.fH 1 61 eQ gi (fun _ => (none : Option Addr)) ?_
   skip
   refine WP.fH 1 49 (pl (aE .u64)) aA (fun _ => ()) ?_
   skip
   refine WP.sub [5, 9, 30, 31, 32] (L' := [(5, vI 0), (9, vP b9 0), (30, ae A00 a0.length), (31, vI (a0.length : Int)), (32, vI 0)]) rfl ?_
   refine WP.aQ [1, 0, 0, 1, 2] (F' := [bC gi (av.nil (fun _ => (none : Option Addr))) ([] : List Unit), bC aA (av.nil (fun _ => ())) ([] : List Int), bC aA (av.nil (fun _ => ())) ([] : List Int), bC gi (av.nil (fun _ => (none : Option Addr))) ([] : List Unit), Row 21 ah.au ah.aN A00 a0]) rfl ?_
   refine WP.dE (G' := [bL 1 61 eQ (av.nil (fun _ => (none : Option Addr))) ([] : List Unit), bL 1 49 (pl (aE .u64)) (av.nil (fun _ => ())) ([] : List Int)]) [1, 0] [] 2 rfl (by decide) rfl ?_
   refine WP.loop (σ := Int × Int × (List Unit) × av (Option Addr) × (List Int) × av Unit) (fun n st => cP.l1 a0 k r4 n st.1 st.2.1 st.2.2.1 st.2.2.2.2.1) r (fun st => [(5, vI st.1), (9, vP b9 0), (30, ae A00 a0.length), (31, vI (a0.length : Int)), (32, vI st.2.1)]) (fun st => Sat w Z [(A7, .cells #[.slice none 0 0, vI r4] 93 (0, 0)), (b9, .cells #[ae st.2.2.2.1 st.2.2.1.length, ae st.2.2.2.2.2 st.2.2.2.2.1.length, vP A7 0, vI 0, vI 0] 48 (0, 0))] [bL 1 61 eQ st.2.2.2.1 st.2.2.1, bL 1 49 (pl (aE .u64)) st.2.2.2.2.2 st.2.2.2.2.1] ([bC gi st.2.2.2.1 st.2.2.1, bC aA st.2.2.2.2.2 st.2.2.2.2.1, bC aA (av.nil (fun _ => ())) ([] : List Int), bC gi (av.nil (fun _ => (none : Option Addr))) ([] : List Unit), Row 21 ah.au ah.aN A00 a0] ++ aI)) (st := (0, 0, ([] : List Unit), (av.nil (fun _ => (none : Option Addr))), ([] : List Int), (av.nil (fun _ => ())))) (fun n st hM => ?_) hM
   rcases n with _ | n
   ·exact nomatch (show (none : Option _) = some r from hM)
   obtain ⟨x28, x29, x30, A31, x32, A33⟩ := st
   replace hM : cP.l1 a0 k r4 (n + 1) x28 x29 x30 x32 = some r := hM
   rw [cP.l1] at hM
   try dsimp only
   refine WP.seq (WP.rn [] [(33, vB (decide (x29 < (a0.length : Int))))] ?_)
   refine WP.seq ?_
   refine WP.cond (decide (x29 < (a0.length : Int))) rfl rfl (fun c34 => ?_) (fun c34 => ?_)
   ·replace hM := aG hM c34
    refine WP.skip (WP.seq (WP.block (WP.seq (WP.region ?_))))
    obtain ⟨t35, h36, hM⟩ := bind_some hM
    refine WL.cd (φ := Row 21 ah.au ah.aN A00 a0) (ar 4 rfl) (fun w hR => aJ (A := A00) (xs := a0) (i := x29) (k := .i64) (e := 60) (m := 21) rfl rfl h36 rfl rfl hR) (by kernel_rfl) rfl rfl ?_
    refine WL.cd (φ := Row 21 ah.au ah.aN A00 a0) (ar 4 rfl) (fun w hR => b4 (A := A00) (xs := a0) (i := x29) (j := 0) (n := 21) (vs := [vU t35.aK, vU t35.bx, vT t35.Ip, ae ((A00.s (Int.toNat x29)).1) t35.aX.length, ae ((A00.s (Int.toNat x29)).2.1) t35.bt.length, vI t35.bz.Room, vI t35.bz.aY, vI t35.bz.a8, vI t35.bz.aR, vU t35.aO.bx, vT t35.aO.Ip, vI t35.aO.Room, vI t35.aO.aY, vI t35.aO.cp, vI t35.aO.br, vI t35.aO.bn, vI t35.cj, ae ((A00.s (Int.toNat x29)).2.2.1) t35.cm.length, ae ((A00.s (Int.toNat x29)).2.2.2) t35.a7.length, vI t35.cT, vB t35.bu]) h36 (fun _ => by kernel_rfl) rfl rfl rfl rfl hR) (by kernel_rfl) rfl rfl ?_
    refine WL.ez (Row 3 aa.au aa.aN ((A00.s (Int.toNat x29)).1) t35.aX) [4] [Row 21 ah.au ah.aN A00 a0] rfl (fun w hψ => ((hψ _ (List.mem_singleton.2 rfl)).inner _ _ (bg h36).2).1) ?_
    refine WL.ez (Row 1 (pl ca) aA ((A00.s (Int.toNat x29)).2.1) t35.bt) [5] [Row 21 ah.au ah.aN A00 a0] rfl (fun w hψ => ((hψ _ (List.mem_singleton.2 rfl)).inner _ _ (bg h36).2).2.1) ?_
    refine WL.ez (Row 3 ag.au ag.aN ((A00.s (Int.toNat x29)).2.2.1) t35.cm) [6] [Row 21 ah.au ah.aN A00 a0] rfl (fun w hψ => ((hψ _ (List.mem_singleton.2 rfl)).inner _ _ (bg h36).2).2.2.1) ?_
    refine WL.ez (Row 3 (pl aj.enc) aA ((A00.s (Int.toNat x29)).2.2.2) t35.a7) [7] [Row 21 ah.au ah.aN A00 a0] rfl (fun w hψ => ((hψ _ (List.mem_singleton.2 rfl)).inner _ _ (bg h36).2).2.2.2) ?_
    refine WL.rh 2 [2, 2, 2, 2, 2, 2, 2, 2, 2, 2, 2, 2, 2, 2, 2, 2, 2, 2, 2, 2, 2] (fun b37 => [(11, vP b37 0)]) (fun b37 => []) (fun b37 => [(b37, .cells #[vU t35.aK, vU t35.bx, vT t35.Ip, ae ((A00.s (Int.toNat x29)).1) t35.aX.length, ae ((A00.s (Int.toNat x29)).2.1) t35.bt.length, vI t35.bz.Room, vI t35.bz.aY, vI t35.bz.a8, vI t35.bz.aR, vU t35.aO.bx, vT t35.aO.Ip, vI t35.aO.Room, vI t35.aO.aY, vI t35.aO.cp, vI t35.aO.br, vI t35.aO.bn, vI t35.cj, ae ((A00.s (Int.toNat x29)).2.2.1) t35.cm.length, ae ((A00.s (Int.toNat x29)).2.2.2) t35.a7.length, vI t35.cT, vB t35.bu] 60 (0, 0))]) (fun b37 => ?_)
    refine WP.done (WP.seq (WP.region (WL.rn 1 [2, 2, 2, 2, 2, 2, 2, 2, 2, 2, 2, 2, 2, 2, 2, 2, 2, 2, 2, 2, 2] [(37, .agg #[vU t35.aK, vU t35.bx, vT t35.Ip, ae ((A00.s (Int.toNat x29)).1) t35.aX.length, ae ((A00.s (Int.toNat x29)).2.1) t35.bt.length, vI t35.bz.Room, vI t35.bz.aY, vI t35.bz.a8, vI t35.bz.aR, vU t35.aO.bx, vT t35.aO.Ip, vI t35.aO.Room, vI t35.aO.aY, vI t35.aO.cp, vI t35.aO.br, vI t35.aO.bn, vI t35.cj, ae ((A00.s (Int.toNat x29)).2.2.1) t35.cm.length, ae ((A00.s (Int.toNat x29)).2.2.2) t35.a7.length, vI t35.cT, vB t35.bu])] ?_)))
    obtain ⟨r38, h39, hM⟩ := bind_some hM
    refine WL.c0 (F0 := [Row 3 aa.au aa.aN ((A00.s (Int.toNat x29)).1) t35.aX, Row 1 (pl ca) aA ((A00.s (Int.toNat x29)).2.1) t35.bt, Row 3 ag.au ag.aN ((A00.s (Int.toNat x29)).2.2.1) t35.cm, Row 3 (pl aj.enc) aA ((A00.s (Int.toNat x29)).2.2.2) t35.a7]) [] [] [false, false, false] (fun _ => _) [3, 2, 1, 0] rfl (kW k ((A00.s (Int.toNat x29)).1) ((A00.s (Int.toNat x29)).2.1) ((A00.s (Int.toNat x29)).2.2.1) ((A00.s (Int.toNat x29)).2.2.2) t35.aK t35.bx t35.Ip t35.aX t35.bt t35.bz t35.aO t35.cj t35.cm t35.a7 t35.cT t35.bu _ h39) rfl rfl (by kernel_rfl) rfl (fun _ => rfl) (fun A40 => ?_)
    refine WL.rn 5 [] [(12, .pointer A40), (13, vI r38), (36, .tuple #[.pointer A40, vI r38]), (39, .pointer A40), (40, vI r38)] ?_
    refine WP.done (WP.seq (WP.seq (WP.rn [] [(41, vI r38), (42, vB (r38 != 0))] ?_)))
    refine WP.cond (r38 != 0) rfl rfl (fun c41 => ?_) (fun c41 => ?_)
    ·replace hM := aG hM c41
     refine WP.seq (WP.rn [] [(4, .pointer none), (5, vI r38), (43, vI r38)] ?_)
     exact absurd hM (by simp)
    ·replace hM := aH hM c41
     refine WP.skip ?_
     obtain ⟨u44, h43, hM⟩ := bind_some hM
     obtain ⟨u48, h47, hM⟩ := bind_some hM
     refine WP.rs [5, 9, 11, 12, 13, 30, 31, 32, 33, 34, 35, 36, 37, 38, 39, 40, 41, 42] ?_
     refine WP.fB (X := (Nat × (av (Option Addr)) × Nat × (av Unit))) 23 11 [⟨0, 23, fun _ => [(A7, .cells #[.slice none 0 0, vI r4] 93 (0, 0))], fun _ => []⟩, ⟨0, 19, fun _ => [(b9, .cells #[ae A31 x30.length, ae A33 x32.length, vP A7 0, vI 0, vI 0] 48 (0, 0))], fun _ => []⟩, ⟨0, 23, fun _ => [(b37, .cells #[vU t35.aK, vU t35.bx, vT t35.Ip, ae ((A00.s (Int.toNat x29)).1) t35.aX.length, ae ((A00.s (Int.toNat x29)).2.1) t35.bt.length, vI t35.bz.Room, vI t35.bz.aY, vI t35.bz.a8, vI t35.bz.aR, vU t35.aO.bx, vT t35.aO.Ip, vI t35.aO.Room, vI t35.aO.aY, vI t35.aO.cp, vI t35.aO.br, vI t35.aO.bn, vI t35.cj, ae ((A00.s (Int.toNat x29)).2.2.1) t35.cm.length, ae ((A00.s (Int.toNat x29)).2.2.2) t35.a7.length, vI t35.cT, vB t35.bu] 60 (0, 0))], fun _ => []⟩, ⟨0, 8, fun _ => [], fun _ => [bL 1 61 eQ A31 x30]⟩, ⟨0, 16, fun _ => [], fun _ => [bL 1 49 (pl (aE .u64)) A33 x32]⟩, ⟨8, 8, fun ξ => [((ξ 7).1, .cells #[.pointer A40] 61 (0, 0))], fun ξ => []⟩, ⟨9, 23, fun ξ => [], fun ξ => [bL 1 61 eQ (ξ 8).2.1 (x30 ++ ([()] : List Unit))]⟩, ⟨16, 16, fun ξ => [((ξ 15).2.2.1, .cells #[vU t35.bx] 49 (0, 0))], fun ξ => []⟩, ⟨17, 23, fun ξ => [], fun ξ => [bL 1 49 (pl (aE .u64)) (ξ 16).2.2.2 (x32 ++ ([t35.bx] : List Int))]⟩, ⟨20, 22, fun ξ => [(b9, .cells #[ae (ξ 8).2.1 (x30 ++ ([()] : List Unit)).length, ae A33 x32.length, vP A7 0, vI 0, vI 0] 48 (0, 0))], fun ξ => []⟩, ⟨23, 23, fun ξ => [(b9, .cells #[ae (ξ 8).2.1 (x30 ++ ([()] : List Unit)).length, ae (ξ 16).2.2.2 (x32 ++ ([t35.bx] : List Int)).length, vP A7 0, vI 0, vI 0] 48 (0, 0))], fun ξ => []⟩] [⟨[], [], [], [], [], fun _ => vP b9 0, fun _ => []⟩, ⟨[], [], [], [], [], fun _ => vP b9 0, fun _ => []⟩, ⟨[], [], [], [], [], fun _ => vP b9 0, fun _ => []⟩, ⟨[2], [], [], [], [], fun _ => vP b9 0, fun _ => []⟩, ⟨[2, 3], [], [], [], [], fun _ => vP b9 0, fun _ => []⟩, ⟨[2, 3, 4], [1], [1], [], [], fun _ => ae A31 x30.length, fun _ => []⟩, ⟨[], [], [], [], [], fun _ => .pointer A40, fun _ => []⟩, ⟨[6], [], [5], [], [], fun ξ => .slice (some ⟨(ξ 7).1, 0, none⟩) 1 1, fun ξ => []⟩, ⟨[2, 3, 4, 5, 6, 7], [5, 3], [6], [7], [], fun ξ => ae (ξ 8).2.1 (x30 ++ ([()] : List Unit)).length, fun ξ => [bC gi (ξ 8).2.1 (x30 ++ ([()] : List Unit)), Row 1 eQ gi (av.at (ξ 7).1 1 (fP [A40] (none : Option Addr))) ([()] : List Unit)]⟩, ⟨[], [], [], [], [], fun _ => vP b9 0, fun _ => []⟩, ⟨[9], [], [], [], [], fun _ => vP b9 0, fun _ => []⟩, ⟨[9, 10], [], [], [], [], fun _ => vP b9 1, fun _ => []⟩, ⟨[9, 10, 11], [1], [1], [], [], fun _ => ae A33 x32.length, fun _ => []⟩, ⟨[], [], [], [], [], fun _ => vP b37 1, fun _ => []⟩, ⟨[13], [2], [2], [], [], fun _ => vU t35.bx, fun _ => []⟩, ⟨[13, 14], [], [7], [], [], fun ξ => .slice (some ⟨(ξ 15).2.2.1, 0, none⟩) 1 1, fun ξ => []⟩, ⟨[2, 3, 4, 5, 6, 7, 8, 9, 10, 11, 12, 13, 14, 15], [7, 4], [8], [15], [], fun ξ => ae (ξ 16).2.2.2 (x32 ++ ([t35.bx] : List Int)).length, fun ξ => [bC aA (ξ 16).2.2.2 (x32 ++ ([t35.bx] : List Int)), Row 1 (pl (aE .u64)) aA (av.at (ξ 15).2.2.1 1 (fun _ => ())) ([t35.bx] : List Int)]⟩, ⟨[0, 2, 3, 4, 5, 6, 7, 8, 9, 10, 11, 12, 13, 14, 15, 16], [], [], [], [], fun _ => vP b9 0, fun _ => []⟩, ⟨[0, 2, 3, 4, 5, 6, 7, 8, 9, 10, 11, 12, 13, 14, 15, 16, 17], [], [], [], [], fun _ => vP b9 0, fun _ => []⟩, ⟨[0, 2, 3, 4, 5, 6, 7, 8, 9, 10, 11, 12, 13, 14, 15, 16, 17, 18], [1], [9], [8], [], fun _ => .tuple #[], fun _ => []⟩, ⟨[0, 1, 2, 3, 4, 5, 6, 7, 8, 9, 10, 11, 12, 13, 14, 15, 16, 17, 18, 19], [], [], [], [], fun _ => vP b9 0, fun _ => []⟩, ⟨[0, 1, 2, 3, 4, 5, 6, 7, 8, 9, 10, 11, 12, 13, 14, 15, 16, 17, 18, 19, 20], [], [], [], [], fun _ => vP b9 1, fun _ => []⟩, ⟨[0, 1, 2, 3, 4, 5, 6, 7, 8, 9, 10, 11, 12, 13, 14, 15, 16, 17, 18, 19, 20, 21], [9], [10], [8, 16], [], fun _ => .tuple #[], fun _ => []⟩] (fun ξ => [(44, vP b9 0), (45, vP b9 0), (46, vP b9 0), (47, vP b9 0), (48, vP b9 0), (50, .pointer A40), (52, ae (ξ 8).2.1 (x30 ++ ([()] : List Unit)).length), (53, vP b9 0), (54, vP b9 0), (55, vP b9 1), (57, vP b37 1), (58, vU t35.bx), (60, ae (ξ 16).2.2.2 (x32 ++ ([t35.bx] : List Int)).length), (61, vP b9 0), (62, vP b9 0), (63, vP b9 0), (64, vP b9 1)]) (fun ξ => [(A7, .cells #[.slice none 0 0, vI r4] 93 (0, 0)), (b37, .cells #[vU t35.aK, vU t35.bx, vT t35.Ip, ae ((A00.s (Int.toNat x29)).1) t35.aX.length, ae ((A00.s (Int.toNat x29)).2.1) t35.bt.length, vI t35.bz.Room, vI t35.bz.aY, vI t35.bz.a8, vI t35.bz.aR, vU t35.aO.bx, vT t35.aO.Ip, vI t35.aO.Room, vI t35.aO.aY, vI t35.aO.cp, vI t35.aO.br, vI t35.aO.bn, vI t35.cj, ae ((A00.s (Int.toNat x29)).2.2.1) t35.cm.length, ae ((A00.s (Int.toNat x29)).2.2.2) t35.a7.length, vI t35.cT, vB t35.bu] 60 (0, 0)), (b9, .cells #[ae (ξ 8).2.1 (x30 ++ ([()] : List Unit)).length, ae (ξ 16).2.2.2 (x32 ++ ([t35.bx] : List Int)).length, vP A7 0, vI 0, vI 0] 48 (0, 0))]) (fun ξ => [bL 1 61 eQ (ξ 8).2.1 (x30 ++ ([()] : List Unit)), bL 1 49 (pl (aE .u64)) (ξ 16).2.2.2 (x32 ++ ([t35.bx] : List Int))]) (fun ξ => [bC gi (ξ 8).2.1 (x30 ++ ([()] : List Unit)), Row 1 eQ gi (av.at (ξ 7).1 1 (fP [A40] (none : Option Addr))) ([()] : List Unit), bC aA (ξ 16).2.2.2 (x32 ++ ([t35.bx] : List Int)), Row 1 (pl (aE .u64)) aA (av.at (ξ 15).2.2.1 1 (fun _ => ())) ([t35.bx] : List Int)]) (aq.cons ?_ (aq.cons ?_ (aq.cons ?_ (aq.cons ?_ (aq.cons ?_ (aq.cons ?_ (aq.cons ?_ (aq.cons ?_ (aq.cons ?_ (aq.cons ?_ (aq.cons ?_ (aq.cons ?_ (aq.cons ?_ (aq.cons ?_ (aq.cons ?_ (aq.cons ?_ (aq.cons ?_ (aq.cons ?_ (aq.cons ?_ (aq.cons ?_ (aq.cons ?_ (aq.cons ?_ (aq.cons ?_ aq.nil))))))))))))))))))))))) (aq.cons (bf.c rfl) (aq.cons (bf.c rfl) (aq.cons (bf.c rfl) (aq.cons (bf.c rfl) (aq.cons (bf.c rfl) (aq.cons (bf.c rfl) (aq.cons (bf.c rfl) (aq.cons (fun t ht ξ ξ' h => by cases ht; have e7 : ξ 7 = ξ' 7 := h 7 (aC.1 rfl); exact ⟨by first | rfl | simp only [e7], by first | rfl | simp only [e7]⟩) (aq.cons (fun t ht ξ ξ' h => by cases ht; have e7 : ξ 7 = ξ' 7 := h 7 (aC.1 rfl); have e8 : ξ 8 = ξ' 8 := h 8 (aC.1 rfl); exact ⟨by first | rfl | simp only [e7, e8], by first | rfl | simp only [e7, e8]⟩) (aq.cons (bf.c rfl) (aq.cons (bf.c rfl) (aq.cons (bf.c rfl) (aq.cons (bf.c rfl) (aq.cons (bf.c rfl) (aq.cons (bf.c rfl) (aq.cons (fun t ht ξ ξ' h => by cases ht; have e15 : ξ 15 = ξ' 15 := h 15 (aC.1 rfl); exact ⟨by first | rfl | simp only [e15], by first | rfl | simp only [e15]⟩) (aq.cons (fun t ht ξ ξ' h => by cases ht; have e15 : ξ 15 = ξ' 15 := h 15 (aC.1 rfl); have e16 : ξ 16 = ξ' 16 := h 16 (aC.1 rfl); exact ⟨by first | rfl | simp only [e15, e16], by first | rfl | simp only [e15, e16]⟩) (aq.cons (bf.c rfl) (aq.cons (bf.c rfl) (aq.cons (bf.c rfl) (aq.cons (bf.c rfl) (aq.cons (bf.c rfl) (aq.cons (bf.c rfl) aq.nil))))))))))))))))))))))) (aq.cons (dA.c rfl) (aq.cons (dA.c rfl) (aq.cons (dA.c rfl) (aq.cons (dA.c rfl) (aq.cons (dA.c rfl) (aq.cons (fun r hr ξ ξ' h => by cases hr; have e7 : ξ 7 = ξ' 7 := h 7 (aC.1 rfl); exact ⟨by first | rfl | simp only [e7], by first | rfl | simp only [e7]⟩) (aq.cons (fun r hr ξ ξ' h => by cases hr; have e8 : ξ 8 = ξ' 8 := h 8 (aC.1 rfl); exact ⟨by first | rfl | simp only [e8], by first | rfl | simp only [e8]⟩) (aq.cons (fun r hr ξ ξ' h => by cases hr; have e15 : ξ 15 = ξ' 15 := h 15 (aC.1 rfl); exact ⟨by first | rfl | simp only [e15], by first | rfl | simp only [e15]⟩) (aq.cons (fun r hr ξ ξ' h => by cases hr; have e16 : ξ 16 = ξ' 16 := h 16 (aC.1 rfl); exact ⟨by first | rfl | simp only [e16], by first | rfl | simp only [e16]⟩) (aq.cons (fun r hr ξ ξ' h => by cases hr; have e8 : ξ 8 = ξ' 8 := h 8 (aC.1 rfl); exact ⟨by first | rfl | simp only [e8], by first | rfl | simp only [e8]⟩) (aq.cons (fun r hr ξ ξ' h => by cases hr; have e8 : ξ 8 = ξ' 8 := h 8 (aC.1 rfl); have e16 : ξ 16 = ξ' 16 := h 16 (aC.1 rfl); exact ⟨by first | rfl | simp only [e8, e16], by first | rfl | simp only [e8, e16]⟩) aq.nil))))))))))) (fun ξ => ?_)
     ·
      intro o t ho ht ξ Gr Γr Lr Q hk
      cases ho; cases ht
      refine WL.rn 1 [] [(44, vP b9 0)] ?_
      exact WL.fin (hk default)
     ·
      intro o t ho ht ξ Gr Γr Lr Q hk
      cases ho; cases ht
      refine WL.rn 1 [] [(45, vP b9 0)] ?_
      exact WL.fin (hk default)
     ·
      intro o t ho ht ξ Gr Γr Lr Q hk
      cases ho; cases ht
      refine WL.rn 1 [] [(46, vP b9 0)] ?_
      exact WL.fin (hk default)
     ·
      intro o t ho ht ξ Gr Γr Lr Q hk
      cases ho; cases ht
      refine WL.rn 1 [] [(47, vP b9 0)] ?_
      exact WL.fin (hk default)
     ·
      intro o t ho ht ξ Gr Γr Lr Q hk
      cases ho; cases ht
      refine WL.rn 1 [] [(48, vP b9 0)] ?_
      exact WL.fin (hk default)
     ·
      intro o t ho ht ξ Gr Γr Lr Q hk
      cases ho; cases ht
      refine WL.rn 1 [0] [(49, ae A31 x30.length)] ?_
      exact WL.fin (hk default)
     ·
      intro o t ho ht ξ Gr Γr Lr Q hk
      cases ho; cases ht
      refine WL.rn 1 [] [(50, .pointer A40)] ?_
      exact WL.fin (hk default)
     ·
      intro o t ho ht ξ Gr Γr Lr Q hk
      cases ho; cases ht
      refine WL.rh 1 [] (fun b42 => [(51, .slice (some ⟨b42, 0, none⟩) 1 1)]) (fun b42 => []) (fun b42 => [(b42, .cells #[.pointer A40] 61 (0, 0))]) (fun b42 => ?_)
      exact WL.fin (hk (b42, default, default, default))
     ·
      intro o t ho ht ξ Gr Γr Lr Q hk
      cases ho; cases ht
      refine WL.tW (H' := []) (Row 1 eQ gi (av.at (ξ 7).1 1 (fP [A40] (none : Option Addr))) ([()] : List Unit)) 0 (b := (ξ 7).1) (ob := .cells #[.pointer A40] 61 (0, 0)) rfl [] [] rfl (fun w hb hψ => cl hb (fun _ _ => rfl) ⟨[], by kernel_rfl⟩ (nB rfl) (And.intro (trivial) trivial)) rfl ?_
      refine WL.dW (G' := Gr) (A := A31) (B := (av.at (ξ 7).1 1 (fP [A40] (none : Option Addr)))) (xs := x30) (ys := ([()] : List Unit)) (m := 1) (by_ := 8) (e := 61) (z := .pointer none) (f := eQ) (K := gi) (d := 52) 0 rfl rfl rfl rfl rfl rfl rfl (fun _ _ => rfl) (fun _ _ => rfl) (by kernel_rfl) rfl rfl rfl rfl (ar 5 rfl) (ar 0 rfl) h43 rfl (fun A45 => ?_)
      refine WL.less (Φ' := (([bC gi A45 (x30 ++ ([()] : List Unit)), Row 1 eQ gi (av.at (ξ 7).1 1 (fP [A40] (none : Option Addr))) ([()] : List Unit), Row 3 (pl aj.enc) aA ((A00.s (Int.toNat x29)).2.2.2) t35.a7, Row 3 ag.au ag.aN ((A00.s (Int.toNat x29)).2.2.1) t35.cm, Row 1 (pl ca) aA ((A00.s (Int.toNat x29)).2.1) t35.bt, Row 3 aa.au aa.aN ((A00.s (Int.toNat x29)).1) t35.aX, bC gi A31 x30, bC aA A33 x32, bC aA (av.nil (fun _ => ())) ([] : List Int), bC gi (av.nil (fun _ => (none : Option Addr))) ([] : List Unit), Row 21 ah.au ah.aN A00 a0] ++ Γr) ++ aI)) (fun _ h => h) ?_
      exact WL.fin (hk (default, A45, default, default))
     ·
      intro o t ho ht ξ Gr Γr Lr Q hk
      cases ho; cases ht
      refine WL.rn 1 [] [(53, vP b9 0)] ?_
      exact WL.fin (hk default)
     ·
      intro o t ho ht ξ Gr Γr Lr Q hk
      cases ho; cases ht
      refine WL.rn 1 [] [(54, vP b9 0)] ?_
      exact WL.fin (hk default)
     ·
      intro o t ho ht ξ Gr Γr Lr Q hk
      cases ho; cases ht
      refine WL.rn 1 [] [(55, vP b9 1)] ?_
      exact WL.fin (hk default)
     ·
      intro o t ho ht ξ Gr Γr Lr Q hk
      cases ho; cases ht
      refine WL.rn 1 [0] [(56, ae A33 x32.length)] ?_
      exact WL.fin (hk default)
     ·
      intro o t ho ht ξ Gr Γr Lr Q hk
      cases ho; cases ht
      refine WL.rn 1 [] [(57, vP b37 1)] ?_
      exact WL.fin (hk default)
     ·
      intro o t ho ht ξ Gr Γr Lr Q hk
      cases ho; cases ht
      refine WL.rn 1 [0] [(58, vU t35.bx)] ?_
      exact WL.fin (hk default)
     ·
      intro o t ho ht ξ Gr Γr Lr Q hk
      cases ho; cases ht
      refine WL.rh 1 [] (fun b46 => [(59, .slice (some ⟨b46, 0, none⟩) 1 1)]) (fun b46 => []) (fun b46 => [(b46, .cells #[vU t35.bx] 49 (0, 0))]) (fun b46 => ?_)
      exact WL.fin (hk (default, default, b46, default))
     ·
      intro o t ho ht ξ Gr Γr Lr Q hk
      cases ho; cases ht
      refine WL.tW (H' := []) (Row 1 (pl (aE .u64)) aA (av.at (ξ 15).2.2.1 1 (fun _ => ())) ([t35.bx] : List Int)) 0 (b := (ξ 15).2.2.1) (ob := .cells #[vU t35.bx] 49 (0, 0)) rfl [] [] rfl (fun w hb hψ => cl hb (fun _ _ => rfl) ⟨[], by kernel_rfl⟩ (nB rfl) (jj.no _ _)) rfl ?_
      refine WL.dW (G' := Gr) (A := A33) (B := (av.at (ξ 15).2.2.1 1 (fun _ => ()))) (xs := x32) (ys := ([t35.bx] : List Int)) (m := 1) (by_ := 8) (e := 49) (z := vU 0) (f := (pl (aE .u64))) (K := aA) (d := 60) 0 rfl rfl rfl rfl rfl rfl rfl (fun _ _ => rfl) (fun _ _ => rfl) (by kernel_rfl) rfl rfl rfl rfl (ar 8 rfl) (ar 0 rfl) h47 rfl (fun A49 => ?_)
      refine WL.less (Φ' := (([bC aA A49 (x32 ++ ([t35.bx] : List Int)), Row 1 (pl (aE .u64)) aA (av.at (ξ 15).2.2.1 1 (fun _ => ())) ([t35.bx] : List Int), bC gi (ξ 8).2.1 (x30 ++ ([()] : List Unit)), Row 1 eQ gi (av.at (ξ 7).1 1 (fP [A40] (none : Option Addr))) ([()] : List Unit), Row 3 (pl aj.enc) aA ((A00.s (Int.toNat x29)).2.2.2) t35.a7, Row 3 ag.au ag.aN ((A00.s (Int.toNat x29)).2.2.1) t35.cm, Row 1 (pl ca) aA ((A00.s (Int.toNat x29)).2.1) t35.bt, Row 3 aa.au aa.aN ((A00.s (Int.toNat x29)).1) t35.aX, bC gi A31 x30, bC aA A33 x32, bC aA (av.nil (fun _ => ())) ([] : List Int), bC gi (av.nil (fun _ => (none : Option Addr))) ([] : List Unit), Row 21 ah.au ah.aN A00 a0] ++ Γr) ++ aI)) (fun _ h => h) ?_
      exact WL.fin (hk (default, default, default, A49))
     ·
      intro o t ho ht ξ Gr Γr Lr Q hk
      cases ho; cases ht
      refine WL.rn 1 [] [(61, vP b9 0)] ?_
      exact WL.fin (hk default)
     ·
      intro o t ho ht ξ Gr Γr Lr Q hk
      cases ho; cases ht
      refine WL.rn 1 [] [(62, vP b9 0)] ?_
      exact WL.fin (hk default)
     ·
      intro o t ho ht ξ Gr Γr Lr Q hk
      cases ho; cases ht
      refine WL.rh 1 [0] (fun _ => []) (fun _ => [(0, 0, [ae (ξ 8).2.1 (x30 ++ ([()] : List Unit)).length])]) (fun _ => []) (fun _ => ?_)
      exact WL.fin (hk default)
     ·
      intro o t ho ht ξ Gr Γr Lr Q hk
      cases ho; cases ht
      refine WL.rn 1 [] [(63, vP b9 0)] ?_
      exact WL.fin (hk default)
     ·
      intro o t ho ht ξ Gr Γr Lr Q hk
      cases ho; cases ht
      refine WL.rn 1 [] [(64, vP b9 1)] ?_
      exact WL.fin (hk default)
     ·
      intro o t ho ht ξ Gr Γr Lr Q hk
      cases ho; cases ht
      refine WL.rh 1 [0] (fun _ => []) (fun _ => [(0, 1, [ae (ξ 16).2.2.2 (x32 ++ ([t35.bx] : List Int)).length])]) (fun _ => []) (fun _ => ?_)
      exact WL.fin (hk default)
     generalize (ξ 7).1 = b42
     generalize (ξ 8).2.1 = A45
     generalize (ξ 15).2.2.1 = b46
     generalize (ξ 16).2.2.2 = A49
     refine WP.less (Φ' := ([bC gi A45 (x30 ++ ([()] : List Unit)), Row 1 eQ gi (av.at b42 1 (fP [A40] (none : Option Addr))) ([()] : List Unit), bC aA A49 (x32 ++ ([t35.bx] : List Int)), Row 1 (pl (aE .u64)) aA (av.at b46 1 (fun _ => ())) ([t35.bx] : List Int), Row 3 (pl aj.enc) aA ((A00.s (Int.toNat x29)).2.2.2) t35.a7, Row 3 ag.au ag.aN ((A00.s (Int.toNat x29)).2.2.1) t35.cm, Row 1 (pl ca) aA ((A00.s (Int.toNat x29)).2.1) t35.bt, Row 3 aa.au aa.aN ((A00.s (Int.toNat x29)).1) t35.aX, bC gi A31 x30, bC aA A33 x32, bC aA (av.nil (fun _ => ())) ([] : List Int), bC gi (av.nil (fun _ => (none : Option Addr))) ([] : List Unit), Row 21 ah.au ah.aN A00 a0] ++ aI)) (fun _ h => h) ?_
     refine WP.leave (WP.rn [] [(32, vI (i64 (x29 + 1))), (65, vI (i64 (x29 + 1)))] ?_)
     exact WP.cN [5, 9, 30, 31, 32] (x28, i64 (x29 + 1), (x30 ++ ([()] : List Unit)), A45, (x32 ++ ([t35.bx] : List Int)), A49) hM rfl (fun _ h => ((h.pick [0, 2] rfl).aQ [0, 2, 10, 11, 12] rfl).dE [0, 1] [] 2 rfl (by decide) rfl)
   ·replace hM := aH hM c34
    refine WP.exit rfl (WP.seq ?_)
    refine WP.rn [] [(4, vP b9 0), (5, vI 0)] ?_
    refine WP.dD (G' := [bL 1 49 (pl (aE .u64)) A33 x32]) (m := 1) (e := 61) (f := eQ) (K := gi) (A := A31) (xs := x30) 0 0 rfl rfl (fun _ _ => rfl) rfl ?_
    refine WP.dD (G' := []) (m := 1) (e := 49) (f := (pl (aE .u64))) (K := aA) (A := A33) (xs := x32) 0 2 rfl rfl (fun _ _ => rfl) rfl ?_
    refine WP.ez (Row 2 (pl ax.enc) aA (av.nil (fun _ => ())) ([] : List ax)) [] [] rfl (fun w _ => eU.empty (fun _ => rfl)) ?_
    obtain rfl := oI hM
    exact WP.ret [] [] (.tuple #[vP b9 0, vI 0]) (by kernel_rfl) (fun w' hw => ⟨(b9, A31, A33, A7, (av.nil (fun _ => ()))), rfl, (hw.pick [1, 0] rfl).less (aT [2, 1, 0] [7] rfl rfl)⟩)
def dY.f (a0 : Int) : Option (Int × Int) :=
 bif ((decide (a0 < 1)) || (decide (a0 > 4096))) then
  none
 else
  some (a0, 0)
theorem j1 (a0 : Int) (r : Int × Int) (h : dY.f a0 = some r) : eT Tryz.prog 18 #[vI a0] [] ([] ++ aI) (fun x : Nat => .tuple #[vP x 0, vI r.2]) (fun x => [(x, .cells #[.slice none 0 0, vI r.1] 125 (0, 0))]) (fun _ => []) (fun x => [] ++ ([] ++ aI)) := by
 intro w Z hS
 refine bh (args := [vI a0]) (L := [(0, vI a0)]) (N := 13) Tryz.func18 hS ?_
 have hM := h
 clear h hS
 unfold dY.f at hM
 refine WP.seq (WP.rn [] [(2, .pointer none), (3, vI 0)] ?_)
 refine WP.seq (WP.seq (WP.region (WL.rn 3 [] [(6, vB (decide (a0 < 1)))] ?_)))
 refine WL.bo 6 (decide (a0 < 1)) 3 [] [] (fun b' => [(9, vB (b' || (decide (a0 > 4096))))]) ?_
 refine WP.done ?_
 refine WP.cond ((decide (a0 < 1)) || (decide (a0 > 4096))) rfl rfl (fun c1 => ?_) (fun c1 => ?_)
 ·replace hM := aG hM c1
  refine WP.seq (WP.rn [] [(2, .pointer none), (3, vI 1)] ?_)
  exact absurd hM (by simp)
 ·replace hM := aH hM c1
  refine WP.skip (WP.seq ?_)
  refine WP.rh [] (fun b2 => [(2, vP b2 0), (3, vI 0)]) (fun b2 => []) (fun b2 => [(b2, .cells #[.slice none 0 0, vI a0] 125 (0, 0))]) (fun b2 => ?_)
  obtain rfl := oI hM
  exact WP.ret [] [] (.tuple #[vP b2 0, vI 0]) (by kernel_rfl) (fun w' hw => ⟨b2, rfl, (hw.pick [0] rfl).less (aT [] [] rfl rfl)⟩)
def bX.l1 (a0 : (List ah)) (k : Nat) (r4 : Int) : Nat → Int → (List Unit) → Option ((List Unit) × (List ax) × Int × Int × Int × (List dZ) × Int)
 | 0, _, _ => none
 | n + 1, x21, x22 =>
  bif decide (x21 < (a0.length : Int)) then
   (cI a0.length a0 x21).bind fun t25 =>
   (aB.f k t25.aK t25.bx t25.Ip t25.aX t25.bt t25.bz t25.aO t25.cj t25.cm t25.a7 t25.cT t25.bu).bind fun r27 =>
   (ey 8 (x22 ++ ([()] : List Unit)).length).bind fun u32 =>
   bX.l1 a0 k r4 n (i64 (x21 + 1)) (x22 ++ ([()] : List Unit))
  else
   some (x22, ([] : List ax), r4, 0, 0, ([] : List dZ), 0)
def bX.f (k : Nat) (a0 : (List ah)) (a1 : Int) : Option ((List Unit) × (List ax) × Int × Int × Int × (List dZ) × Int) :=
 (ak.f k a0).bind fun r1 =>
 bif (r1 != 0) then
  none
 else
  (dY.f a1).bind fun (r4, r5) =>
  bif (r5 != 0) then
   none
  else
   bX.l1 a0 k r4 k 0 ([] : List Unit)
theorem jZ (k : Nat) (A00 : av ((av (av Unit)) × (av Unit) × (av (av Unit)) × (av Unit))) (a0 : (List ah)) (a1 : Int) (r : (List Unit) × (List ax) × Int × Int × Int × (List dZ) × Int) (h : bX.f k a0 a1 = some r) : eT Tryz.prog 6 #[ae A00 a0.length, vI a1] [] ([Row 21 ah.au ah.aN A00 a0] ++ aI) (fun x : (Nat × (av (Option Addr)) × Nat × (av Unit) × (av Unit)) => .tuple #[vP x.1 0, vI r.2.2.2.2.2.2]) (fun x => [(x.1, .cells #[ae x.2.1 r.1.length, vP x.2.2.1 0, vI r.2.2.2.1, vI r.2.2.2.2.1, ae x.2.2.2.2 r.2.2.2.2.2.1.length] 71 (0, 0)), (x.2.2.1, .cells #[ae x.2.2.2.1 r.2.1.length, vI r.2.2.1] 125 (0, 0))]) (fun _ => []) (fun x => [Row 1 eQ gi x.2.1 r.1, Row 4 (pl dZ.enc) aA x.2.2.2.2 r.2.2.2.2.2.1, Row 2 (pl ax.enc) aA x.2.2.2.1 r.2.1] ++ ([Row 21 ah.au ah.aN A00 a0] ++ aI)) := by
 intro w Z hS
 refine bh (args := [ae A00 a0.length, vI a1]) (L := [(0, ae A00 a0.length), (1, vI a1)]) (N := 54) Tryz.func6 hS ?_
 have hM := h
 clear h hS
 unfold bX.f at hM
 refine WP.seq (WP.rn [] [(4, .pointer none), (5, vI 0)] ?_)
 refine WP.seq (WP.region (WL.rn 1 [] [(13, ae A00 a0.length)] ?_))
 obtain ⟨r1, h2, hM⟩ := bind_some hM
 refine WL.cQ [] [] (fR k A00 a0 _ h2) (bE [0] rfl) (by kernel_rfl) rfl rfl ?_
 refine WL.rn 1 [] [(6, vI r1)] ?_
 refine WP.done (WP.seq (WP.seq (WP.rn [] [(16, vB (r1 != 0))] ?_)))
 refine WP.cond (r1 != 0) rfl rfl (fun c3 => ?_) (fun c3 => ?_)
 ·replace hM := aG hM c3
  refine WP.seq (WP.rn [] [(4, .pointer none), (5, vI r1)] ?_)
  exact absurd hM (by simp)
 ·replace hM := aH hM c3
  refine WP.skip (WP.seq (WP.region (WL.rn 1 [] [(19, vI a1)] ?_)))
  obtain ⟨⟨r4, r5⟩, h6, hM⟩ := bind_some hM
  dsimp only at hM
  refine WL.c0 (F0 := []) [] [] [] (fun _ => _) [] rfl (j1 a1 _ h6) rfl rfl (by kernel_rfl) rfl (fun _ => rfl) (fun A7 => ?_)
  refine WL.rn 5 [] [(7, vP A7 0), (8, vI r5)] ?_
  refine WP.done (WP.seq (WP.seq (WP.rn [] [(24, vB (r5 != 0))] ?_)))
  refine WP.cond (r5 != 0) rfl rfl (fun c8 => ?_) (fun c8 => ?_)
  ·replace hM := aG hM c8
   refine WP.seq (WP.rn [] [(4, .pointer none), (5, vI r5)] ?_)
   exact absurd hM (by simp)
  ·replace hM := aH hM c8
   refine WP.skip (WP.seq ?_)
   refine WP.rh [] (fun b9 => [(9, vP b9 0)]) (fun b9 => []) (fun b9 => [(b9, .cells #[.slice none 0 0, vP A7 0, vI 0, vI 0, .slice none 0 0] 71 (0, 0))]) (fun b9 => ?_)
   refine WP.seq (WP.seq (WP.rn [] [(10, vI 0)] ?_))
   refine WP.block ?_
   refine WP.fH 1 72 eQ gi (fun _ => (none : Option Addr)) ?_
   skip
   refine WP.sub [0, 4, 5, 9, 10] (L' := [(0, ae A00 a0.length), (4, .pointer none), (5, vI 0), (9, vP b9 0), (10, vI 0)]) rfl ?_
   refine WP.aQ [0, 0, 1] (F' := [bC gi (av.nil (fun _ => (none : Option Addr))) ([] : List Unit), bC gi (av.nil (fun _ => (none : Option Addr))) ([] : List Unit), Row 21 ah.au ah.aN A00 a0]) rfl ?_
   refine WP.loop (σ := Int × (List Unit) × av (Option Addr)) (fun n st => bX.l1 a0 k r4 n st.1 st.2.1) r (fun st => [(0, ae A00 a0.length), (4, .pointer none), (5, vI 0), (9, vP b9 0), (10, vI st.1)]) (fun st => Sat w Z [(A7, .cells #[.slice none 0 0, vI r4] 125 (0, 0)), (b9, .cells #[ae st.2.2 st.2.1.length, vP A7 0, vI 0, vI 0, .slice none 0 0] 71 (0, 0))] [bL 1 72 eQ st.2.2 st.2.1] ([bC gi st.2.2 st.2.1, bC gi (av.nil (fun _ => (none : Option Addr))) ([] : List Unit), Row 21 ah.au ah.aN A00 a0] ++ aI)) (st := (0, ([] : List Unit), (av.nil (fun _ => (none : Option Addr))))) (fun n st hM => ?_) hM
   rcases n with _ | n
   ·exact nomatch (show (none : Option _) = some r from hM)
   obtain ⟨x21, x22, A23⟩ := st
   replace hM : bX.l1 a0 k r4 (n + 1) x21 x22 = some r := hM
   rw [bX.l1] at hM
   try dsimp only
   refine WP.seq (WP.seq (WP.rn [] [(29, vI x21), (30, ae A00 a0.length), (31, vI (a0.length : Int)), (32, vB (decide (x21 < (a0.length : Int))))] ?_))
   refine WP.cond (decide (x21 < (a0.length : Int))) rfl rfl (fun c24 => ?_) (fun c24 => ?_)
   ·replace hM := aG hM c24
    refine WP.skip (WP.seq (WP.block (WP.seq (WP.region (WL.rn 2 [] [(36, ae A00 a0.length), (37, vI x21)] ?_)))))
    obtain ⟨t25, h26, hM⟩ := bind_some hM
    refine WL.cd (φ := Row 21 ah.au ah.aN A00 a0) (ar 2 rfl) (fun w hR => aJ (A := A00) (xs := a0) (i := x21) (k := .i64) (e := 60) (m := 21) rfl rfl h26 rfl rfl hR) (by kernel_rfl) rfl rfl ?_
    refine WL.cd (φ := Row 21 ah.au ah.aN A00 a0) (ar 2 rfl) (fun w hR => b4 (A := A00) (xs := a0) (i := x21) (j := 0) (n := 21) (vs := [vU t25.aK, vU t25.bx, vT t25.Ip, ae ((A00.s (Int.toNat x21)).1) t25.aX.length, ae ((A00.s (Int.toNat x21)).2.1) t25.bt.length, vI t25.bz.Room, vI t25.bz.aY, vI t25.bz.a8, vI t25.bz.aR, vU t25.aO.bx, vT t25.aO.Ip, vI t25.aO.Room, vI t25.aO.aY, vI t25.aO.cp, vI t25.aO.br, vI t25.aO.bn, vI t25.cj, ae ((A00.s (Int.toNat x21)).2.2.1) t25.cm.length, ae ((A00.s (Int.toNat x21)).2.2.2) t25.a7.length, vI t25.cT, vB t25.bu]) h26 (fun _ => by kernel_rfl) rfl rfl rfl rfl hR) (by kernel_rfl) rfl rfl ?_
    refine WL.ez (Row 3 aa.au aa.aN ((A00.s (Int.toNat x21)).1) t25.aX) [2] [Row 21 ah.au ah.aN A00 a0] rfl (fun w hψ => ((hψ _ (List.mem_singleton.2 rfl)).inner _ _ (bg h26).2).1) ?_
    refine WL.ez (Row 1 (pl ca) aA ((A00.s (Int.toNat x21)).2.1) t25.bt) [3] [Row 21 ah.au ah.aN A00 a0] rfl (fun w hψ => ((hψ _ (List.mem_singleton.2 rfl)).inner _ _ (bg h26).2).2.1) ?_
    refine WL.ez (Row 3 ag.au ag.aN ((A00.s (Int.toNat x21)).2.2.1) t25.cm) [4] [Row 21 ah.au ah.aN A00 a0] rfl (fun w hψ => ((hψ _ (List.mem_singleton.2 rfl)).inner _ _ (bg h26).2).2.2.1) ?_
    refine WL.ez (Row 3 (pl aj.enc) aA ((A00.s (Int.toNat x21)).2.2.2) t25.a7) [5] [Row 21 ah.au ah.aN A00 a0] rfl (fun w hψ => ((hψ _ (List.mem_singleton.2 rfl)).inner _ _ (bg h26).2).2.2.2) ?_
    obtain ⟨r27, h28, hM⟩ := bind_some hM
    refine WL.c0 (F0 := [Row 3 aa.au aa.aN ((A00.s (Int.toNat x21)).1) t25.aX, Row 1 (pl ca) aA ((A00.s (Int.toNat x21)).2.1) t25.bt, Row 3 ag.au ag.aN ((A00.s (Int.toNat x21)).2.2.1) t25.cm, Row 3 (pl aj.enc) aA ((A00.s (Int.toNat x21)).2.2.2) t25.a7]) [] [] [false, false] (fun _ => _) [3, 2, 1, 0] rfl (gu k ((A00.s (Int.toNat x21)).1) ((A00.s (Int.toNat x21)).2.1) ((A00.s (Int.toNat x21)).2.2.1) ((A00.s (Int.toNat x21)).2.2.2) t25.aK t25.bx t25.Ip t25.aX t25.bt t25.bz t25.aO t25.cj t25.cm t25.a7 t25.cT t25.bu _ h28) rfl rfl (by kernel_rfl) rfl (fun _ => rfl) (fun A29 => ?_)
    refine WL.rn 5 [] [(11, .pointer A29), (35, .tuple #[.pointer A29, vI r27]), (41, .pointer A29), (42, vI r27)] ?_
    refine WP.done (WP.region ?_)
    refine WL.rh 7 [1] (fun b30 => [(43, vP b9 0), (44, vP b9 0), (45, vP b9 0), (46, vP b9 0), (47, ae A23 x22.length), (48, .pointer A29), (49, .slice (some ⟨b30, 0, none⟩) 1 1)]) (fun b30 => []) (fun b30 => [(b30, .cells #[.pointer A29] 72 (0, 0))]) (fun b30 => ?_)
    refine WL.tW (H' := [(A7, .cells #[.slice none 0 0, vI r4] 125 (0, 0)), (b9, .cells #[ae A23 x22.length, vP A7 0, vI 0, vI 0, .slice none 0 0] 71 (0, 0))]) (Row 1 eQ gi (av.at b30 1 (fP [A29] (none : Option Addr))) ([()] : List Unit)) 2 (b := b30) (ob := .cells #[.pointer A29] 72 (0, 0)) rfl [] [] rfl (fun w hb hψ => cl hb (fun _ _ => rfl) ⟨[], by kernel_rfl⟩ (nB rfl) (And.intro (trivial) trivial)) rfl ?_
    obtain ⟨u32, h31, hM⟩ := bind_some hM
    refine WL.dW (G' := []) (A := A23) (B := (av.at b30 1 (fP [A29] (none : Option Addr)))) (xs := x22) (ys := ([()] : List Unit)) (m := 1) (by_ := 8) (e := 72) (z := .pointer none) (f := eQ) (K := gi) (d := 50) 0 rfl rfl rfl rfl rfl rfl rfl (fun _ _ => rfl) (fun _ _ => rfl) (by kernel_rfl) rfl rfl rfl rfl (ar 5 rfl) (ar 0 rfl) h31 rfl (fun A33 => ?_)
    refine WL.less (Φ' := ([bC gi A33 (x22 ++ ([()] : List Unit)), Row 1 eQ gi (av.at b30 1 (fP [A29] (none : Option Addr))) ([()] : List Unit), Row 3 (pl aj.enc) aA ((A00.s (Int.toNat x21)).2.2.2) t25.a7, Row 3 ag.au ag.aN ((A00.s (Int.toNat x21)).2.2.1) t25.cm, Row 1 (pl ca) aA ((A00.s (Int.toNat x21)).2.1) t25.bt, Row 3 aa.au aa.aN ((A00.s (Int.toNat x21)).1) t25.aX, bC gi A23 x22, bC gi (av.nil (fun _ => (none : Option Addr))) ([] : List Unit), Row 21 ah.au ah.aN A00 a0] ++ aI)) (fun _ h => h) ?_
    refine WL.rh 3 [1] (fun _ => [(51, vP b9 0), (52, vP b9 0)]) (fun _ => [(1, 0, [ae A33 (x22 ++ ([()] : List Unit)).length])]) (fun _ => []) (fun _ => ?_)
    refine WP.done (WP.leave (WP.rn [] [(10, vI (i64 (x21 + 1))), (33, vI x21), (34, vI (i64 (x21 + 1)))] ?_))
    exact WP.cN [0, 4, 5, 9, 10] (i64 (x21 + 1), (x22 ++ ([()] : List Unit)), A33) hM rfl (fun _ h => ((h.pick [0, 1] rfl).aQ [0, 7, 8] rfl).dE [0] [] 1 rfl (by decide) rfl)
   ·replace hM := aH hM c24
    refine WP.exit rfl (WP.seq ?_)
    refine WP.rn [] [(4, vP b9 0), (5, vI 0)] ?_
    refine WP.dD (G' := []) (m := 1) (e := 72) (f := eQ) (K := gi) (A := A23) (xs := x22) 0 0 rfl rfl (fun _ _ => rfl) rfl ?_
    refine WP.ez (Row 4 (pl dZ.enc) aA (av.nil (fun _ => ())) ([] : List dZ)) [] [] rfl (fun w _ => eU.empty (fun _ => rfl)) ?_
    refine WP.ez (Row 2 (pl ax.enc) aA (av.nil (fun _ => ())) ([] : List ax)) [] [] rfl (fun w _ => eU.empty (fun _ => rfl)) ?_
    obtain rfl := oI hM
    exact WP.ret [] [] (.tuple #[vP b9 0, vI 0]) (by kernel_rfl) (fun w' hw => ⟨(b9, A23, A7, (av.nil (fun _ => ())), (av.nil (fun _ => ()))), rfl, (hw.pick [1, 0] rfl).less (aT [2, 1, 0] [5] rfl rfl)⟩)
def dK.f (a0 : (List Unit)) (a0_1 : (List Int)) (a0_2 : (List ax)) (a0_3 : Int) (a0_4 : Int) (a0_5 : Int) (a1 : Int) : Option (Bool) :=
 some ((decide (a1 ≥ 1)) && (decide (a1 ≤ (a0.length : Int))))
theorem gy (b_0 : Nat) (b_1 : Nat) (A00 : av (Option Addr)) (A01 : av Unit) (A02 : av Unit) (a0 : (List Unit)) (a0_1 : (List Int)) (a0_2 : (List ax)) (a0_3 : Int) (a0_4 : Int) (a0_5 : Int) (a1 : Int) (r : Bool) (h : dK.f a0 a0_1 a0_2 a0_3 a0_4 a0_5 a1 = some r) : eT Tryz.prog 23 #[vP b_0 0, vI a1] [(b_0, .cells #[ae A00 a0.length, ae A01 a0_1.length, vP b_1 0, vI a0_4, vI a0_5] 48 (0, 0)), (b_1, .cells #[ae A02 a0_2.length, vI a0_3] 93 (0, 0))] ([Row 1 eQ gi A00 a0, Row 1 (pl (aE .u64)) aA A01 a0_1, Row 2 (pl ax.enc) aA A02 a0_2] ++ aI) (fun _ : Unit => vB r) (fun _ => [(b_0, .cells #[ae A00 a0.length, ae A01 a0_1.length, vP b_1 0, vI a0_4, vI a0_5] 48 (0, 0)), (b_1, .cells #[ae A02 a0_2.length, vI a0_3] 93 (0, 0))]) (fun _ => []) (fun _ => ([Row 1 eQ gi A00 a0, Row 1 (pl (aE .u64)) aA A01 a0_1, Row 2 (pl ax.enc) aA A02 a0_2] ++ aI)) := by
 intro w Z hS
 refine bh (args := [vP b_0 0, vI a1]) (L := [(0, vP b_0 0), (1, vI a1)]) (N := 16) Tryz.func23 hS ?_
 have hM := h
 clear h hS
 unfold dK.f at hM
 refine WP.seq (WP.rn [] [(4, vB false)] ?_)
 refine WP.seq (WP.region (WL.rn 3 [] [(7, vB (decide (a1 ≥ 1)))] ?_))
 refine WL.bo 7 (decide (a1 ≥ 1)) 8 [0] [] (fun b' => [(15, vB (b' && (decide (a1 ≤ (a0.length : Int)))))]) ?_
 refine WL.rn 1 [] [(4, vB ((decide (a1 ≥ 1)) && (decide (a1 ≤ (a0.length : Int)))))] ?_
 refine WP.done ?_
 obtain rfl := oI hM
 exact WP.ret [] [] (vB ((decide (a1 ≥ 1)) && (decide (a1 ≤ (a0.length : Int))))) (by kernel_rfl) (fun w' hw => ⟨(), rfl, (hw.pick [0, 1] rfl).aQ [0, 1, 2] rfl⟩)
def dS.f (a0 : (List Unit)) (a0_1 : (List Int)) (a0_2 : (List ax)) (a0_3 : Int) (a0_4 : Int) (a0_5 : Int) (a1 : Int) : Option (ml × Bool) :=
 (dK.f a0 a0_1 a0_2 a0_3 a0_4 a0_5 a1).bind fun r2 =>
 bif !r2 then
  some ((ml.mk 0 0 0 0 0 0 0 0 0 0 0 0 0), false)
 else
  none
theorem fC (b_0 : Nat) (b_1 : Nat) (A00 : av (Option Addr)) (A01 : av Unit) (A02 : av Unit) (a0 : (List Unit)) (a0_1 : (List Int)) (a0_2 : (List ax)) (a0_3 : Int) (a0_4 : Int) (a0_5 : Int) (a1 : Int) (r : ml × Bool) (h : dS.f a0 a0_1 a0_2 a0_3 a0_4 a0_5 a1 = some r) : eT Tryz.prog 8 #[vP b_0 0, vI a1] [(b_0, .cells #[ae A00 a0.length, ae A01 a0_1.length, vP b_1 0, vI a0_4, vI a0_5] 48 (0, 0)), (b_1, .cells #[ae A02 a0_2.length, vI a0_3] 93 (0, 0))] ([Row 1 eQ gi A00 a0, Row 1 (pl (aE .u64)) aA A01 a0_1, Row 2 (pl ax.enc) aA A02 a0_2] ++ aI) (fun _ : Unit => .tuple #[ml.v r.1, vB r.2]) (fun _ => [(b_0, .cells #[ae A00 a0.length, ae A01 a0_1.length, vP b_1 0, vI a0_4, vI a0_5] 48 (0, 0)), (b_1, .cells #[ae A02 a0_2.length, vI a0_3] 93 (0, 0))]) (fun _ => []) (fun _ => ([Row 1 eQ gi A00 a0, Row 1 (pl (aE .u64)) aA A01 a0_1, Row 2 (pl ax.enc) aA A02 a0_2] ++ aI)) := by
 intro w Z hS
 refine bh (args := [vP b_0 0, vI a1]) (L := [(0, vP b_0 0), (1, vI a1)]) (N := 20) Tryz.func8 hS ?_
 have hM := h
 clear h hS
 unfold dS.f at hM
 refine WP.seq ?_
 refine WP.rh [] (fun b1 => [(4, vP b1 0), (5, vB false)]) (fun b1 => []) (fun b1 => [(b1, .cells #[vI 0, vI 0, vI 0, vI 0, vI 0, vI 0, vI 0, vI 0, vI 0, vI 0, vI 0, vI 0, vI 0] 32 (0, 0))]) (fun b1 => ?_)
 refine WP.seq (WP.seq (WP.region ?_))
 refine WL.rn 2 [] [(6, vP b_0 0), (7, vI a1)] ?_
 obtain ⟨r2, h3, hM⟩ := bind_some hM
 refine WL.qC (X := Unit) [] [] [true, true, false] (fun _ => _) (gy b_0 b_1 A00 A01 A02 a0 a0_1 a0_2 a0_3 a0_4 a0_5 a1 _ h3) rfl rfl (bE [0, 1, 2] rfl) (by kernel_rfl) rfl (fun _ => rfl) (fun _ => ?_)
 refine WL.rn 1 [] [(9, vB (!r2))] ?_
 refine WP.done ?_
 refine WP.cond (!r2) rfl rfl (fun c4 => ?_) (fun c4 => ?_)
 ·replace hM := aG hM c4
  refine WP.seq (WP.rn [2, 2, 2, 2, 2, 2, 2, 2, 2, 2, 2, 2, 2] [(5, vB false)] ?_)
  obtain rfl := oI hM
  exact WP.ret [2, 2, 2, 2, 2, 2, 2, 2, 2, 2, 2, 2, 2] [b1, b1, b1, b1, b1, b1, b1, b1, b1, b1, b1, b1, b1] (.tuple #[.agg #[vI 0, vI 0, vI 0, vI 0, vI 0, vI 0, vI 0, vI 0, vI 0, vI 0, vI 0, vI 0, vI 0], vB false]) (by kernel_rfl) (fun w' hw => ⟨(), rfl, (hw.pick [0, 1] rfl).aQ [0, 1, 2] rfl⟩)
 ·replace hM := aH hM c4
  refine WP.skip ?_
  exact absurd hM (by simp)
end Go.Proofs.YtkpjjncdicgkkaaGreatDoor
