/- The walks of the functions that the laws reach: each shows that a call returns what its plain model says, wherever the model gives an answer. -/
import Derived.Test.YtkpjjncdicgkkaaGreatDoorProg
import Derived.Test.YtkpjjncdicgkkaaGreatDoorE2
import Derived.Test.YtkpjjncdicgkkaaGreatDoorE3

namespace Go.Proofs.YtkpjjncdicgkkaaGreatDoor
set_option maxRecDepth 100000
set_option linter.unusedVariables false
set_option linter.unusedSimpArgs false
open Go Eng
def aI : List Pr := []
def nG.EB : Go.Shelf.Ren where
 f := fun | 156 => 361 | 165 => 364 | 166 => 322 | 169 => 323 | 240 => 348 | 241 => 365 | 276 => 360 | 277 => 366 | n => n
 t := fun | 0 => 0 | 3 => 3 | 4 => 4 | 5 => 5 | 9 => 9 | 20 => 20 | 31 => 585 | 37 => 392 | 70 => 559 | 72 => 561 | 75 => 284 | 76 => 355 | 80 => 563 | 127 => 584 | 164 => 446 | n => n
 g := fun n => n
theorem nG.z6 : Go.Proofs.Lays.n166 Tryz.prog nG.EB where
 mixed := by kernel_rfl
 f166 := by kernel_rfl
 f240 := by kernel_rfl
 f276 := by kernel_rfl
 t0 := by kernel_rfl
 a0 := (fun _ => by kernel_rfl)
 z0 := (fun _ => by kernel_rfl)
 v0 := (fun _ => by kernel_rfl)
 t3 := by kernel_rfl
 a3 := (fun _ => by kernel_rfl)
 z3 := (fun _ => by kernel_rfl)
 v3 := (fun _ => by kernel_rfl)
 t4 := by kernel_rfl
 a4 := (fun _ => by kernel_rfl)
 z4 := (fun _ => by kernel_rfl)
 v4 := (fun _ => by kernel_rfl)
 t9 := by kernel_rfl
 a9 := (fun _ => by kernel_rfl)
 z9 := (fun _ => by kernel_rfl)
 v9 := (fun _ => by kernel_rfl)
 t20 := by kernel_rfl
 a20 := (fun _ => by kernel_rfl)
 z20 := (fun _ => by kernel_rfl)
 v20 := (fun _ => by kernel_rfl)
 t37 := by kernel_rfl
 a37 := (fun _ => by kernel_rfl)
 z37 := (fun _ => by kernel_rfl)
 v37 := (fun _ => by kernel_rfl)
 t70 := by kernel_rfl
 a70 := (fun _ => by kernel_rfl)
 z70 := (fun _ => by kernel_rfl)
 v70 := (fun _ => by kernel_rfl)
 t72 := by kernel_rfl
 a72 := (fun _ => by kernel_rfl)
 z72 := (fun _ => by kernel_rfl)
 v72 := (fun _ => by kernel_rfl)
 t75 := by kernel_rfl
 a75 := (fun _ => by kernel_rfl)
 z75 := (fun _ => by kernel_rfl)
 v75 := (fun _ => by kernel_rfl)
 t164 := by kernel_rfl
 a164 := (fun _ => by kernel_rfl)
 z164 := (fun _ => by kernel_rfl)
 v164 := (fun _ => by kernel_rfl)
theorem nG.zZ : Go.Proofs.Lays.n169 Tryz.prog nG.EB where
 mixed := by kernel_rfl
 f169 := by kernel_rfl
 t0 := by kernel_rfl
 a0 := (fun _ => by kernel_rfl)
 z0 := (fun _ => by kernel_rfl)
 v0 := (fun _ => by kernel_rfl)
 t3 := by kernel_rfl
 a3 := (fun _ => by kernel_rfl)
 z3 := (fun _ => by kernel_rfl)
 v3 := (fun _ => by kernel_rfl)
 t9 := by kernel_rfl
 a9 := (fun _ => by kernel_rfl)
 z9 := (fun _ => by kernel_rfl)
 v9 := (fun _ => by kernel_rfl)
 t37 := by kernel_rfl
 a37 := (fun _ => by kernel_rfl)
 z37 := (fun _ => by kernel_rfl)
 v37 := (fun _ => by kernel_rfl)
 t70 := by kernel_rfl
 a70 := (fun _ => by kernel_rfl)
 z70 := (fun _ => by kernel_rfl)
 v70 := (fun _ => by kernel_rfl)
 t72 := by kernel_rfl
 a72 := (fun _ => by kernel_rfl)
 z72 := (fun _ => by kernel_rfl)
 v72 := (fun _ => by kernel_rfl)
 t127 := by kernel_rfl
 a127 := (fun _ => by kernel_rfl)
 z127 := (fun _ => by kernel_rfl)
 v127 := (fun _ => by kernel_rfl)
theorem nG.extra : Go.Proofs.Builder.Extra Tryz.prog nG.EB where
 sizeBuilder := by kernel_rfl
 liesBuilder := by kernel_rfl
 t5 := by kernel_rfl
 a5 := fun _ => by kernel_rfl
 z5 := fun _ => by kernel_rfl
 v5 := fun _ => by kernel_rfl
 infoByte := by kernel_rfl
 cellsByte := by kernel_rfl
 sizeByte := by kernel_rfl
 neB5 := by decide
structure aa where
 bT : Bool
 cU : Int
 cS : (List Int)
structure ba where
 Room : Int
 aY : Int
 a8 : Int
 aR : Int
structure bj where
 bx : Int
 Ip : Int
 Room : Int
 aY : Int
 cp : Int
 br : Int
 bn : Int
structure ag where
 bd : Int
 bV : Int
 aD : (List Int)
structure bA where
 Ip : Int
 cL : Int
structure aj where
 To : bA
 xw : Int
structure ah where
 aK : Int
 bx : Int
 Ip : Int
 aX : (List aa)
 bt : (List Bool)
 bz : ba
 aO : bj
 cj : Int
 cm : (List ag)
 a7 : (List aj)
 cT : Int
 bu : Bool
def aa.au (x : aa) (s : (av Unit)) : List Value := [vB x.bT, vI x.cU, ae s x.cS.length]
def aa.aN (x : aa) (s : (av Unit)) : Pr := Row 1 (pl (aE .i64)) aA s x.cS
def ag.au (x : ag) (s : (av Unit)) : List Value := [vI x.bd, vI x.bV, ae s x.aD.length]
def ag.aN (x : ag) (s : (av Unit)) : Pr := Row 1 (pl (aE .u32)) aA s x.aD
def aj.enc (x : aj) : List Value := [vT x.To.Ip, vI x.To.cL, vT x.xw]
def ah.au (x : ah) (s : ((av (av Unit)) × (av Unit) × (av (av Unit)) × (av Unit))) : List Value := [vU x.aK, vU x.bx, vT x.Ip, ae s.1 x.aX.length, ae s.2.1 x.bt.length, vI x.bz.Room, vI x.bz.aY, vI x.bz.a8, vI x.bz.aR, vU x.aO.bx, vT x.aO.Ip, vI x.aO.Room, vI x.aO.aY, vI x.aO.cp, vI x.aO.br, vI x.aO.bn, vI x.cj, ae s.2.2.1 x.cm.length, ae s.2.2.2 x.a7.length, vI x.cT, vB x.bu]
def ah.aN (x : ah) (s : ((av (av Unit)) × (av Unit) × (av (av Unit)) × (av Unit))) : Pr := fun w => (Row 3 aa.au aa.aN s.1 x.aX) w ∧ (Row 1 (pl ca) aA s.2.1 x.bt) w ∧ (Row 3 ag.au ag.aN s.2.2.1 x.cm) w ∧ (Row 3 (pl aj.enc) aA s.2.2.2 x.a7) w
def ba.v (x : ba) : Value := .agg #[vI x.Room, vI x.aY, vI x.a8, vI x.aR]
def ba.o (x : ba) : Obj := .cells #[vI x.Room, vI x.aY, vI x.a8, vI x.aR] 54 (0, 0)
structure bK where
 Fh : Int
 CQ : Int
 aK : Int
 Port : Int
 On : Int
structure cJ where
 Up : Bool
 CQ : Int
 Told : Bool
 V : bK
structure an where
 View : cJ
 Edge : Bool
 Left : Int
 Fi : Int
 State : Int
 Fg : Int
 CS : Bool
 Change : Int
def an.enc (x : an) : List Value := [vB x.View.Up, vI x.View.CQ, vB x.View.Told, vU x.View.V.Fh, vI x.View.V.CQ, vU x.View.V.aK, vI x.View.V.Port, vI x.View.V.On, vB x.Edge, vI x.Left, vI x.Fi, vI x.State, vI x.Fg, vB x.CS, vI x.Change]
structure dT where
 aK : Int
 aX : (List an)
 vq : Int
def bj.v (x : bj) : Value := .agg #[vU x.bx, vT x.Ip, vI x.Room, vI x.aY, vI x.cp, vI x.br, vI x.bn]
def bj.o (x : bj) : Obj := .cells #[vU x.bx, vT x.Ip, vI x.Room, vI x.aY, vI x.cp, vI x.br, vI x.bn] 56 (0, 0)
def aj.o (x : aj) : Obj := .cells #[vT x.To.Ip, vI x.To.cL, vT x.xw] 163 (0, 0)
def aj.v (x : aj) : Value := .agg #[vT x.To.Ip, vI x.To.cL, vT x.xw]
def bA.v (x : bA) : Value := .agg #[vT x.Ip, vI x.cL]
def bA.o (x : bA) : Obj := .cells #[vT x.Ip, vI x.cL] 161 (0, 0)
structure ax where
 Fj : Int
 S : ByteArray
def ax.enc (x : ax) : List Value := [vI x.Fj, .string x.S]
structure dZ where
 In : Bool
 Gate : Int
 Port : Int
 S : ByteArray
def dZ.enc (x : dZ) : List Value := [vB x.In, vI x.Gate, vI x.Port, .string x.S]
structure ml where
 e0 : Int
 e1 : Int
 e2 : Int
 e3 : Int
 e4 : Int
 e5 : Int
 e6 : Int
 e7 : Int
 e8 : Int
 e9 : Int
 yZ : Int
 we : Int
 Fy : Int
def ml.v (x : ml) : Value := .agg #[vI x.e0, vI x.e1, vI x.e2, vI x.e3, vI x.e4, vI x.e5, vI x.e6, vI x.e7, vI x.e8, vI x.e9, vI x.yZ, vI x.we, vI x.Fy]
def ml.o (x : ml) : Obj := .cells #[vI x.e0, vI x.e1, vI x.e2, vI x.e3, vI x.e4, vI x.e5, vI x.e6, vI x.e7, vI x.e8, vI x.e9, vI x.yZ, vI x.we, vI x.Fy] 32 (0, 0)
structure vn where
 Kind : Int
 N : Int
structure fJ where
 bd : Int
 bx : Int
 To : vn
 At : Int
 EA : Bool
def fJ.enc (x : fJ) : List Value := [vI x.bd, vU x.bx, vI x.To.Kind, vT x.To.N, vI x.At, vB x.EA]
structure gB where
 Op : Int
 vp : Int
 CP : Int
 vo : Int
 CM : Int
def gB.v (x : gB) : Value := .agg #[vI x.Op, vU x.vp, vT x.CP, vU x.vo, vT x.CM]
def gB.o (x : gB) : Obj := .cells #[vI x.Op, vU x.vp, vT x.CP, vU x.vo, vT x.CM] 294 (0, 0)
structure bN where
 v : Int
 n : Int
def bN.enc (x : bN) : List Value := [vU x.v, vI x.n]
def bN.o (x : bN) : Obj := .cells #[vU x.v, vI x.n] 532 (0, 0)
def eJ.f (a0 : Bool) (a0_1 : Int) (a0_2 : (List Int)) : Option (aa) :=
 (gK a0_2 0 (gL (a0_2.length : Int) 12)).bind fun t3 =>
 (ey 8 t3.length).bind fun u6 =>
 some (aa.mk a0 a0_1 t3)
theorem jJ (A00 : av Unit) (a0 : Bool) (a0_1 : Int) (a0_2 : (List Int)) (r : aa) (h : eJ.f a0 a0_1 a0_2 = some r) : eT Tryz.prog 35 #[.agg #[vB a0, vI a0_1, ae A00 a0_2.length]] [] ([Row 1 (pl (aE .i64)) aA A00 a0_2] ++ aI) (fun x : (av Unit) => .agg #[vB r.bT, vI r.cU, ae x r.cS.length]) (fun x => []) (fun _ => []) (fun x => [Row 1 (pl (aE .i64)) aA x r.cS] ++ ([Row 1 (pl (aE .i64)) aA A00 a0_2] ++ aI)) := by
 intro w Z hS
 refine bh (args := [.agg #[vB a0, vI a0_1, ae A00 a0_2.length]]) (L := [(0, .agg #[vB a0, vI a0_1, ae A00 a0_2.length])]) (N := 14) Tryz.func35 hS ?_
 have hM := h
 clear h hS
 unfold eJ.f at hM
 refine WP.seq ?_
 refine WP.rh [] (fun b1 => [(1, vP b1 0), (2, vP (b1 + 1) 0)]) (fun b1 => []) (fun b1 => [(b1, .cells #[vB a0, vI a0_1, ae A00 a0_2.length] 121 (0, 0)), ((b1 + 1), .cells #[vB false, vI 0, .slice none 0 0] 121 (0, 0))]) (fun b1 => ?_)
 refine WP.seq (WP.region ?_)
 refine WL.rh 7 [0, 0] (fun b2 => [(3, .slice (some ⟨b2, 0, none⟩) 0 0), (5, ae A00 a0_2.length), (9, vI (gL (a0_2.length : Int) 12))]) (fun b2 => []) (fun b2 => [(b2, .cells #[] 3 (0, 0))]) (fun b2 => ?_)
 obtain ⟨t3, h4, hM⟩ := bind_some hM
 refine WL.cd (φ := Row 1 (pl (aE .i64)) aA A00 a0_2) (ar 0 rfl) (fun w hR => fT (A := A00) (xs := a0_2) (r := t3) (kh := .i64) (h := gL (a0_2.length : Int) 12) (e := 3) (m := 1) rfl rfl hR.ptr h4 rfl rfl) (by kernel_rfl) rfl rfl ?_
 refine WL.ez (Row 1 (pl (aE .i64)) aA (A00.cut 0 1) t3) [0] [Row 1 (pl (aE .i64)) aA A00 a0_2] rfl (fun w hψ => (hψ _ (List.mem_singleton.2 rfl)).cut h4) ?_
 obtain ⟨u6, h5, hM⟩ := bind_some hM
 refine WL.ef (A := (av.at b2 0 (fun _ => ()))) (B := (A00.cut 0 1)) (ys := t3) (n := 0) (m := 1) (by_ := 8) (e := 3) (z := vI 0) (f := (pl (aE .i64))) (K := aA) (d := 11) rfl rfl rfl rfl rfl (fun _ _ => rfl) (by kernel_rfl) rfl rfl rfl rfl (ar 0 rfl) h5 rfl (fun A7 => ?_)
 refine WL.less (Φ' := ([Row 1 (pl (aE .i64)) aA A7 t3, Row 1 (pl (aE .i64)) aA (A00.cut 0 1) t3, Row 1 (pl (aE .i64)) aA A00 a0_2] ++ aI)) (fun _ h => h) ?_
 refine WL.rh 2 [0] (fun _ => []) (fun _ => [(0, 2, [ae A7 t3.length])]) (fun _ => []) (fun _ => ?_)
 refine WP.done (WP.kp [true, true, false] ?_)
 refine WP.seq ?_
 refine WP.rh [0, 0, 0, 1, 1, 1] (fun _ => []) (fun _ => [(1, 0, [vB a0, vI a0_1, ae A7 t3.length])]) (fun _ => []) (fun _ => ?_)
 refine WP.kp [false, true] ?_
 obtain rfl := oI hM
 exact WP.ret [0, 0, 0] [(b1 + 1), (b1 + 1), (b1 + 1)] (.agg #[vB a0, vI a0_1, ae A7 t3.length]) (by kernel_rfl) (fun w' hw => ⟨A7, rfl, (hw.pick [] rfl).less (aT [0] [2] rfl rfl)⟩)
def bJ.l1 (a0 : (List ag)) : Nat → (List ag) → Int → Option ((List ag))
 | 0, _, _ => none
 | n + 1, x2, x4 =>
  bif ((decide (x4 < (a0.length : Int))) && (decide (x4 < 12))) then
   (cI a0.length a0 x4).bind fun t6 =>
   (gK t6.aD 0 (gL (t6.aD.length : Int) 20)).bind fun t10 =>
   (ey 4 t10.length).bind fun u13 =>
   (ey 40 (x2 ++ ([(ag.mk t6.bd t6.bV t10)] : List ag)).length).bind fun u17 =>
   bJ.l1 a0 n (x2 ++ ([(ag.mk t6.bd t6.bV t10)] : List ag)) (i64 (x4 + 1))
  else
   some x2
def bJ.f (k : Nat) (a0 : (List ag)) : Option ((List ag)) :=
 bJ.l1 a0 k ([] : List ag) 0
theorem jI (k : Nat) (A00 : av (av Unit)) (a0 : (List ag)) (r : (List ag)) (h : bJ.f k a0 = some r) : eT Tryz.prog 36 #[ae A00 a0.length] [] ([Row 3 ag.au ag.aN A00 a0] ++ aI) (fun x : (av (av Unit)) => ae x r.length) (fun x => []) (fun _ => []) (fun x => [Row 3 ag.au ag.aN x r] ++ ([Row 3 ag.au ag.aN A00 a0] ++ aI)) := by
 intro w Z hS
 refine bh (args := [ae A00 a0.length]) (L := [(0, ae A00 a0.length)]) (N := 36) Tryz.func36 hS ?_
 have hM := h
 clear h hS
 unfold bJ.f at hM
 refine WP.seq (WP.rn [] [(2, .slice none 0 0)] ?_)
 refine WP.seq ?_
 refine WP.rh [] (fun b1 => [(3, .slice (some ⟨b1, 0, none⟩) 0 0)]) (fun b1 => []) (fun b1 => [(b1, .cells #[] 143 (0, 0))]) (fun b1 => ?_)
 refine WP.seq (WP.seq (WP.rn [] [(4, vI 0)] ?_))
 refine WP.block ?_
 refine WP.fb (H' := []) (m := 3) (e := 143) (f := ag.au) ag.aN 0 (b := b1) (cs := #[]) (fP [] (av.nil (fun _ => ()))) ([] : List ag) rfl (fun _ _ => rfl) rfl (by decide) [] [] rfl (fun w hψ => trivial) rfl ?_
 refine WP.sub [0, 2, 3, 4] (L' := [(0, ae A00 a0.length), (2, .slice none 0 0), (3, ae (av.at b1 0 (fP [] (av.nil (fun _ => ())))) ([] : List ag).length), (4, vI 0)]) rfl ?_
 refine WP.aQ [0, 0, 1] (F' := [bC ag.aN (av.at b1 0 (fP [] (av.nil (fun _ => ())))) ([] : List ag), bC ag.aN (av.at b1 0 (fP [] (av.nil (fun _ => ())))) ([] : List ag), Row 3 ag.au ag.aN A00 a0]) rfl ?_
 refine WP.loop (σ := (List ag) × av (av Unit) × Int) (fun n st => bJ.l1 a0 n st.1 st.2.2) r (fun st => [(0, ae A00 a0.length), (2, .slice none 0 0), (3, ae st.2.1 st.1.length), (4, vI st.2.2)]) (fun st => Sat w Z [] [bL 3 143 ag.au st.2.1 st.1] ([bC ag.aN st.2.1 st.1, bC ag.aN (av.at b1 0 (fP [] (av.nil (fun _ => ())))) ([] : List ag), Row 3 ag.au ag.aN A00 a0] ++ aI)) (st := (([] : List ag), (av.at b1 0 (fP [] (av.nil (fun _ => ())))), 0)) (fun n st hM => ?_) hM
 rcases n with _ | n
 ·exact nomatch (show (none : Option _) = some r from hM)
 obtain ⟨x2, A3, x4⟩ := st
 replace hM : bJ.l1 a0 (n + 1) x2 x4 = some r := hM
 rw [bJ.l1] at hM
 try dsimp only
 refine WP.seq (WP.seq (WP.region (WL.rn 5 [] [(7, vI x4), (8, ae A00 a0.length), (9, vI (a0.length : Int)), (10, vB (decide (x4 < (a0.length : Int)))), (11, vB (decide (x4 < (a0.length : Int))))] ?_)))
 refine WL.bo 11 (decide (x4 < (a0.length : Int))) 3 [] [] (fun b' => [(14, vB (b' && (decide (x4 < 12))))]) ?_
 refine WP.done ?_
 refine WP.cond ((decide (x4 < (a0.length : Int))) && (decide (x4 < 12))) rfl rfl (fun c5 => ?_) (fun c5 => ?_)
 ·replace hM := aG hM c5
  refine WP.skip (WP.seq (WP.block (WP.seq (WP.region (WL.rn 2 [] [(17, ae A00 a0.length), (18, vI x4)] ?_)))))
  obtain ⟨t6, h7, hM⟩ := bind_some hM
  refine WL.cd (φ := Row 3 ag.au ag.aN A00 a0) (ar 2 rfl) (fun w hR => aJ (A := A00) (xs := a0) (i := x4) (k := .i64) (e := 143) (m := 3) rfl rfl h7 rfl rfl hR) (by kernel_rfl) rfl rfl ?_
  refine WL.cd (φ := Row 3 ag.au ag.aN A00 a0) (ar 2 rfl) (fun w hR => b4 (A := A00) (xs := a0) (i := x4) (j := 0) (n := 3) (vs := [vI t6.bd, vI t6.bV, ae (A00.s (Int.toNat x4)) t6.aD.length]) h7 (fun _ => by kernel_rfl) rfl rfl rfl rfl hR) (by kernel_rfl) rfl rfl ?_
  refine WL.ez (Row 1 (pl (aE .u32)) aA (A00.s (Int.toNat x4)) t6.aD) [2] [Row 3 ag.au ag.aN A00 a0] rfl (fun w hψ => ((hψ _ (List.mem_singleton.2 rfl)).inner _ _ (bg h7).2)) ?_
  refine WL.rh 2 [0, 0, 0] (fun b8 => [(5, vP b8 0)]) (fun b8 => []) (fun b8 => [(b8, .cells #[vI t6.bd, vI t6.bV, ae (A00.s (Int.toNat x4)) t6.aD.length] 143 (0, 0))]) (fun b8 => ?_)
  refine WP.done (WP.seq (WP.region ?_))
  refine WL.rh 7 [0, 0] (fun b9 => [(21, .slice (some ⟨b9, 0, none⟩) 0 0), (22, vP b8 2), (23, ae (A00.s (Int.toNat x4)) t6.aD.length), (24, vP b8 2), (25, ae (A00.s (Int.toNat x4)) t6.aD.length), (26, vI (t6.aD.length : Int)), (27, vI (gL (t6.aD.length : Int) 20))]) (fun b9 => []) (fun b9 => [(b9, .cells #[] 50 (0, 0))]) (fun b9 => ?_)
  obtain ⟨t10, h11, hM⟩ := bind_some hM
  refine WL.cd (φ := Row 1 (pl (aE .u32)) aA (A00.s (Int.toNat x4)) t6.aD) (ar 0 rfl) (fun w hR => fT (A := (A00.s (Int.toNat x4))) (xs := t6.aD) (r := t10) (kh := .i64) (h := gL (t6.aD.length : Int) 20) (e := 50) (m := 1) rfl rfl hR.ptr h11 rfl rfl) (by kernel_rfl) rfl rfl ?_
  refine WL.ez (Row 1 (pl (aE .u32)) aA ((A00.s (Int.toNat x4)).cut 0 1) t10) [0] [Row 1 (pl (aE .u32)) aA (A00.s (Int.toNat x4)) t6.aD] rfl (fun w hψ => (hψ _ (List.mem_singleton.2 rfl)).cut h11) ?_
  refine WL.fb (H' := [(b8, .cells #[vI t6.bd, vI t6.bV, ae (A00.s (Int.toNat x4)) t6.aD.length] 143 (0, 0))]) (m := 1) (e := 50) (f := (pl (aE .u32))) aA 1 (b := b9) (cs := #[]) (fun _ => ()) ([] : List Int) rfl (fun _ _ => rfl) rfl (by decide) [] [] rfl (fun w hψ => (jj.no _ _)) rfl ?_
  obtain ⟨u13, h12, hM⟩ := bind_some hM
  refine WL.dW (G' := [bL 3 143 ag.au A3 x2]) (A := (av.at b9 0 (fun _ => ()))) (B := ((A00.s (Int.toNat x4)).cut 0 1)) (xs := ([] : List Int)) (ys := t10) (m := 1) (by_ := 4) (e := 50) (z := vT 0) (f := (pl (aE .u32))) (K := aA) (d := 29) 0 rfl rfl rfl rfl rfl rfl rfl (fun _ _ => rfl) (fun _ _ => rfl) (by kernel_rfl) rfl rfl rfl rfl (ar 0 rfl) (ar 1 rfl) h12 rfl (fun A14 => ?_)
  refine WL.less (Φ' := ([bC aA A14 t10, bC aA (av.at b9 0 (fun _ => ())) ([] : List Int), Row 1 (pl (aE .u32)) aA ((A00.s (Int.toNat x4)).cut 0 1) t10, Row 1 (pl (aE .u32)) aA (A00.s (Int.toNat x4)) t6.aD, bC ag.aN A3 x2, bC ag.aN (av.at b1 0 (fP [] (av.nil (fun _ => ())))) ([] : List ag), Row 3 ag.au ag.aN A00 a0] ++ aI)) (fun _ h => h) ?_
  refine WL.rh 2 [0] (fun _ => [(30, vP b8 2)]) (fun _ => [(0, 2, [ae A14 t10.length])]) (fun _ => []) (fun _ => ?_)
  refine WP.done (WP.region ?_)
  refine WL.rh 3 [0, 0, 0] (fun b15 => [(31, ae A3 x2.length), (32, .agg #[vI t6.bd, vI t6.bV, ae A14 t10.length]), (33, .slice (some ⟨b15, 0, none⟩) 1 1)]) (fun b15 => []) (fun b15 => [(b15, .cells #[vI t6.bd, vI t6.bV, ae A14 t10.length] 143 (0, 0))]) (fun b15 => ?_)
  refine WL.dD (G' := [bL 3 143 ag.au A3 x2]) (m := 1) (e := 50) (f := (pl (aE .u32))) (K := aA) (A := A14) (xs := t10) 0 0 rfl rfl (fun _ _ => rfl) rfl ?_
  refine WL.tW (H' := [(b8, .cells #[vI t6.bd, vI t6.bV, ae A14 t10.length] 143 (0, 0))]) (Row 3 ag.au ag.aN (av.at b15 1 (fP [A14] (av.nil (fun _ => ())))) ([(ag.mk t6.bd t6.bV t10)] : List ag)) 1 (b := b15) (ob := .cells #[vI t6.bd, vI t6.bV, ae A14 t10.length] 143 (0, 0)) rfl [0] [Row 1 (pl (aE .u32)) aA A14 t10] rfl (fun w hb hψ => cl hb (fun _ _ => rfl) ⟨[], by kernel_rfl⟩ (nB rfl) (And.intro (hψ _ (List.mem_of_getElem? (i := 0) rfl)) trivial)) rfl ?_
  obtain ⟨u17, h16, hM⟩ := bind_some hM
  refine WL.dW (G' := []) (A := A3) (B := (av.at b15 1 (fP [A14] (av.nil (fun _ => ()))))) (xs := x2) (ys := ([(ag.mk t6.bd t6.bV t10)] : List ag)) (m := 3) (by_ := 40) (e := 143) (z := .agg #[vI 0, vI 0, .slice none 0 0]) (f := ag.au) (K := ag.aN) (d := 34) 0 rfl rfl rfl rfl rfl rfl rfl (fun _ _ => rfl) (fun _ _ => rfl) (by kernel_rfl) rfl rfl rfl rfl (ar 6 rfl) (ar 0 rfl) h16 rfl (fun A18 => ?_)
  refine WL.less (Φ' := ([bC ag.aN A18 (x2 ++ ([(ag.mk t6.bd t6.bV t10)] : List ag)), Row 3 ag.au ag.aN (av.at b15 1 (fP [A14] (av.nil (fun _ => ())))) ([(ag.mk t6.bd t6.bV t10)] : List ag), Row 1 (pl (aE .u32)) aA A14 t10, bC aA A14 t10, bC aA (av.at b9 0 (fun _ => ())) ([] : List Int), Row 1 (pl (aE .u32)) aA ((A00.s (Int.toNat x4)).cut 0 1) t10, Row 1 (pl (aE .u32)) aA (A00.s (Int.toNat x4)) t6.aD, bC ag.aN A3 x2, bC ag.aN (av.at b1 0 (fP [] (av.nil (fun _ => ())))) ([] : List ag), Row 3 ag.au ag.aN A00 a0] ++ aI)) (fun _ h => h) ?_
  refine WL.rn 1 [] [(3, ae A18 (x2 ++ ([(ag.mk t6.bd t6.bV t10)] : List ag)).length)] ?_
  refine WP.done (WP.leave (WP.rn [] [(4, vI (i64 (x4 + 1))), (15, vI x4), (16, vI (i64 (x4 + 1)))] ?_))
  exact WP.cN [0, 2, 3, 4] ((x2 ++ ([(ag.mk t6.bd t6.bV t10)] : List ag)), A18, i64 (x4 + 1)) hM rfl (fun _ h => ((h.pick [] rfl).aQ [0, 8, 9] rfl).dE [0] [] 1 rfl (by decide) rfl)
 ·replace hM := aH hM c5
  refine WP.exit rfl (WP.seq (WP.rn [] [(2, ae A3 x2.length)] ?_))
  refine WP.dD (G' := []) (m := 3) (e := 143) (f := ag.au) (K := ag.aN) (A := A3) (xs := x2) 0 0 rfl rfl (fun _ _ => rfl) rfl ?_
  obtain rfl := oI hM
  exact WP.ret [] [] (ae A3 x2.length) (by kernel_rfl) (fun w' hw => ⟨A3, rfl, (hw.pick [] rfl).less (aT [0] [3] rfl rfl)⟩)
def bF.l1 (a0_3 : (List aa)) (a0_4 : (List Bool)) (k : Nat) (a0_8 : (List ag)) (a0_9 : (List aj)) (a0 : Int) (a0_1 : Int) (a0_2 : Int) (a0_5 : ba) (a0_6 : bj) (a0_7 : Int) (a0_10 : Int) (a0_11 : Bool) : Nat → Int → (List aa) → Option (ah)
 | 0, _, _ => none
 | n + 1, x15, x16 =>
  bif ((decide (x15 < (a0_3.length : Int))) && (decide (x15 < 5))) then
   (cI a0_3.length a0_3 x15).bind fun t19 =>
   (eJ.f t19.bT t19.cU t19.cS).bind fun r21 =>
   (ey 40 (x16 ++ ([r21] : List aa)).length).bind fun u26 =>
   bF.l1 a0_3 a0_4 k a0_8 a0_9 a0 a0_1 a0_2 a0_5 a0_6 a0_7 a0_10 a0_11 n (i64 (x15 + 1)) (x16 ++ ([r21] : List aa))
  else
   (gK a0_4 0 (gL (a0_4.length : Int) 5)).bind fun t29 =>
   (ey 1 t29.length).bind fun u32 =>
   (bJ.f k a0_8).bind fun r34 =>
   (gK a0_9 0 (gL (a0_9.length : Int) 8)).bind fun t38 =>
   (ey 24 t38.length).bind fun u41 =>
   some (ah.mk a0 a0_1 a0_2 x16 t29 (ba.mk (gL a0_5.Room 64) a0_5.aY a0_5.a8 a0_5.aR) (bj.mk a0_6.bx a0_6.Ip (gL a0_6.Room 64) a0_6.aY a0_6.cp a0_6.br a0_6.bn) a0_7 r34 t38 a0_10 a0_11)
def bF.f (k : Nat) (a0 : Int) (a0_1 : Int) (a0_2 : Int) (a0_3 : (List aa)) (a0_4 : (List Bool)) (a0_5 : ba) (a0_6 : bj) (a0_7 : Int) (a0_8 : (List ag)) (a0_9 : (List aj)) (a0_10 : Int) (a0_11 : Bool) : Option (ah) :=
 bF.l1 a0_3 a0_4 k a0_8 a0_9 a0 a0_1 a0_2 a0_5 a0_6 a0_7 a0_10 a0_11 k 0 ([] : List aa)
theorem jH (k : Nat) (A00 : av (av Unit)) (A01 : av Unit) (A02 : av (av Unit)) (A03 : av Unit) (a0 : Int) (a0_1 : Int) (a0_2 : Int) (a0_3 : (List aa)) (a0_4 : (List Bool)) (a0_5 : ba) (a0_6 : bj) (a0_7 : Int) (a0_8 : (List ag)) (a0_9 : (List aj)) (a0_10 : Int) (a0_11 : Bool) (r : ah) (h : bF.f k a0 a0_1 a0_2 a0_3 a0_4 a0_5 a0_6 a0_7 a0_8 a0_9 a0_10 a0_11 = some r) : eT Tryz.prog 16 #[.agg #[vU a0, vU a0_1, vT a0_2, ae A00 a0_3.length, ae A01 a0_4.length, vI a0_5.Room, vI a0_5.aY, vI a0_5.a8, vI a0_5.aR, vU a0_6.bx, vT a0_6.Ip, vI a0_6.Room, vI a0_6.aY, vI a0_6.cp, vI a0_6.br, vI a0_6.bn, vI a0_7, ae A02 a0_8.length, ae A03 a0_9.length, vI a0_10, vB a0_11]] [] ([Row 3 aa.au aa.aN A00 a0_3, Row 1 (pl ca) aA A01 a0_4, Row 3 ag.au ag.aN A02 a0_8, Row 3 (pl aj.enc) aA A03 a0_9] ++ aI) (fun x : ((av (av Unit)) × (av Unit) × (av (av Unit)) × (av Unit)) => .agg #[vU r.aK, vU r.bx, vT r.Ip, ae x.1 r.aX.length, ae x.2.1 r.bt.length, vI r.bz.Room, vI r.bz.aY, vI r.bz.a8, vI r.bz.aR, vU r.aO.bx, vT r.aO.Ip, vI r.aO.Room, vI r.aO.aY, vI r.aO.cp, vI r.aO.br, vI r.aO.bn, vI r.cj, ae x.2.2.1 r.cm.length, ae x.2.2.2 r.a7.length, vI r.cT, vB r.bu]) (fun x => []) (fun _ => []) (fun x => [Row 3 aa.au aa.aN x.1 r.aX, Row 1 (pl ca) aA x.2.1 r.bt, Row 3 ag.au ag.aN x.2.2.1 r.cm, Row 3 (pl aj.enc) aA x.2.2.2 r.a7] ++ ([Row 3 aa.au aa.aN A00 a0_3, Row 1 (pl ca) aA A01 a0_4, Row 3 ag.au ag.aN A02 a0_8, Row 3 (pl aj.enc) aA A03 a0_9] ++ aI)) := by
 intro w Z hS
 refine bh (args := [.agg #[vU a0, vU a0_1, vT a0_2, ae A00 a0_3.length, ae A01 a0_4.length, vI a0_5.Room, vI a0_5.aY, vI a0_5.a8, vI a0_5.aR, vU a0_6.bx, vT a0_6.Ip, vI a0_6.Room, vI a0_6.aY, vI a0_6.cp, vI a0_6.br, vI a0_6.bn, vI a0_7, ae A02 a0_8.length, ae A03 a0_9.length, vI a0_10, vB a0_11]]) (L := [(0, .agg #[vU a0, vU a0_1, vT a0_2, ae A00 a0_3.length, ae A01 a0_4.length, vI a0_5.Room, vI a0_5.aY, vI a0_5.a8, vI a0_5.aR, vU a0_6.bx, vT a0_6.Ip, vI a0_6.Room, vI a0_6.aY, vI a0_6.cp, vI a0_6.br, vI a0_6.bn, vI a0_7, ae A02 a0_8.length, ae A03 a0_9.length, vI a0_10, vB a0_11])]) (N := 67) Tryz.func16 hS ?_
 have hM := h
 clear h hS
 unfold bF.f at hM
 refine WP.seq ?_
 refine WP.rh [] (fun b1 => [(1, vP b1 0), (2, vP (b1 + 1) 0)]) (fun b1 => []) (fun b1 => [(b1, .cells #[vU a0, vU a0_1, vT a0_2, ae A00 a0_3.length, ae A01 a0_4.length, vI a0_5.Room, vI a0_5.aY, vI a0_5.a8, vI a0_5.aR, vU a0_6.bx, vT a0_6.Ip, vI a0_6.Room, vI a0_6.aY, vI a0_6.cp, vI a0_6.br, vI a0_6.bn, vI a0_7, ae A02 a0_8.length, ae A03 a0_9.length, vI a0_10, vB a0_11] 60 (0, 0)), ((b1 + 1), .cells #[vU 0, vU 0, vT 0, .slice none 0 0, .slice none 0 0, vI 0, vI 0, vI 0, vI 0, vU 0, vT 0, vI 0, vI 0, vI 0, vI 0, vI 0, vI 0, .slice none 0 0, .slice none 0 0, vI 0, vB false] 60 (0, 0))]) (fun b1 => ?_)
 refine WP.seq ?_
 refine WP.rh [0, 0, 0, 0, 0, 0, 0, 0, 0, 0, 0, 0, 0, 0, 0, 0, 0, 0, 0, 0, 0, 2, 2, 2, 2, 2, 2, 2, 2, 2, 2, 2, 2, 2, 2, 2, 2, 2, 2, 2, 2, 2] (fun b2 => [(3, vP b2 0)]) (fun b2 => []) (fun b2 => [(b2, .cells #[vU a0, vU a0_1, vT a0_2, ae A00 a0_3.length, ae A01 a0_4.length, vI a0_5.Room, vI a0_5.aY, vI a0_5.a8, vI a0_5.aR, vU a0_6.bx, vT a0_6.Ip, vI a0_6.Room, vI a0_6.aY, vI a0_6.cp, vI a0_6.br, vI a0_6.bn, vI a0_7, ae A02 a0_8.length, ae A03 a0_9.length, vI a0_10, vB a0_11] 60 (0, 0))]) (fun b2 => ?_)
 refine WP.seq ?_
 refine WP.rh [2] (fun b3 => []) (fun b3 => [(2, 3, [.slice (some ⟨b3, 0, none⟩) 0 0])]) (fun b3 => [(b3, .cells #[] 121 (0, 0))]) (fun b3 => ?_)
 refine WP.seq (WP.seq (WP.rn [] [(4, vI 0)] ?_))
 refine WP.block ?_
 refine WP.fb (H' := [(b1, .cells #[vU a0, vU a0_1, vT a0_2, ae A00 a0_3.length, ae A01 a0_4.length, vI a0_5.Room, vI a0_5.aY, vI a0_5.a8, vI a0_5.aR, vU a0_6.bx, vT a0_6.Ip, vI a0_6.Room, vI a0_6.aY, vI a0_6.cp, vI a0_6.br, vI a0_6.bn, vI a0_7, ae A02 a0_8.length, ae A03 a0_9.length, vI a0_10, vB a0_11] 60 (0, 0)), ((b1 + 1), .cells #[vU 0, vU 0, vT 0, .slice none 0 0, .slice none 0 0, vI 0, vI 0, vI 0, vI 0, vU 0, vT 0, vI 0, vI 0, vI 0, vI 0, vI 0, vI 0, .slice none 0 0, .slice none 0 0, vI 0, vB false] 60 (0, 0)), (b2, .cells #[vU a0, vU a0_1, vT a0_2, ae (av.at b3 0 (fP [] (av.nil (fun _ => ())))) ([] : List aa).length, ae A01 a0_4.length, vI a0_5.Room, vI a0_5.aY, vI a0_5.a8, vI a0_5.aR, vU a0_6.bx, vT a0_6.Ip, vI a0_6.Room, vI a0_6.aY, vI a0_6.cp, vI a0_6.br, vI a0_6.bn, vI a0_7, ae A02 a0_8.length, ae A03 a0_9.length, vI a0_10, vB a0_11] 60 (0, 0))]) (m := 3) (e := 121) (f := aa.au) aa.aN 3 (b := b3) (cs := #[]) (fP [] (av.nil (fun _ => ()))) ([] : List aa) rfl (fun _ _ => rfl) rfl (by decide) [] [] rfl (fun w hψ => trivial) rfl ?_
 skip
 refine WP.sub [1, 2, 3, 4] (L' := [(1, vP b1 0), (2, vP (b1 + 1) 0), (3, vP b2 0), (4, vI 0)]) rfl ?_
 refine WP.aQ [0, 0, 1, 2, 3, 4] (F' := [bC aa.aN (av.at b3 0 (fP [] (av.nil (fun _ => ())))) ([] : List aa), bC aa.aN (av.at b3 0 (fP [] (av.nil (fun _ => ())))) ([] : List aa), Row 3 aa.au aa.aN A00 a0_3, Row 1 (pl ca) aA A01 a0_4, Row 3 ag.au ag.aN A02 a0_8, Row 3 (pl aj.enc) aA A03 a0_9]) rfl ?_
 refine WP.loop (σ := Int × (List aa) × av (av Unit)) (fun n st => bF.l1 a0_3 a0_4 k a0_8 a0_9 a0 a0_1 a0_2 a0_5 a0_6 a0_7 a0_10 a0_11 n st.1 st.2.1) r (fun st => [(1, vP b1 0), (2, vP (b1 + 1) 0), (3, vP b2 0), (4, vI st.1)]) (fun st => Sat w Z [(b1, .cells #[vU a0, vU a0_1, vT a0_2, ae A00 a0_3.length, ae A01 a0_4.length, vI a0_5.Room, vI a0_5.aY, vI a0_5.a8, vI a0_5.aR, vU a0_6.bx, vT a0_6.Ip, vI a0_6.Room, vI a0_6.aY, vI a0_6.cp, vI a0_6.br, vI a0_6.bn, vI a0_7, ae A02 a0_8.length, ae A03 a0_9.length, vI a0_10, vB a0_11] 60 (0, 0)), ((b1 + 1), .cells #[vU 0, vU 0, vT 0, .slice none 0 0, .slice none 0 0, vI 0, vI 0, vI 0, vI 0, vU 0, vT 0, vI 0, vI 0, vI 0, vI 0, vI 0, vI 0, .slice none 0 0, .slice none 0 0, vI 0, vB false] 60 (0, 0)), (b2, .cells #[vU a0, vU a0_1, vT a0_2, ae st.2.2 st.2.1.length, ae A01 a0_4.length, vI a0_5.Room, vI a0_5.aY, vI a0_5.a8, vI a0_5.aR, vU a0_6.bx, vT a0_6.Ip, vI a0_6.Room, vI a0_6.aY, vI a0_6.cp, vI a0_6.br, vI a0_6.bn, vI a0_7, ae A02 a0_8.length, ae A03 a0_9.length, vI a0_10, vB a0_11] 60 (0, 0))] [bL 3 121 aa.au st.2.2 st.2.1] ([bC aa.aN st.2.2 st.2.1, bC aa.aN (av.at b3 0 (fP [] (av.nil (fun _ => ())))) ([] : List aa), Row 3 aa.au aa.aN A00 a0_3, Row 1 (pl ca) aA A01 a0_4, Row 3 ag.au ag.aN A02 a0_8, Row 3 (pl aj.enc) aA A03 a0_9] ++ aI)) (st := (0, ([] : List aa), (av.at b3 0 (fP [] (av.nil (fun _ => ())))))) (fun n st hM => ?_) hM
 rcases n with _ | n
 ·exact nomatch (show (none : Option _) = some r from hM)
 obtain ⟨x15, x16, A17⟩ := st
 replace hM : bF.l1 a0_3 a0_4 k a0_8 a0_9 a0 a0_1 a0_2 a0_5 a0_6 a0_7 a0_10 a0_11 (n + 1) x15 x16 = some r := hM
 rw [bF.l1] at hM
 try dsimp only
 refine WP.seq (WP.seq (WP.region ?_))
 refine WL.rn 6 [0] [(8, vI x15), (9, vP b1 3), (10, ae A00 a0_3.length), (11, vI (a0_3.length : Int)), (12, vB (decide (x15 < (a0_3.length : Int)))), (13, vB (decide (x15 < (a0_3.length : Int))))] ?_
 refine WL.bo 13 (decide (x15 < (a0_3.length : Int))) 3 [] [] (fun b' => [(16, vB (b' && (decide (x15 < 5))))]) ?_
 refine WP.done ?_
 refine WP.cond ((decide (x15 < (a0_3.length : Int))) && (decide (x15 < 5))) rfl rfl (fun c18 => ?_) (fun c18 => ?_)
 ·replace hM := aG hM c18
  refine WP.skip (WP.seq (WP.block ?_))
  obtain ⟨t19, h20, hM⟩ := bind_some hM
  obtain ⟨r21, h22, hM⟩ := bind_some hM
  obtain ⟨u26, h25, hM⟩ := bind_some hM
  refine WP.rs [1, 2, 3, 4, 8, 9, 10, 11, 12, 13, 16] ?_
  refine WP.fB (X := ((av Unit) × Nat × (av (av Unit)))) 12 7 [⟨0, 12, fun _ => [(b1, .cells #[vU a0, vU a0_1, vT a0_2, ae A00 a0_3.length, ae A01 a0_4.length, vI a0_5.Room, vI a0_5.aY, vI a0_5.a8, vI a0_5.aR, vU a0_6.bx, vT a0_6.Ip, vI a0_6.Room, vI a0_6.aY, vI a0_6.cp, vI a0_6.br, vI a0_6.bn, vI a0_7, ae A02 a0_8.length, ae A03 a0_9.length, vI a0_10, vB a0_11] 60 (0, 0))], fun _ => []⟩, ⟨0, 12, fun _ => [((b1 + 1), .cells #[vU 0, vU 0, vT 0, .slice none 0 0, .slice none 0 0, vI 0, vI 0, vI 0, vI 0, vU 0, vT 0, vI 0, vI 0, vI 0, vI 0, vI 0, vI 0, .slice none 0 0, .slice none 0 0, vI 0, vB false] 60 (0, 0))], fun _ => []⟩, ⟨0, 11, fun _ => [(b2, .cells #[vU a0, vU a0_1, vT a0_2, ae A17 x16.length, ae A01 a0_4.length, vI a0_5.Room, vI a0_5.aY, vI a0_5.a8, vI a0_5.aR, vU a0_6.bx, vT a0_6.Ip, vI a0_6.Room, vI a0_6.aY, vI a0_6.cp, vI a0_6.br, vI a0_6.bn, vI a0_7, ae A02 a0_8.length, ae A03 a0_9.length, vI a0_10, vB a0_11] 60 (0, 0))], fun _ => []⟩, ⟨0, 9, fun _ => [], fun _ => [bL 3 121 aa.au A17 x16]⟩, ⟨9, 9, fun ξ => [((ξ 8).2.1, .cells #[vB r21.bT, vI r21.cU, ae (ξ 7).1 r21.cS.length] 121 (0, 0))], fun ξ => []⟩, ⟨10, 12, fun ξ => [], fun ξ => [bL 3 121 aa.au (ξ 9).2.2 (x16 ++ ([r21] : List aa))]⟩, ⟨12, 12, fun ξ => [(b2, .cells #[vU a0, vU a0_1, vT a0_2, ae (ξ 9).2.2 (x16 ++ ([r21] : List aa)).length, ae A01 a0_4.length, vI a0_5.Room, vI a0_5.aY, vI a0_5.a8, vI a0_5.aR, vU a0_6.bx, vT a0_6.Ip, vI a0_6.Room, vI a0_6.aY, vI a0_6.cp, vI a0_6.br, vI a0_6.bn, vI a0_7, ae A02 a0_8.length, ae A03 a0_9.length, vI a0_10, vB a0_11] 60 (0, 0))], fun ξ => []⟩] [⟨[], [], [], [], [], fun _ => vP b2 3, fun _ => []⟩, ⟨[0], [2], [2], [], [], fun _ => ae A17 x16.length, fun _ => []⟩, ⟨[], [], [], [], [], fun _ => vP b1 3, fun _ => []⟩, ⟨[2], [0], [0], [], [], fun _ => ae A00 a0_3.length, fun _ => []⟩, ⟨[], [], [], [], [], fun _ => vI x15, fun _ => []⟩, ⟨[2, 3, 4], [], [], [], [], fun _ => dM A00 (Int.toNat x15 * 3), fun _ => []⟩, ⟨[2, 3, 4, 5], [], [], [], [], fun _ => .agg #[vB t19.bT, vI t19.cU, ae (A00.s (Int.toNat x15)) t19.cS.length], fun _ => [Row 1 (pl (aE .i64)) aA (A00.s (Int.toNat x15)) t19.cS]⟩, ⟨[2, 3, 4, 5, 6], [], [], [], [], fun ξ => .agg #[vB r21.bT, vI r21.cU, ae (ξ 7).1 r21.cS.length], fun ξ => [Row 1 (pl (aE .i64)) aA (ξ 7).1 r21.cS]⟩, ⟨[2, 3, 4, 5, 6, 7], [], [4], [7], [], fun ξ => .slice (some ⟨(ξ 8).2.1, 0, none⟩) 1 1, fun ξ => []⟩, ⟨[0, 1, 2, 3, 4, 5, 6, 7, 8], [4, 3], [5], [7, 8], [], fun ξ => ae (ξ 9).2.2 (x16 ++ ([r21] : List aa)).length, fun ξ => [bC aa.aN (ξ 9).2.2 (x16 ++ ([r21] : List aa)), Row 3 aa.au aa.aN (av.at (ξ 8).2.1 1 (fP [(ξ 7).1] (av.nil (fun _ => ())))) ([r21] : List aa)]⟩, ⟨[0, 1, 2, 3, 4, 5, 6, 7, 8, 9], [], [], [], [], fun _ => vP b2 3, fun _ => []⟩, ⟨[0, 1, 2, 3, 4, 5, 6, 7, 8, 9, 10], [2], [6], [9], [], fun _ => .tuple #[], fun _ => []⟩] (fun ξ => [(19, vP b2 3), (21, vP b1 3), (22, ae A00 a0_3.length), (23, vI x15), (24, dM A00 (Int.toNat x15 * 3)), (25, .agg #[vB t19.bT, vI t19.cU, ae (A00.s (Int.toNat x15)) t19.cS.length]), (26, .agg #[vB r21.bT, vI r21.cU, ae (ξ 7).1 r21.cS.length]), (28, ae (ξ 9).2.2 (x16 ++ ([r21] : List aa)).length), (29, vP b2 3)]) (fun ξ => [(b1, .cells #[vU a0, vU a0_1, vT a0_2, ae A00 a0_3.length, ae A01 a0_4.length, vI a0_5.Room, vI a0_5.aY, vI a0_5.a8, vI a0_5.aR, vU a0_6.bx, vT a0_6.Ip, vI a0_6.Room, vI a0_6.aY, vI a0_6.cp, vI a0_6.br, vI a0_6.bn, vI a0_7, ae A02 a0_8.length, ae A03 a0_9.length, vI a0_10, vB a0_11] 60 (0, 0)), ((b1 + 1), .cells #[vU 0, vU 0, vT 0, .slice none 0 0, .slice none 0 0, vI 0, vI 0, vI 0, vI 0, vU 0, vT 0, vI 0, vI 0, vI 0, vI 0, vI 0, vI 0, .slice none 0 0, .slice none 0 0, vI 0, vB false] 60 (0, 0)), (b2, .cells #[vU a0, vU a0_1, vT a0_2, ae (ξ 9).2.2 (x16 ++ ([r21] : List aa)).length, ae A01 a0_4.length, vI a0_5.Room, vI a0_5.aY, vI a0_5.a8, vI a0_5.aR, vU a0_6.bx, vT a0_6.Ip, vI a0_6.Room, vI a0_6.aY, vI a0_6.cp, vI a0_6.br, vI a0_6.bn, vI a0_7, ae A02 a0_8.length, ae A03 a0_9.length, vI a0_10, vB a0_11] 60 (0, 0))]) (fun ξ => [bL 3 121 aa.au (ξ 9).2.2 (x16 ++ ([r21] : List aa))]) (fun ξ => [Row 1 (pl (aE .i64)) aA (A00.s (Int.toNat x15)) t19.cS, Row 1 (pl (aE .i64)) aA (ξ 7).1 r21.cS, bC aa.aN (ξ 9).2.2 (x16 ++ ([r21] : List aa)), Row 3 aa.au aa.aN (av.at (ξ 8).2.1 1 (fP [(ξ 7).1] (av.nil (fun _ => ())))) ([r21] : List aa)]) (aq.cons ?_ (aq.cons ?_ (aq.cons ?_ (aq.cons ?_ (aq.cons ?_ (aq.cons ?_ (aq.cons ?_ (aq.cons ?_ (aq.cons ?_ (aq.cons ?_ (aq.cons ?_ (aq.cons ?_ aq.nil)))))))))))) (aq.cons (bf.c rfl) (aq.cons (bf.c rfl) (aq.cons (bf.c rfl) (aq.cons (bf.c rfl) (aq.cons (bf.c rfl) (aq.cons (bf.c rfl) (aq.cons (bf.c rfl) (aq.cons (fun t ht ξ ξ' h => by cases ht; have e7 : ξ 7 = ξ' 7 := h 7 (aC.1 rfl); exact ⟨by first | rfl | simp only [e7], by first | rfl | simp only [e7]⟩) (aq.cons (fun t ht ξ ξ' h => by cases ht; have e8 : ξ 8 = ξ' 8 := h 8 (aC.1 rfl); exact ⟨by first | rfl | simp only [e8], by first | rfl | simp only [e8]⟩) (aq.cons (fun t ht ξ ξ' h => by cases ht; have e7 : ξ 7 = ξ' 7 := h 7 (aC.1 rfl); have e8 : ξ 8 = ξ' 8 := h 8 (aC.1 rfl); have e9 : ξ 9 = ξ' 9 := h 9 (aC.1 rfl); exact ⟨by first | rfl | simp only [e7, e8, e9], by first | rfl | simp only [e7, e8, e9]⟩) (aq.cons (bf.c rfl) (aq.cons (bf.c rfl) aq.nil)))))))))))) (aq.cons (dA.c rfl) (aq.cons (dA.c rfl) (aq.cons (dA.c rfl) (aq.cons (dA.c rfl) (aq.cons (fun r hr ξ ξ' h => by cases hr; have e7 : ξ 7 = ξ' 7 := h 7 (aC.1 rfl); have e8 : ξ 8 = ξ' 8 := h 8 (aC.1 rfl); exact ⟨by first | rfl | simp only [e7, e8], by first | rfl | simp only [e7, e8]⟩) (aq.cons (fun r hr ξ ξ' h => by cases hr; have e9 : ξ 9 = ξ' 9 := h 9 (aC.1 rfl); exact ⟨by first | rfl | simp only [e9], by first | rfl | simp only [e9]⟩) (aq.cons (fun r hr ξ ξ' h => by cases hr; have e9 : ξ 9 = ξ' 9 := h 9 (aC.1 rfl); exact ⟨by first | rfl | simp only [e9], by first | rfl | simp only [e9]⟩) aq.nil))))))) (fun ξ => ?_)
  ·
   intro o t ho ht ξ Gr Γr Lr Q hk
   cases ho; cases ht
   refine WL.rn 1 [] [(19, vP b2 3)] ?_
   exact WL.fin (hk default)
  ·
   intro o t ho ht ξ Gr Γr Lr Q hk
   cases ho; cases ht
   refine WL.rn 1 [0] [(20, ae A17 x16.length)] ?_
   exact WL.fin (hk default)
  ·
   intro o t ho ht ξ Gr Γr Lr Q hk
   cases ho; cases ht
   refine WL.rn 1 [] [(21, vP b1 3)] ?_
   exact WL.fin (hk default)
  ·
   intro o t ho ht ξ Gr Γr Lr Q hk
   cases ho; cases ht
   refine WL.rn 1 [0] [(22, ae A00 a0_3.length)] ?_
   exact WL.fin (hk default)
  ·
   intro o t ho ht ξ Gr Γr Lr Q hk
   cases ho; cases ht
   refine WL.rn 1 [] [(23, vI x15)] ?_
   exact WL.fin (hk default)
  ·
   intro o t ho ht ξ Gr Γr Lr Q hk
   cases ho; cases ht
   refine WL.cd (φ := Row 3 aa.au aa.aN A00 a0_3) (ar 2 rfl) (fun w hR => aJ (A := A00) (xs := a0_3) (i := x15) (k := .i64) (e := 121) (m := 3) rfl rfl h20 rfl rfl hR) (by kernel_rfl) rfl rfl ?_
   exact WL.fin (hk default)
  ·
   intro o t ho ht ξ Gr Γr Lr Q hk
   cases ho; cases ht
   refine WL.cd (φ := Row 3 aa.au aa.aN A00 a0_3) (ar 2 rfl) (fun w hR => b4 (A := A00) (xs := a0_3) (i := x15) (j := 0) (n := 3) (vs := [vB t19.bT, vI t19.cU, ae (A00.s (Int.toNat x15)) t19.cS.length]) h20 (fun _ => by kernel_rfl) rfl rfl rfl rfl hR) (by kernel_rfl) rfl rfl ?_
   refine WL.ez (Row 1 (pl (aE .i64)) aA (A00.s (Int.toNat x15)) t19.cS) [2] [Row 3 aa.au aa.aN A00 a0_3] rfl (fun w hψ => ((hψ _ (List.mem_singleton.2 rfl)).inner _ _ (bg h20).2)) ?_
   exact WL.fin (hk default)
  ·
   intro o t ho ht ξ Gr Γr Lr Q hk
   cases ho; cases ht
   refine WL.c0 (F0 := [Row 1 (pl (aE .i64)) aA (A00.s (Int.toNat x15)) t19.cS]) [] [] [] (fun _ => _) [0] rfl (jJ (A00.s (Int.toNat x15)) t19.bT t19.cU t19.cS _ h22) rfl rfl (by kernel_rfl) rfl (fun _ => rfl) (fun A23 => ?_)
   exact WL.fin (hk (A23, default, default))
  ·
   intro o t ho ht ξ Gr Γr Lr Q hk
   cases ho; cases ht
   refine WL.rh 1 [] (fun b24 => [(27, .slice (some ⟨b24, 0, none⟩) 1 1)]) (fun b24 => []) (fun b24 => [(b24, .cells #[vB r21.bT, vI r21.cU, ae (ξ 7).1 r21.cS.length] 121 (0, 0))]) (fun b24 => ?_)
   exact WL.fin (hk (default, b24, default))
  ·
   intro o t ho ht ξ Gr Γr Lr Q hk
   cases ho; cases ht
   refine WL.tW (H' := []) (Row 3 aa.au aa.aN (av.at (ξ 8).2.1 1 (fP [(ξ 7).1] (av.nil (fun _ => ())))) ([r21] : List aa)) 0 (b := (ξ 8).2.1) (ob := .cells #[vB r21.bT, vI r21.cU, ae (ξ 7).1 r21.cS.length] 121 (0, 0)) rfl [1] [Row 1 (pl (aE .i64)) aA (ξ 7).1 r21.cS] rfl (fun w hb hψ => cl hb (fun _ _ => rfl) ⟨[], by kernel_rfl⟩ (nB rfl) (And.intro (hψ _ (List.mem_of_getElem? (i := 0) rfl)) trivial)) rfl ?_
   refine WL.dW (G' := Gr) (A := A17) (B := (av.at (ξ 8).2.1 1 (fP [(ξ 7).1] (av.nil (fun _ => ()))))) (xs := x16) (ys := ([r21] : List aa)) (m := 3) (by_ := 40) (e := 121) (z := .agg #[vB false, vI 0, .slice none 0 0]) (f := aa.au) (K := aa.aN) (d := 28) 0 rfl rfl rfl rfl rfl rfl rfl (fun _ _ => rfl) (fun _ _ => rfl) (by kernel_rfl) rfl rfl rfl rfl (ar 3 rfl) (ar 0 rfl) h25 rfl (fun A27 => ?_)
   refine WL.less (Φ' := (([bC aa.aN A27 (x16 ++ ([r21] : List aa)), Row 3 aa.au aa.aN (av.at (ξ 8).2.1 1 (fP [(ξ 7).1] (av.nil (fun _ => ())))) ([r21] : List aa), Row 1 (pl (aE .i64)) aA (A00.s (Int.toNat x15)) t19.cS, Row 1 (pl (aE .i64)) aA (ξ 7).1 r21.cS, bC aa.aN A17 x16, bC aa.aN (av.at b3 0 (fP [] (av.nil (fun _ => ())))) ([] : List aa), Row 3 aa.au aa.aN A00 a0_3, Row 1 (pl ca) aA A01 a0_4, Row 3 ag.au ag.aN A02 a0_8, Row 3 (pl aj.enc) aA A03 a0_9] ++ Γr) ++ aI)) (fun _ h => h) ?_
   exact WL.fin (hk (default, default, A27))
  ·
   intro o t ho ht ξ Gr Γr Lr Q hk
   cases ho; cases ht
   refine WL.rn 1 [] [(29, vP b2 3)] ?_
   exact WL.fin (hk default)
  ·
   intro o t ho ht ξ Gr Γr Lr Q hk
   cases ho; cases ht
   refine WL.rh 1 [0] (fun _ => []) (fun _ => [(0, 3, [ae (ξ 9).2.2 (x16 ++ ([r21] : List aa)).length])]) (fun _ => []) (fun _ => ?_)
   exact WL.fin (hk default)
  generalize (ξ 7).1 = A23
  generalize (ξ 8).2.1 = b24
  generalize (ξ 9).2.2 = A27
  refine WP.less (Φ' := ([Row 1 (pl (aE .i64)) aA (A00.s (Int.toNat x15)) t19.cS, Row 1 (pl (aE .i64)) aA A23 r21.cS, bC aa.aN A27 (x16 ++ ([r21] : List aa)), Row 3 aa.au aa.aN (av.at b24 1 (fP [A23] (av.nil (fun _ => ())))) ([r21] : List aa), bC aa.aN A17 x16, bC aa.aN (av.at b3 0 (fP [] (av.nil (fun _ => ())))) ([] : List aa), Row 3 aa.au aa.aN A00 a0_3, Row 1 (pl ca) aA A01 a0_4, Row 3 ag.au ag.aN A02 a0_8, Row 3 (pl aj.enc) aA A03 a0_9] ++ aI)) (fun _ h => h) ?_
  refine WP.leave (WP.rn [] [(4, vI (i64 (x15 + 1))), (17, vI x15), (18, vI (i64 (x15 + 1)))] ?_)
  exact WP.cN [1, 2, 3, 4] (i64 (x15 + 1), (x16 ++ ([r21] : List aa)), A27) hM rfl (fun _ h => ((h.pick [0, 1, 2] rfl).aQ [2, 5, 6, 7, 8, 9] rfl).dE [0] [] 1 rfl (by decide) rfl)
 ·replace hM := aH hM c18
  refine WP.exit rfl (WP.seq (WP.region ?_))
  refine WL.rh 7 [0, 0] (fun b28 => [(30, .slice (some ⟨b28, 0, none⟩) 0 0), (32, ae A01 a0_4.length), (36, vI (gL (a0_4.length : Int) 5))]) (fun b28 => []) (fun b28 => [(b28, .cells #[] 4 (0, 0))]) (fun b28 => ?_)
  obtain ⟨t29, h30, hM⟩ := bind_some hM
  refine WL.cd (φ := Row 1 (pl ca) aA A01 a0_4) (ar 3 rfl) (fun w hR => fT (A := A01) (xs := a0_4) (r := t29) (kh := .i64) (h := gL (a0_4.length : Int) 5) (e := 4) (m := 1) rfl rfl hR.ptr h30 rfl rfl) (by kernel_rfl) rfl rfl ?_
  refine WL.ez (Row 1 (pl ca) aA (A01.cut 0 1) t29) [3] [Row 1 (pl ca) aA A01 a0_4] rfl (fun w hψ => (hψ _ (List.mem_singleton.2 rfl)).cut h30) ?_
  refine WL.fb (H' := [(b1, .cells #[vU a0, vU a0_1, vT a0_2, ae A00 a0_3.length, ae A01 a0_4.length, vI a0_5.Room, vI a0_5.aY, vI a0_5.a8, vI a0_5.aR, vU a0_6.bx, vT a0_6.Ip, vI a0_6.Room, vI a0_6.aY, vI a0_6.cp, vI a0_6.br, vI a0_6.bn, vI a0_7, ae A02 a0_8.length, ae A03 a0_9.length, vI a0_10, vB a0_11] 60 (0, 0)), ((b1 + 1), .cells #[vU 0, vU 0, vT 0, .slice none 0 0, .slice none 0 0, vI 0, vI 0, vI 0, vI 0, vU 0, vT 0, vI 0, vI 0, vI 0, vI 0, vI 0, vI 0, .slice none 0 0, .slice none 0 0, vI 0, vB false] 60 (0, 0)), (b2, .cells #[vU a0, vU a0_1, vT a0_2, ae A17 x16.length, ae A01 a0_4.length, vI a0_5.Room, vI a0_5.aY, vI a0_5.a8, vI a0_5.aR, vU a0_6.bx, vT a0_6.Ip, vI a0_6.Room, vI a0_6.aY, vI a0_6.cp, vI a0_6.br, vI a0_6.bn, vI a0_7, ae A02 a0_8.length, ae A03 a0_9.length, vI a0_10, vB a0_11] 60 (0, 0))]) (m := 1) (e := 4) (f := (pl ca)) aA 3 (b := b28) (cs := #[]) (fun _ => ()) ([] : List Bool) rfl (fun _ _ => rfl) rfl (by decide) [] [] rfl (fun w hψ => (jj.no _ _)) rfl ?_
  obtain ⟨u32, h31, hM⟩ := bind_some hM
  refine WL.dW (G' := [bL 3 121 aa.au A17 x16]) (A := (av.at b28 0 (fun _ => ()))) (B := (A01.cut 0 1)) (xs := ([] : List Bool)) (ys := t29) (m := 1) (by_ := 1) (e := 4) (z := vB false) (f := (pl ca)) (K := aA) (d := 38) 0 rfl rfl rfl rfl rfl rfl rfl (fun _ _ => rfl) (fun _ _ => rfl) (by kernel_rfl) rfl rfl rfl rfl (ar 0 rfl) (ar 1 rfl) h31 rfl (fun A33 => ?_)
  refine WL.less (Φ' := ([bC aA A33 t29, bC aA (av.at b28 0 (fun _ => ())) ([] : List Bool), Row 1 (pl ca) aA (A01.cut 0 1) t29, bC aa.aN A17 x16, bC aa.aN (av.at b3 0 (fP [] (av.nil (fun _ => ())))) ([] : List aa), Row 3 aa.au aa.aN A00 a0_3, Row 1 (pl ca) aA A01 a0_4, Row 3 ag.au ag.aN A02 a0_8, Row 3 (pl aj.enc) aA A03 a0_9] ++ aI)) (fun _ h => h) ?_
  refine WL.rh 2 [2] (fun _ => []) (fun _ => [(2, 4, [ae A33 t29.length])]) (fun _ => []) (fun _ => ?_)
  refine WP.done (WP.seq (WP.region (WL.rn 2 [0] [(41, ae A02 a0_8.length)] ?_)))
  obtain ⟨r34, h35, hM⟩ := bind_some hM
  refine WL.c0 (F0 := [Row 3 ag.au ag.aN A02 a0_8]) [] [] [false, false, false] (fun _ => _) [7] rfl (jI k A02 a0_8 _ h35) rfl rfl (by kernel_rfl) rfl (fun _ => rfl) (fun A36 => ?_)
  refine WL.rh 2 [2] (fun _ => []) (fun _ => [(2, 17, [ae A36 r34.length])]) (fun _ => []) (fun _ => ?_)
  refine WP.done (WP.seq (WP.region ?_))
  refine WL.rh 7 [0, 0] (fun b37 => [(44, .slice (some ⟨b37, 0, none⟩) 0 0), (46, ae A03 a0_9.length), (50, vI (gL (a0_9.length : Int) 8))]) (fun b37 => []) (fun b37 => [(b37, .cells #[] 163 (0, 0))]) (fun b37 => ?_)
  obtain ⟨t38, h39, hM⟩ := bind_some hM
  refine WL.cd (φ := Row 3 (pl aj.enc) aA A03 a0_9) (ar 9 rfl) (fun w hR => fT (A := A03) (xs := a0_9) (r := t38) (kh := .i64) (h := gL (a0_9.length : Int) 8) (e := 163) (m := 3) rfl rfl hR.ptr h39 rfl rfl) (by kernel_rfl) rfl rfl ?_
  refine WL.ez (Row 3 (pl aj.enc) aA (A03.cut 0 3) t38) [9] [Row 3 (pl aj.enc) aA A03 a0_9] rfl (fun w hψ => (hψ _ (List.mem_singleton.2 rfl)).cut h39) ?_
  refine WL.fb (H' := [(b1, .cells #[vU a0, vU a0_1, vT a0_2, ae A00 a0_3.length, ae A01 a0_4.length, vI a0_5.Room, vI a0_5.aY, vI a0_5.a8, vI a0_5.aR, vU a0_6.bx, vT a0_6.Ip, vI a0_6.Room, vI a0_6.aY, vI a0_6.cp, vI a0_6.br, vI a0_6.bn, vI a0_7, ae A02 a0_8.length, ae A03 a0_9.length, vI a0_10, vB a0_11] 60 (0, 0)), ((b1 + 1), .cells #[vU 0, vU 0, vT 0, .slice none 0 0, .slice none 0 0, vI 0, vI 0, vI 0, vI 0, vU 0, vT 0, vI 0, vI 0, vI 0, vI 0, vI 0, vI 0, .slice none 0 0, .slice none 0 0, vI 0, vB false] 60 (0, 0)), (b2, .cells #[vU a0, vU a0_1, vT a0_2, ae A17 x16.length, ae A33 t29.length, vI a0_5.Room, vI a0_5.aY, vI a0_5.a8, vI a0_5.aR, vU a0_6.bx, vT a0_6.Ip, vI a0_6.Room, vI a0_6.aY, vI a0_6.cp, vI a0_6.br, vI a0_6.bn, vI a0_7, ae A36 r34.length, ae A03 a0_9.length, vI a0_10, vB a0_11] 60 (0, 0))]) (m := 3) (e := 163) (f := (pl aj.enc)) aA 3 (b := b37) (cs := #[]) (fun _ => ()) ([] : List aj) rfl (fun _ _ => rfl) rfl (by decide) [] [] rfl (fun w hψ => (jj.no _ _)) rfl ?_
  obtain ⟨u41, h40, hM⟩ := bind_some hM
  refine WL.dW (G' := [bL 1 4 (pl ca) A33 t29, bL 3 121 aa.au A17 x16]) (A := (av.at b37 0 (fun _ => ()))) (B := (A03.cut 0 3)) (xs := ([] : List aj)) (ys := t38) (m := 3) (by_ := 24) (e := 163) (z := .agg #[vT 0, vI 0, vT 0]) (f := (pl aj.enc)) (K := aA) (d := 52) 0 rfl rfl rfl rfl rfl rfl rfl (fun _ _ => rfl) (fun _ _ => rfl) (by kernel_rfl) rfl rfl rfl rfl (ar 0 rfl) (ar 1 rfl) h40 rfl (fun A42 => ?_)
  refine WL.less (Φ' := ([bC aA A42 t38, bC aA (av.at b37 0 (fun _ => ())) ([] : List aj), Row 3 (pl aj.enc) aA (A03.cut 0 3) t38, Row 3 ag.au ag.aN A36 r34, bC aA A33 t29, bC aA (av.at b28 0 (fun _ => ())) ([] : List Bool), Row 1 (pl ca) aA (A01.cut 0 1) t29, bC aa.aN A17 x16, bC aa.aN (av.at b3 0 (fP [] (av.nil (fun _ => ())))) ([] : List aa), Row 3 aa.au aa.aN A00 a0_3, Row 1 (pl ca) aA A01 a0_4, Row 3 ag.au ag.aN A02 a0_8, Row 3 (pl aj.enc) aA A03 a0_9] ++ aI)) (fun _ h => h) ?_
  refine WL.rh 2 [2] (fun _ => []) (fun _ => [(2, 18, [ae A42 t38.length])]) (fun _ => []) (fun _ => ?_)
  refine WP.done (WP.seq ?_)
  refine WP.rh [0, 2] (fun _ => []) (fun _ => [(2, 5, [vI (gL a0_5.Room 64)])]) (fun _ => []) (fun _ => ?_)
  refine WP.seq ?_
  refine WP.rh [0, 2] (fun _ => []) (fun _ => [(2, 11, [vI (gL a0_6.Room 64)])]) (fun _ => []) (fun _ => ?_)
  refine WP.kp [false, true, true] ?_
  refine WP.seq ?_
  refine WP.rh [1, 1, 1, 1, 1, 1, 1, 1, 1, 1, 1, 1, 1, 1, 1, 1, 1, 1, 1, 1, 1, 0, 0, 0, 0, 0, 0, 0, 0, 0, 0, 0, 0, 0, 0, 0, 0, 0, 0, 0, 0, 0] (fun _ => []) (fun _ => [(0, 0, [vU a0, vU a0_1, vT a0_2, ae A17 x16.length, ae A33 t29.length, vI (gL a0_5.Room 64), vI a0_5.aY, vI a0_5.a8, vI a0_5.aR, vU a0_6.bx, vT a0_6.Ip, vI (gL a0_6.Room 64), vI a0_6.aY, vI a0_6.cp, vI a0_6.br, vI a0_6.bn, vI a0_7, ae A36 r34.length, ae A42 t38.length, vI a0_10, vB a0_11])]) (fun _ => []) (fun _ => ?_)
  refine WP.kp [true, false] ?_
  refine WP.dD (G' := [bL 3 163 (pl aj.enc) A42 t38, bL 1 4 (pl ca) A33 t29]) (m := 3) (e := 121) (f := aa.au) (K := aa.aN) (A := A17) (xs := x16) 2 7 rfl rfl (fun _ _ => rfl) rfl ?_
  refine WP.dD (G' := [bL 3 163 (pl aj.enc) A42 t38]) (m := 1) (e := 4) (f := (pl ca)) (K := aA) (A := A33) (xs := t29) 1 5 rfl rfl (fun _ _ => rfl) rfl ?_
  refine WP.dD (G' := []) (m := 3) (e := 163) (f := (pl aj.enc)) (K := aA) (A := A42) (xs := t38) 0 2 rfl rfl (fun _ _ => rfl) rfl ?_
  obtain rfl := oI hM
  exact WP.ret [0, 0, 0, 0, 0, 0, 0, 0, 0, 0, 0, 0, 0, 0, 0, 0, 0, 0, 0, 0, 0] [(b1 + 1), (b1 + 1), (b1 + 1), (b1 + 1), (b1 + 1), (b1 + 1), (b1 + 1), (b1 + 1), (b1 + 1), (b1 + 1), (b1 + 1), (b1 + 1), (b1 + 1), (b1 + 1), (b1 + 1), (b1 + 1), (b1 + 1), (b1 + 1), (b1 + 1), (b1 + 1), (b1 + 1)] (.agg #[vU a0, vU a0_1, vT a0_2, ae A17 x16.length, ae A33 t29.length, vI (gL a0_5.Room 64), vI a0_5.aY, vI a0_5.a8, vI a0_5.aR, vU a0_6.bx, vT a0_6.Ip, vI (gL a0_6.Room 64), vI a0_6.aY, vI a0_6.cp, vI a0_6.br, vI a0_6.bn, vI a0_7, ae A36 r34.length, ae A42 t38.length, vI a0_10, vB a0_11]) (by kernel_rfl) (fun w' hw => ⟨(A17, A33, A36, A42), rfl, (hw.pick [] rfl).less (aT [2, 1, 6, 0] [12, 13, 14, 15] rfl rfl)⟩)
def bq.l1 (a0 : (List ah)) (k : Nat) : Nat → (List ah) → Int → Option ((List ah))
 | 0, _, _ => none
 | n + 1, x2, x4 =>
  bif ((decide (x4 < (a0.length : Int))) && (decide (x4 < 3))) then
   (cI a0.length a0 x4).bind fun t6 =>
   (bF.f k t6.aK t6.bx t6.Ip t6.aX t6.bt t6.bz t6.aO t6.cj t6.cm t6.a7 t6.cT t6.bu).bind fun r8 =>
   (ey 232 (x2 ++ ([r8] : List ah)).length).bind fun u13 =>
   bq.l1 a0 k n (x2 ++ ([r8] : List ah)) (i64 (x4 + 1))
  else
   some x2
def bq.f (k : Nat) (a0 : (List ah)) : Option ((List ah)) :=
 bq.l1 a0 k k ([] : List ah) 0
theorem dh (k : Nat) (A00 : av ((av (av Unit)) × (av Unit) × (av (av Unit)) × (av Unit))) (a0 : (List ah)) (r : (List ah)) (h : bq.f k a0 = some r) : eT Tryz.prog 5 #[ae A00 a0.length] [] ([Row 21 ah.au ah.aN A00 a0] ++ aI) (fun x : (av ((av (av Unit)) × (av Unit) × (av (av Unit)) × (av Unit))) => ae x r.length) (fun x => []) (fun _ => []) (fun x => [Row 21 ah.au ah.aN x r] ++ ([Row 21 ah.au ah.aN A00 a0] ++ aI)) := by
 intro w Z hS
 refine bh (args := [ae A00 a0.length]) (L := [(0, ae A00 a0.length)]) (N := 25) Tryz.func5 hS ?_
 have hM := h
 clear h hS
 unfold bq.f at hM
 refine WP.seq (WP.rn [] [(2, .slice none 0 0)] ?_)
 refine WP.seq ?_
 refine WP.rh [] (fun b1 => [(3, .slice (some ⟨b1, 0, none⟩) 0 0)]) (fun b1 => []) (fun b1 => [(b1, .cells #[] 60 (0, 0))]) (fun b1 => ?_)
 refine WP.seq (WP.seq (WP.rn [] [(4, vI 0)] ?_))
 refine WP.block ?_
 refine WP.fb (H' := []) (m := 21) (e := 60) (f := ah.au) ah.aN 0 (b := b1) (cs := #[]) (fP [] ((av.nil (fun _ => (av.nil (fun _ => ())))), (av.nil (fun _ => ())), (av.nil (fun _ => (av.nil (fun _ => ())))), (av.nil (fun _ => ())))) ([] : List ah) rfl (fun _ _ => rfl) rfl (by decide) [] [] rfl (fun w hψ => trivial) rfl ?_
 refine WP.sub [0, 2, 3, 4] (L' := [(0, ae A00 a0.length), (2, .slice none 0 0), (3, ae (av.at b1 0 (fP [] ((av.nil (fun _ => (av.nil (fun _ => ())))), (av.nil (fun _ => ())), (av.nil (fun _ => (av.nil (fun _ => ())))), (av.nil (fun _ => ()))))) ([] : List ah).length), (4, vI 0)]) rfl ?_
 refine WP.aQ [0, 0, 1] (F' := [bC ah.aN (av.at b1 0 (fP [] ((av.nil (fun _ => (av.nil (fun _ => ())))), (av.nil (fun _ => ())), (av.nil (fun _ => (av.nil (fun _ => ())))), (av.nil (fun _ => ()))))) ([] : List ah), bC ah.aN (av.at b1 0 (fP [] ((av.nil (fun _ => (av.nil (fun _ => ())))), (av.nil (fun _ => ())), (av.nil (fun _ => (av.nil (fun _ => ())))), (av.nil (fun _ => ()))))) ([] : List ah), Row 21 ah.au ah.aN A00 a0]) rfl ?_
 refine WP.loop (σ := (List ah) × av ((av (av Unit)) × (av Unit) × (av (av Unit)) × (av Unit)) × Int) (fun n st => bq.l1 a0 k n st.1 st.2.2) r (fun st => [(0, ae A00 a0.length), (2, .slice none 0 0), (3, ae st.2.1 st.1.length), (4, vI st.2.2)]) (fun st => Sat w Z [] [bL 21 60 ah.au st.2.1 st.1] ([bC ah.aN st.2.1 st.1, bC ah.aN (av.at b1 0 (fP [] ((av.nil (fun _ => (av.nil (fun _ => ())))), (av.nil (fun _ => ())), (av.nil (fun _ => (av.nil (fun _ => ())))), (av.nil (fun _ => ()))))) ([] : List ah), Row 21 ah.au ah.aN A00 a0] ++ aI)) (st := (([] : List ah), (av.at b1 0 (fP [] ((av.nil (fun _ => (av.nil (fun _ => ())))), (av.nil (fun _ => ())), (av.nil (fun _ => (av.nil (fun _ => ())))), (av.nil (fun _ => ()))))), 0)) (fun n st hM => ?_) hM
 rcases n with _ | n
 ·exact nomatch (show (none : Option _) = some r from hM)
 obtain ⟨x2, A3, x4⟩ := st
 replace hM : bq.l1 a0 k (n + 1) x2 x4 = some r := hM
 rw [bq.l1] at hM
 try dsimp only
 refine WP.seq (WP.seq (WP.region (WL.rn 5 [] [(6, vI x4), (7, ae A00 a0.length), (8, vI (a0.length : Int)), (9, vB (decide (x4 < (a0.length : Int)))), (10, vB (decide (x4 < (a0.length : Int))))] ?_)))
 refine WL.bo 10 (decide (x4 < (a0.length : Int))) 3 [] [] (fun b' => [(13, vB (b' && (decide (x4 < 3))))]) ?_
 refine WP.done ?_
 refine WP.cond ((decide (x4 < (a0.length : Int))) && (decide (x4 < 3))) rfl rfl (fun c5 => ?_) (fun c5 => ?_)
 ·replace hM := aG hM c5
  refine WP.skip (WP.seq (WP.block (WP.region (WL.rn 3 [] [(16, ae A3 x2.length), (17, ae A00 a0.length), (18, vI x4)] ?_))))
  obtain ⟨t6, h7, hM⟩ := bind_some hM
  refine WL.cd (φ := Row 21 ah.au ah.aN A00 a0) (ar 2 rfl) (fun w hR => aJ (A := A00) (xs := a0) (i := x4) (k := .i64) (e := 60) (m := 21) rfl rfl h7 rfl rfl hR) (by kernel_rfl) rfl rfl ?_
  refine WL.cd (φ := Row 21 ah.au ah.aN A00 a0) (ar 2 rfl) (fun w hR => b4 (A := A00) (xs := a0) (i := x4) (j := 0) (n := 21) (vs := [vU t6.aK, vU t6.bx, vT t6.Ip, ae ((A00.s (Int.toNat x4)).1) t6.aX.length, ae ((A00.s (Int.toNat x4)).2.1) t6.bt.length, vI t6.bz.Room, vI t6.bz.aY, vI t6.bz.a8, vI t6.bz.aR, vU t6.aO.bx, vT t6.aO.Ip, vI t6.aO.Room, vI t6.aO.aY, vI t6.aO.cp, vI t6.aO.br, vI t6.aO.bn, vI t6.cj, ae ((A00.s (Int.toNat x4)).2.2.1) t6.cm.length, ae ((A00.s (Int.toNat x4)).2.2.2) t6.a7.length, vI t6.cT, vB t6.bu]) h7 (fun _ => by kernel_rfl) rfl rfl rfl rfl hR) (by kernel_rfl) rfl rfl ?_
  refine WL.ez (Row 3 aa.au aa.aN ((A00.s (Int.toNat x4)).1) t6.aX) [2] [Row 21 ah.au ah.aN A00 a0] rfl (fun w hψ => ((hψ _ (List.mem_singleton.2 rfl)).inner _ _ (bg h7).2).1) ?_
  refine WL.ez (Row 1 (pl ca) aA ((A00.s (Int.toNat x4)).2.1) t6.bt) [3] [Row 21 ah.au ah.aN A00 a0] rfl (fun w hψ => ((hψ _ (List.mem_singleton.2 rfl)).inner _ _ (bg h7).2).2.1) ?_
  refine WL.ez (Row 3 ag.au ag.aN ((A00.s (Int.toNat x4)).2.2.1) t6.cm) [4] [Row 21 ah.au ah.aN A00 a0] rfl (fun w hψ => ((hψ _ (List.mem_singleton.2 rfl)).inner _ _ (bg h7).2).2.2.1) ?_
  refine WL.ez (Row 3 (pl aj.enc) aA ((A00.s (Int.toNat x4)).2.2.2) t6.a7) [5] [Row 21 ah.au ah.aN A00 a0] rfl (fun w hψ => ((hψ _ (List.mem_singleton.2 rfl)).inner _ _ (bg h7).2).2.2.2) ?_
  obtain ⟨r8, h9, hM⟩ := bind_some hM
  refine WL.c0 (F0 := [Row 3 aa.au aa.aN ((A00.s (Int.toNat x4)).1) t6.aX, Row 1 (pl ca) aA ((A00.s (Int.toNat x4)).2.1) t6.bt, Row 3 ag.au ag.aN ((A00.s (Int.toNat x4)).2.2.1) t6.cm, Row 3 (pl aj.enc) aA ((A00.s (Int.toNat x4)).2.2.2) t6.a7]) [] [] [] (fun _ => _) [3, 2, 1, 0] rfl (jH k ((A00.s (Int.toNat x4)).1) ((A00.s (Int.toNat x4)).2.1) ((A00.s (Int.toNat x4)).2.2.1) ((A00.s (Int.toNat x4)).2.2.2) t6.aK t6.bx t6.Ip t6.aX t6.bt t6.bz t6.aO t6.cj t6.cm t6.a7 t6.cT t6.bu _ h9) rfl rfl (by kernel_rfl) rfl (fun _ => rfl) (fun A10 => ?_)
  refine WL.rh 1 [] (fun b11 => [(22, .slice (some ⟨b11, 0, none⟩) 1 1)]) (fun b11 => []) (fun b11 => [(b11, .cells #[vU r8.aK, vU r8.bx, vT r8.Ip, ae A10.1 r8.aX.length, ae A10.2.1 r8.bt.length, vI r8.bz.Room, vI r8.bz.aY, vI r8.bz.a8, vI r8.bz.aR, vU r8.aO.bx, vT r8.aO.Ip, vI r8.aO.Room, vI r8.aO.aY, vI r8.aO.cp, vI r8.aO.br, vI r8.aO.bn, vI r8.cj, ae A10.2.2.1 r8.cm.length, ae A10.2.2.2 r8.a7.length, vI r8.cT, vB r8.bu] 60 (0, 0))]) (fun b11 => ?_)
  refine WL.tW (H' := []) (Row 21 ah.au ah.aN (av.at b11 1 (fP [(A10.1, A10.2.1, A10.2.2.1, A10.2.2.2)] ((av.nil (fun _ => (av.nil (fun _ => ())))), (av.nil (fun _ => ())), (av.nil (fun _ => (av.nil (fun _ => ())))), (av.nil (fun _ => ()))))) ([r8] : List ah)) 0 (b := b11) (ob := .cells #[vU r8.aK, vU r8.bx, vT r8.Ip, ae A10.1 r8.aX.length, ae A10.2.1 r8.bt.length, vI r8.bz.Room, vI r8.bz.aY, vI r8.bz.a8, vI r8.bz.aR, vU r8.aO.bx, vT r8.aO.Ip, vI r8.aO.Room, vI r8.aO.aY, vI r8.aO.cp, vI r8.aO.br, vI r8.aO.bn, vI r8.cj, ae A10.2.2.1 r8.cm.length, ae A10.2.2.2 r8.a7.length, vI r8.cT, vB r8.bu] 60 (0, 0)) rfl [0, 1, 2, 3] [Row 3 aa.au aa.aN A10.1 r8.aX, Row 1 (pl ca) aA A10.2.1 r8.bt, Row 3 ag.au ag.aN A10.2.2.1 r8.cm, Row 3 (pl aj.enc) aA A10.2.2.2 r8.a7] rfl (fun w hb hψ => cl hb (fun _ _ => rfl) ⟨[], by kernel_rfl⟩ (nB rfl) (And.intro (And.intro (hψ _ (List.mem_of_getElem? (i := 0) rfl)) (And.intro (hψ _ (List.mem_of_getElem? (i := 1) rfl)) (And.intro (hψ _ (List.mem_of_getElem? (i := 2) rfl)) (hψ _ (List.mem_of_getElem? (i := 3) rfl))))) trivial)) rfl ?_
  obtain ⟨u13, h12, hM⟩ := bind_some hM
  refine WL.dW (G' := []) (A := A3) (B := (av.at b11 1 (fP [(A10.1, A10.2.1, A10.2.2.1, A10.2.2.2)] ((av.nil (fun _ => (av.nil (fun _ => ())))), (av.nil (fun _ => ())), (av.nil (fun _ => (av.nil (fun _ => ())))), (av.nil (fun _ => ())))))) (xs := x2) (ys := ([r8] : List ah)) (m := 21) (by_ := 232) (e := 60) (z := .agg #[vU 0, vU 0, vT 0, .slice none 0 0, .slice none 0 0, vI 0, vI 0, vI 0, vI 0, vU 0, vT 0, vI 0, vI 0, vI 0, vI 0, vI 0, vI 0, .slice none 0 0, .slice none 0 0, vI 0, vB false]) (f := ah.au) (K := ah.aN) (d := 23) 0 rfl rfl rfl rfl rfl rfl rfl (fun _ _ => rfl) (fun _ _ => rfl) (by kernel_rfl) rfl rfl rfl rfl (ar 9 rfl) (ar 0 rfl) h12 rfl (fun A14 => ?_)
  refine WL.less (Φ' := ([bC ah.aN A14 (x2 ++ ([r8] : List ah)), Row 21 ah.au ah.aN (av.at b11 1 (fP [(A10.1, A10.2.1, A10.2.2.1, A10.2.2.2)] ((av.nil (fun _ => (av.nil (fun _ => ())))), (av.nil (fun _ => ())), (av.nil (fun _ => (av.nil (fun _ => ())))), (av.nil (fun _ => ()))))) ([r8] : List ah), Row 3 aa.au aa.aN A10.1 r8.aX, Row 1 (pl ca) aA A10.2.1 r8.bt, Row 3 ag.au ag.aN A10.2.2.1 r8.cm, Row 3 (pl aj.enc) aA A10.2.2.2 r8.a7, Row 3 (pl aj.enc) aA ((A00.s (Int.toNat x4)).2.2.2) t6.a7, Row 3 ag.au ag.aN ((A00.s (Int.toNat x4)).2.2.1) t6.cm, Row 1 (pl ca) aA ((A00.s (Int.toNat x4)).2.1) t6.bt, Row 3 aa.au aa.aN ((A00.s (Int.toNat x4)).1) t6.aX, bC ah.aN A3 x2, bC ah.aN (av.at b1 0 (fP [] ((av.nil (fun _ => (av.nil (fun _ => ())))), (av.nil (fun _ => ())), (av.nil (fun _ => (av.nil (fun _ => ())))), (av.nil (fun _ => ()))))) ([] : List ah), Row 21 ah.au ah.aN A00 a0] ++ aI)) (fun _ h => h) ?_
  refine WL.rn 1 [] [(3, ae A14 (x2 ++ ([r8] : List ah)).length)] ?_
  refine WP.done (WP.leave (WP.rn [] [(4, vI (i64 (x4 + 1))), (14, vI x4), (15, vI (i64 (x4 + 1)))] ?_))
  exact WP.cN [0, 2, 3, 4] ((x2 ++ ([r8] : List ah)), A14, i64 (x4 + 1)) hM rfl (fun _ h => ((h.pick [] rfl).aQ [0, 11, 12] rfl).dE [0] [] 1 rfl (by decide) rfl)
 ·replace hM := aH hM c5
  refine WP.exit rfl (WP.seq (WP.rn [] [(2, ae A3 x2.length)] ?_))
  refine WP.dD (G' := []) (m := 21) (e := 60) (f := ah.au) (K := ah.aN) (A := A3) (xs := x2) 0 0 rfl rfl (fun _ _ => rfl) rfl ?_
  obtain rfl := oI hM
  exact WP.ret [] [] (ae A3 x2.length) (by kernel_rfl) (fun w' hw => ⟨A3, rfl, (hw.pick [] rfl).less (aT [0] [3] rfl rfl)⟩)
def ei.f (a0 : (List Bool)) : Option (List Bool) := (ey 1 a0.length).bind fun _ => some a0
theorem iz (A00 : av Unit) (a0 : (List Bool)) (r : (List Bool)) (h : ei.f a0 = some r) : eT Tryz.prog 55 #[ae A00 a0.length] [] ([Row 1 (pl ca) aA A00 a0] ++ aI) (fun x : av Unit => ae x r.length) (fun _ => []) (fun _ => []) (fun x => [Row 1 (pl ca) aA x r] ++ ([Row 1 (pl ca) aA A00 a0] ++ aI)) := by
 intro w Z hS
 refine gz (args := [ae A00 a0.length]) (L := [(0, ae A00 a0.length)]) (N := 8) (S := Sat w Z [] [] ([Row 1 (pl ca) aA A00 a0] ++ aI)) Tryz.func55 rfl rfl (nB rfl) rfl hS ?_
 have hM := h
 clear h hS
 unfold ei.f at hM
 refine WP.fact (Row 1 (pl ca) aA A00 a0) (ar 0 rfl) (fun w hw => hw.nil) (fun hn => ?_)
 obtain ⟨a, c, s, z⟩ := A00
 cases a with
 | none =>
  obtain ⟨h1, h2⟩ := hn rfl
  dsimp only at h1 h2
  subst h1; subst h2
  cases z with
  | none =>
   obtain ⟨u0, hu0, hM⟩ := bind_some hM
   obtain rfl := oI hM
   show WP _ _ _ _ _ [(0, .slice none 0 0)] (Sat _ _ _ _ ([Row 1 (pl ca) aA (⟨none, 0, s, none⟩ : av Unit) ([] : List Bool)] ++ aI))
   refine WP.seq (WP.rn [] [(2, .slice none 0 0)] ?_)
   refine WP.seq (WP.seq (WP.rn [] [(4, vB true)] ?_))
   refine WP.yes rfl rfl (WP.seq (WP.rn [] [(2, .slice none 0 0)] ?_))
   refine WP.ez (Row 1 (pl ca) aA (av.nil (fun _ => ())) ([] : List Bool)) [] [] rfl (fun w _ => eU.empty (fun _ => rfl)) ?_
   exact WP.ret [] [] (ae (av.nil (fun _ => ())) ([] : List Bool).length) (by kernel_rfl) (fun w' hw => ⟨(av.nil (fun _ => ())), rfl, (hw.pick [] rfl).less (aT [0] [1] rfl rfl)⟩)
  | some ad =>
   refine WP.seq (WP.rn [] [(2, .slice none 0 0)] ?_)
   refine WP.seq (WP.seq (WP.rn [] [(4, vB false)] ?_))
   refine WP.no rfl rfl (WP.skip (WP.seq (WP.region ?_)))
   refine WL.rh 2 [] (fun b1 => [(5, .slice (some ⟨b1, 0, none⟩) 0 0), (6, ae (⟨none, 0, s, some ad⟩ : av Unit) ([] : List Bool).length)]) (fun b1 => []) (fun b1 => [(b1, .cells #[] 4 (0, 0))]) (fun b1 => ?_)
   obtain ⟨u3, h2, hM⟩ := bind_some hM
   refine WL.ef (A := (av.at b1 0 (fun _ => ()))) (B := (⟨none, 0, s, some ad⟩ : av Unit)) (ys := ([] : List Bool)) (n := 0) (m := 1) (by_ := 1) (e := 4) (z := vB false) (f := (pl ca)) (K := aA) (d := 7) rfl rfl rfl rfl rfl (fun _ _ => rfl) (by kernel_rfl) rfl rfl rfl rfl (ar 0 rfl) h2 rfl (fun A4 => ?_)
   refine WL.less (Φ' := ([Row 1 (pl ca) aA A4 ([] : List Bool), Row 1 (pl ca) aA (⟨none, 0, s, some ad⟩ : av Unit) ([] : List Bool)] ++ aI)) (fun _ h => h) ?_
   refine WL.rn 1 [] [(2, ae A4 ([] : List Bool).length)] ?_
   refine WP.done (WP.kp [false] ?_)
   obtain rfl := oI hM
   exact WP.ret [] [] (ae A4 ([] : List Bool).length) (by kernel_rfl) (fun w' hw => ⟨A4, rfl, (hw.pick [] rfl).less (aT [0] [1] rfl rfl)⟩)
 | some p =>
  obtain ⟨b, o⟩ := p
  refine WP.seq (WP.rn [] [(2, .slice none 0 0)] ?_)
  refine WP.seq (WP.seq (WP.rn [] [(4, vB false)] ?_))
  refine WP.no rfl rfl (WP.skip (WP.seq (WP.region ?_)))
  refine WL.rh 2 [] (fun b1 => [(5, .slice (some ⟨b1, 0, none⟩) 0 0), (6, ae (⟨some (b, o), c, s, z⟩ : av Unit) a0.length)]) (fun b1 => []) (fun b1 => [(b1, .cells #[] 4 (0, 0))]) (fun b1 => ?_)
  obtain ⟨u3, h2, hM⟩ := bind_some hM
  refine WL.ef (A := (av.at b1 0 (fun _ => ()))) (B := (⟨some (b, o), c, s, z⟩ : av Unit)) (ys := a0) (n := 0) (m := 1) (by_ := 1) (e := 4) (z := vB false) (f := (pl ca)) (K := aA) (d := 7) rfl rfl rfl rfl rfl (fun _ _ => rfl) (by kernel_rfl) rfl rfl rfl rfl (ar 0 rfl) h2 rfl (fun A4 => ?_)
  refine WL.less (Φ' := ([Row 1 (pl ca) aA A4 a0, Row 1 (pl ca) aA (⟨some (b, o), c, s, z⟩ : av Unit) a0] ++ aI)) (fun _ h => h) ?_
  refine WL.rn 1 [] [(2, ae A4 a0.length)] ?_
  refine WP.done (WP.kp [false] ?_)
  obtain rfl := oI hM
  exact WP.ret [] [] (ae A4 a0.length) (by kernel_rfl) (fun w' hw => ⟨A4, rfl, (hw.pick [] rfl).less (aT [0] [1] rfl rfl)⟩)
def dp.f (a0 : (List Int)) : Option (List Int) := (ey 8 a0.length).bind fun _ => some a0
theorem fA (A00 : av Unit) (a0 : (List Int)) (r : (List Int)) (h : dp.f a0 = some r) : eT Tryz.prog 56 #[ae A00 a0.length] [] ([Row 1 (pl (aE .i64)) aA A00 a0] ++ aI) (fun x : av Unit => ae x r.length) (fun _ => []) (fun _ => []) (fun x => [Row 1 (pl (aE .i64)) aA x r] ++ ([Row 1 (pl (aE .i64)) aA A00 a0] ++ aI)) := by
 intro w Z hS
 refine gz (args := [ae A00 a0.length]) (L := [(0, ae A00 a0.length)]) (N := 8) (S := Sat w Z [] [] ([Row 1 (pl (aE .i64)) aA A00 a0] ++ aI)) Tryz.func56 rfl rfl (nB rfl) rfl hS ?_
 have hM := h
 clear h hS
 unfold dp.f at hM
 refine WP.fact (Row 1 (pl (aE .i64)) aA A00 a0) (ar 0 rfl) (fun w hw => hw.nil) (fun hn => ?_)
 obtain ⟨a, c, s, z⟩ := A00
 cases a with
 | none =>
  obtain ⟨h1, h2⟩ := hn rfl
  dsimp only at h1 h2
  subst h1; subst h2
  cases z with
  | none =>
   obtain ⟨u0, hu0, hM⟩ := bind_some hM
   obtain rfl := oI hM
   show WP _ _ _ _ _ [(0, .slice none 0 0)] (Sat _ _ _ _ ([Row 1 (pl (aE .i64)) aA (⟨none, 0, s, none⟩ : av Unit) ([] : List Int)] ++ aI))
   refine WP.seq (WP.rn [] [(2, .slice none 0 0)] ?_)
   refine WP.seq (WP.seq (WP.rn [] [(4, vB true)] ?_))
   refine WP.yes rfl rfl (WP.seq (WP.rn [] [(2, .slice none 0 0)] ?_))
   refine WP.ez (Row 1 (pl (aE .i64)) aA (av.nil (fun _ => ())) ([] : List Int)) [] [] rfl (fun w _ => eU.empty (fun _ => rfl)) ?_
   exact WP.ret [] [] (ae (av.nil (fun _ => ())) ([] : List Int).length) (by kernel_rfl) (fun w' hw => ⟨(av.nil (fun _ => ())), rfl, (hw.pick [] rfl).less (aT [0] [1] rfl rfl)⟩)
  | some ad =>
   refine WP.seq (WP.rn [] [(2, .slice none 0 0)] ?_)
   refine WP.seq (WP.seq (WP.rn [] [(4, vB false)] ?_))
   refine WP.no rfl rfl (WP.skip (WP.seq (WP.region ?_)))
   refine WL.rh 2 [] (fun b1 => [(5, .slice (some ⟨b1, 0, none⟩) 0 0), (6, ae (⟨none, 0, s, some ad⟩ : av Unit) ([] : List Int).length)]) (fun b1 => []) (fun b1 => [(b1, .cells #[] 3 (0, 0))]) (fun b1 => ?_)
   obtain ⟨u3, h2, hM⟩ := bind_some hM
   refine WL.ef (A := (av.at b1 0 (fun _ => ()))) (B := (⟨none, 0, s, some ad⟩ : av Unit)) (ys := ([] : List Int)) (n := 0) (m := 1) (by_ := 8) (e := 3) (z := vI 0) (f := (pl (aE .i64))) (K := aA) (d := 7) rfl rfl rfl rfl rfl (fun _ _ => rfl) (by kernel_rfl) rfl rfl rfl rfl (ar 0 rfl) h2 rfl (fun A4 => ?_)
   refine WL.less (Φ' := ([Row 1 (pl (aE .i64)) aA A4 ([] : List Int), Row 1 (pl (aE .i64)) aA (⟨none, 0, s, some ad⟩ : av Unit) ([] : List Int)] ++ aI)) (fun _ h => h) ?_
   refine WL.rn 1 [] [(2, ae A4 ([] : List Int).length)] ?_
   refine WP.done (WP.kp [false] ?_)
   obtain rfl := oI hM
   exact WP.ret [] [] (ae A4 ([] : List Int).length) (by kernel_rfl) (fun w' hw => ⟨A4, rfl, (hw.pick [] rfl).less (aT [0] [1] rfl rfl)⟩)
 | some p =>
  obtain ⟨b, o⟩ := p
  refine WP.seq (WP.rn [] [(2, .slice none 0 0)] ?_)
  refine WP.seq (WP.seq (WP.rn [] [(4, vB false)] ?_))
  refine WP.no rfl rfl (WP.skip (WP.seq (WP.region ?_)))
  refine WL.rh 2 [] (fun b1 => [(5, .slice (some ⟨b1, 0, none⟩) 0 0), (6, ae (⟨some (b, o), c, s, z⟩ : av Unit) a0.length)]) (fun b1 => []) (fun b1 => [(b1, .cells #[] 3 (0, 0))]) (fun b1 => ?_)
  obtain ⟨u3, h2, hM⟩ := bind_some hM
  refine WL.ef (A := (av.at b1 0 (fun _ => ()))) (B := (⟨some (b, o), c, s, z⟩ : av Unit)) (ys := a0) (n := 0) (m := 1) (by_ := 8) (e := 3) (z := vI 0) (f := (pl (aE .i64))) (K := aA) (d := 7) rfl rfl rfl rfl rfl (fun _ _ => rfl) (by kernel_rfl) rfl rfl rfl rfl (ar 0 rfl) h2 rfl (fun A4 => ?_)
  refine WL.less (Φ' := ([Row 1 (pl (aE .i64)) aA A4 a0, Row 1 (pl (aE .i64)) aA (⟨some (b, o), c, s, z⟩ : av Unit) a0] ++ aI)) (fun _ h => h) ?_
  refine WL.rn 1 [] [(2, ae A4 a0.length)] ?_
  refine WP.done (WP.kp [false] ?_)
  obtain rfl := oI hM
  exact WP.ret [] [] (ae A4 a0.length) (by kernel_rfl) (fun w' hw => ⟨A4, rfl, (hw.pick [] rfl).less (aT [0] [1] rfl rfl)⟩)
def gY.f (a0 : (List aa)) : Option (List aa) := (ey 40 a0.length).bind fun _ => some a0
theorem me (A00 : av (av Unit)) (a0 : (List aa)) (r : (List aa)) (h : gY.f a0 = some r) : oV Tryz.prog 54 #[ae A00 a0.length] [] [] ([Row 3 aa.au aa.aN A00 a0] ++ aI) (fun x : av (av Unit) => ae x r.length) (fun _ => []) (fun x => [bL 3 121 aa.au x r]) (fun x => [bC aa.aN x r] ++ ([Row 3 aa.au aa.aN A00 a0] ++ aI)) := by
 intro w Z hS
 refine gz (args := [ae A00 a0.length]) (L := [(0, ae A00 a0.length)]) (N := 8) (S := Sat w Z [] [] ([Row 3 aa.au aa.aN A00 a0] ++ aI)) Tryz.func54 rfl rfl (nB rfl) rfl hS ?_
 have hM := h
 clear h hS
 unfold gY.f at hM
 refine WP.fact (Row 3 aa.au aa.aN A00 a0) (ar 0 rfl) (fun w hw => hw.nil) (fun hn => ?_)
 obtain ⟨a, c, s, z⟩ := A00
 cases a with
 | none =>
  obtain ⟨h1, h2⟩ := hn rfl
  dsimp only at h1 h2
  subst h1; subst h2
  cases z with
  | none =>
   obtain ⟨u0, hu0, hM⟩ := bind_some hM
   obtain rfl := oI hM
   show WP _ _ _ _ _ [(0, .slice none 0 0)] (Sat _ _ _ _ ([Row 3 aa.au aa.aN (⟨none, 0, s, none⟩ : av (av Unit)) ([] : List aa)] ++ aI))
   refine WP.seq (WP.rn [] [(2, .slice none 0 0)] ?_)
   refine WP.seq (WP.seq (WP.rn [] [(4, vB true)] ?_))
   refine WP.yes rfl rfl (WP.seq (WP.rn [] [(2, .slice none 0 0)] ?_))
   refine WP.fH 3 121 aa.au aa.aN (fun _ => (av.nil (fun _ => ()))) ?_
   exact WP.ret [] [] (ae (av.nil (fun _ => (av.nil (fun _ => ())))) ([] : List aa).length) (by kernel_rfl) (fun w' hw => ⟨(av.nil (fun _ => (av.nil (fun _ => ())))), rfl, (hw.pick [] rfl).less (aT [0] [1] rfl rfl)⟩)
  | some ad =>
   refine WP.seq (WP.rn [] [(2, .slice none 0 0)] ?_)
   refine WP.seq (WP.seq (WP.rn [] [(4, vB false)] ?_))
   refine WP.no rfl rfl (WP.skip (WP.seq (WP.region ?_)))
   refine WL.rh 2 [] (fun b1 => [(5, .slice (some ⟨b1, 0, none⟩) 0 0), (6, ae (⟨none, 0, s, some ad⟩ : av (av Unit)) ([] : List aa).length)]) (fun b1 => []) (fun b1 => [(b1, .cells #[] 121 (0, 0))]) (fun b1 => ?_)
   refine WL.fb (H' := []) (m := 3) (e := 121) (f := aa.au) aa.aN 0 (b := b1) (cs := #[]) (fP [] (av.nil (fun _ => ()))) ([] : List aa) rfl (fun _ _ => rfl) rfl (by decide) [] [] rfl (fun w hψ => trivial) rfl ?_
   obtain ⟨u3, h2, hM⟩ := bind_some hM
   refine WL.dW (G' := []) (A := (av.at b1 0 (fP [] (av.nil (fun _ => ()))))) (B := (⟨none, 0, s, some ad⟩ : av (av Unit))) (xs := ([] : List aa)) (ys := ([] : List aa)) (m := 3) (by_ := 40) (e := 121) (z := .agg #[vB false, vI 0, .slice none 0 0]) (f := aa.au) (K := aa.aN) (d := 7) 0 rfl rfl rfl rfl rfl rfl rfl (fun _ _ => rfl) (fun _ _ => rfl) (by kernel_rfl) rfl rfl rfl rfl (ar 0 rfl) (ar 1 rfl) h2 rfl (fun A4 => ?_)
   refine WL.less (Φ' := ([bC aa.aN A4 ([] : List aa), bC aa.aN (av.at b1 0 (fP [] (av.nil (fun _ => ())))) ([] : List aa), Row 3 aa.au aa.aN (⟨none, 0, s, some ad⟩ : av (av Unit)) ([] : List aa)] ++ aI)) (fun _ h => h) ?_
   refine WL.rn 1 [] [(2, ae A4 ([] : List aa).length)] ?_
   refine WP.done ?_
   obtain rfl := oI hM
   exact WP.ret [] [] (ae A4 ([] : List aa).length) (by kernel_rfl) (fun w' hw => ⟨A4, rfl, (hw.pick [] rfl).less (aT [0] [2] rfl rfl)⟩)
 | some p =>
  obtain ⟨b, o⟩ := p
  refine WP.seq (WP.rn [] [(2, .slice none 0 0)] ?_)
  refine WP.seq (WP.seq (WP.rn [] [(4, vB false)] ?_))
  refine WP.no rfl rfl (WP.skip (WP.seq (WP.region ?_)))
  refine WL.rh 2 [] (fun b1 => [(5, .slice (some ⟨b1, 0, none⟩) 0 0), (6, ae (⟨some (b, o), c, s, z⟩ : av (av Unit)) a0.length)]) (fun b1 => []) (fun b1 => [(b1, .cells #[] 121 (0, 0))]) (fun b1 => ?_)
  refine WL.fb (H' := []) (m := 3) (e := 121) (f := aa.au) aa.aN 0 (b := b1) (cs := #[]) (fP [] (av.nil (fun _ => ()))) ([] : List aa) rfl (fun _ _ => rfl) rfl (by decide) [] [] rfl (fun w hψ => trivial) rfl ?_
  obtain ⟨u3, h2, hM⟩ := bind_some hM
  refine WL.dW (G' := []) (A := (av.at b1 0 (fP [] (av.nil (fun _ => ()))))) (B := (⟨some (b, o), c, s, z⟩ : av (av Unit))) (xs := ([] : List aa)) (ys := a0) (m := 3) (by_ := 40) (e := 121) (z := .agg #[vB false, vI 0, .slice none 0 0]) (f := aa.au) (K := aa.aN) (d := 7) 0 rfl rfl rfl rfl rfl rfl rfl (fun _ _ => rfl) (fun _ _ => rfl) (by kernel_rfl) rfl rfl rfl rfl (ar 0 rfl) (ar 1 rfl) h2 rfl (fun A4 => ?_)
  refine WL.less (Φ' := ([bC aa.aN A4 a0, bC aa.aN (av.at b1 0 (fP [] (av.nil (fun _ => ())))) ([] : List aa), Row 3 aa.au aa.aN (⟨some (b, o), c, s, z⟩ : av (av Unit)) a0] ++ aI)) (fun _ h => h) ?_
  refine WL.rn 1 [] [(2, ae A4 a0.length)] ?_
  refine WP.done ?_
  obtain rfl := oI hM
  exact WP.ret [] [] (ae A4 a0.length) (by kernel_rfl) (fun w' hw => ⟨A4, rfl, (hw.pick [] rfl).less (aT [0] [2] rfl rfl)⟩)
def aj.f (a0 : (List aj)) : Option (List aj) := (ey 24 a0.length).bind fun _ => some a0
theorem pe (A00 : av Unit) (a0 : (List aj)) (r : (List aj)) (h : aj.f a0 = some r) : eT Tryz.prog 57 #[ae A00 a0.length] [] ([Row 3 (pl aj.enc) aA A00 a0] ++ aI) (fun x : av Unit => ae x r.length) (fun _ => []) (fun _ => []) (fun x => [Row 3 (pl aj.enc) aA x r] ++ ([Row 3 (pl aj.enc) aA A00 a0] ++ aI)) := by
 intro w Z hS
 refine gz (args := [ae A00 a0.length]) (L := [(0, ae A00 a0.length)]) (N := 8) (S := Sat w Z [] [] ([Row 3 (pl aj.enc) aA A00 a0] ++ aI)) Tryz.func57 rfl rfl (nB rfl) rfl hS ?_
 have hM := h
 clear h hS
 unfold aj.f at hM
 refine WP.fact (Row 3 (pl aj.enc) aA A00 a0) (ar 0 rfl) (fun w hw => hw.nil) (fun hn => ?_)
 obtain ⟨a, c, s, z⟩ := A00
 cases a with
 | none =>
  obtain ⟨h1, h2⟩ := hn rfl
  dsimp only at h1 h2
  subst h1; subst h2
  cases z with
  | none =>
   obtain ⟨u0, hu0, hM⟩ := bind_some hM
   obtain rfl := oI hM
   show WP _ _ _ _ _ [(0, .slice none 0 0)] (Sat _ _ _ _ ([Row 3 (pl aj.enc) aA (⟨none, 0, s, none⟩ : av Unit) ([] : List aj)] ++ aI))
   refine WP.seq (WP.rn [] [(2, .slice none 0 0)] ?_)
   refine WP.seq (WP.seq (WP.rn [] [(4, vB true)] ?_))
   refine WP.yes rfl rfl (WP.seq (WP.rn [] [(2, .slice none 0 0)] ?_))
   refine WP.ez (Row 3 (pl aj.enc) aA (av.nil (fun _ => ())) ([] : List aj)) [] [] rfl (fun w _ => eU.empty (fun _ => rfl)) ?_
   exact WP.ret [] [] (ae (av.nil (fun _ => ())) ([] : List aj).length) (by kernel_rfl) (fun w' hw => ⟨(av.nil (fun _ => ())), rfl, (hw.pick [] rfl).less (aT [0] [1] rfl rfl)⟩)
  | some ad =>
   refine WP.seq (WP.rn [] [(2, .slice none 0 0)] ?_)
   refine WP.seq (WP.seq (WP.rn [] [(4, vB false)] ?_))
   refine WP.no rfl rfl (WP.skip (WP.seq (WP.region ?_)))
   refine WL.rh 2 [] (fun b1 => [(5, .slice (some ⟨b1, 0, none⟩) 0 0), (6, ae (⟨none, 0, s, some ad⟩ : av Unit) ([] : List aj).length)]) (fun b1 => []) (fun b1 => [(b1, .cells #[] 163 (0, 0))]) (fun b1 => ?_)
   obtain ⟨u3, h2, hM⟩ := bind_some hM
   refine WL.ef (A := (av.at b1 0 (fun _ => ()))) (B := (⟨none, 0, s, some ad⟩ : av Unit)) (ys := ([] : List aj)) (n := 0) (m := 3) (by_ := 24) (e := 163) (z := .agg #[vT 0, vI 0, vT 0]) (f := (pl aj.enc)) (K := aA) (d := 7) rfl rfl rfl rfl rfl (fun _ _ => rfl) (by kernel_rfl) rfl rfl rfl rfl (ar 0 rfl) h2 rfl (fun A4 => ?_)
   refine WL.less (Φ' := ([Row 3 (pl aj.enc) aA A4 ([] : List aj), Row 3 (pl aj.enc) aA (⟨none, 0, s, some ad⟩ : av Unit) ([] : List aj)] ++ aI)) (fun _ h => h) ?_
   refine WL.rn 1 [] [(2, ae A4 ([] : List aj).length)] ?_
   refine WP.done (WP.kp [false] ?_)
   obtain rfl := oI hM
   exact WP.ret [] [] (ae A4 ([] : List aj).length) (by kernel_rfl) (fun w' hw => ⟨A4, rfl, (hw.pick [] rfl).less (aT [0] [1] rfl rfl)⟩)
 | some p =>
  obtain ⟨b, o⟩ := p
  refine WP.seq (WP.rn [] [(2, .slice none 0 0)] ?_)
  refine WP.seq (WP.seq (WP.rn [] [(4, vB false)] ?_))
  refine WP.no rfl rfl (WP.skip (WP.seq (WP.region ?_)))
  refine WL.rh 2 [] (fun b1 => [(5, .slice (some ⟨b1, 0, none⟩) 0 0), (6, ae (⟨some (b, o), c, s, z⟩ : av Unit) a0.length)]) (fun b1 => []) (fun b1 => [(b1, .cells #[] 163 (0, 0))]) (fun b1 => ?_)
  obtain ⟨u3, h2, hM⟩ := bind_some hM
  refine WL.ef (A := (av.at b1 0 (fun _ => ()))) (B := (⟨some (b, o), c, s, z⟩ : av Unit)) (ys := a0) (n := 0) (m := 3) (by_ := 24) (e := 163) (z := .agg #[vT 0, vI 0, vT 0]) (f := (pl aj.enc)) (K := aA) (d := 7) rfl rfl rfl rfl rfl (fun _ _ => rfl) (by kernel_rfl) rfl rfl rfl rfl (ar 0 rfl) h2 rfl (fun A4 => ?_)
  refine WL.less (Φ' := ([Row 3 (pl aj.enc) aA A4 a0, Row 3 (pl aj.enc) aA (⟨some (b, o), c, s, z⟩ : av Unit) a0] ++ aI)) (fun _ h => h) ?_
  refine WL.rn 1 [] [(2, ae A4 a0.length)] ?_
  refine WP.done (WP.kp [false] ?_)
  obtain rfl := oI hM
  exact WP.ret [] [] (ae A4 a0.length) (by kernel_rfl) (fun w' hw => ⟨A4, rfl, (hw.pick [] rfl).less (aT [0] [1] rfl rfl)⟩)
def ag.f (a0 : (List ag)) : Option (List ag) := (ey 40 a0.length).bind fun _ => some a0
theorem qZ (A00 : av (av Unit)) (a0 : (List ag)) (r : (List ag)) (h : ag.f a0 = some r) : oV Tryz.prog 58 #[ae A00 a0.length] [] [] ([Row 3 ag.au ag.aN A00 a0] ++ aI) (fun x : av (av Unit) => ae x r.length) (fun _ => []) (fun x => [bL 3 143 ag.au x r]) (fun x => [bC ag.aN x r] ++ ([Row 3 ag.au ag.aN A00 a0] ++ aI)) := by
 intro w Z hS
 refine gz (args := [ae A00 a0.length]) (L := [(0, ae A00 a0.length)]) (N := 8) (S := Sat w Z [] [] ([Row 3 ag.au ag.aN A00 a0] ++ aI)) Tryz.func58 rfl rfl (nB rfl) rfl hS ?_
 have hM := h
 clear h hS
 unfold ag.f at hM
 refine WP.fact (Row 3 ag.au ag.aN A00 a0) (ar 0 rfl) (fun w hw => hw.nil) (fun hn => ?_)
 obtain ⟨a, c, s, z⟩ := A00
 cases a with
 | none =>
  obtain ⟨h1, h2⟩ := hn rfl
  dsimp only at h1 h2
  subst h1; subst h2
  cases z with
  | none =>
   obtain ⟨u0, hu0, hM⟩ := bind_some hM
   obtain rfl := oI hM
   show WP _ _ _ _ _ [(0, .slice none 0 0)] (Sat _ _ _ _ ([Row 3 ag.au ag.aN (⟨none, 0, s, none⟩ : av (av Unit)) ([] : List ag)] ++ aI))
   refine WP.seq (WP.rn [] [(2, .slice none 0 0)] ?_)
   refine WP.seq (WP.seq (WP.rn [] [(4, vB true)] ?_))
   refine WP.yes rfl rfl (WP.seq (WP.rn [] [(2, .slice none 0 0)] ?_))
   refine WP.fH 3 143 ag.au ag.aN (fun _ => (av.nil (fun _ => ()))) ?_
   exact WP.ret [] [] (ae (av.nil (fun _ => (av.nil (fun _ => ())))) ([] : List ag).length) (by kernel_rfl) (fun w' hw => ⟨(av.nil (fun _ => (av.nil (fun _ => ())))), rfl, (hw.pick [] rfl).less (aT [0] [1] rfl rfl)⟩)
  | some ad =>
   refine WP.seq (WP.rn [] [(2, .slice none 0 0)] ?_)
   refine WP.seq (WP.seq (WP.rn [] [(4, vB false)] ?_))
   refine WP.no rfl rfl (WP.skip (WP.seq (WP.region ?_)))
   refine WL.rh 2 [] (fun b1 => [(5, .slice (some ⟨b1, 0, none⟩) 0 0), (6, ae (⟨none, 0, s, some ad⟩ : av (av Unit)) ([] : List ag).length)]) (fun b1 => []) (fun b1 => [(b1, .cells #[] 143 (0, 0))]) (fun b1 => ?_)
   refine WL.fb (H' := []) (m := 3) (e := 143) (f := ag.au) ag.aN 0 (b := b1) (cs := #[]) (fP [] (av.nil (fun _ => ()))) ([] : List ag) rfl (fun _ _ => rfl) rfl (by decide) [] [] rfl (fun w hψ => trivial) rfl ?_
   obtain ⟨u3, h2, hM⟩ := bind_some hM
   refine WL.dW (G' := []) (A := (av.at b1 0 (fP [] (av.nil (fun _ => ()))))) (B := (⟨none, 0, s, some ad⟩ : av (av Unit))) (xs := ([] : List ag)) (ys := ([] : List ag)) (m := 3) (by_ := 40) (e := 143) (z := .agg #[vI 0, vI 0, .slice none 0 0]) (f := ag.au) (K := ag.aN) (d := 7) 0 rfl rfl rfl rfl rfl rfl rfl (fun _ _ => rfl) (fun _ _ => rfl) (by kernel_rfl) rfl rfl rfl rfl (ar 0 rfl) (ar 1 rfl) h2 rfl (fun A4 => ?_)
   refine WL.less (Φ' := ([bC ag.aN A4 ([] : List ag), bC ag.aN (av.at b1 0 (fP [] (av.nil (fun _ => ())))) ([] : List ag), Row 3 ag.au ag.aN (⟨none, 0, s, some ad⟩ : av (av Unit)) ([] : List ag)] ++ aI)) (fun _ h => h) ?_
   refine WL.rn 1 [] [(2, ae A4 ([] : List ag).length)] ?_
   refine WP.done ?_
   obtain rfl := oI hM
   exact WP.ret [] [] (ae A4 ([] : List ag).length) (by kernel_rfl) (fun w' hw => ⟨A4, rfl, (hw.pick [] rfl).less (aT [0] [2] rfl rfl)⟩)
 | some p =>
  obtain ⟨b, o⟩ := p
  refine WP.seq (WP.rn [] [(2, .slice none 0 0)] ?_)
  refine WP.seq (WP.seq (WP.rn [] [(4, vB false)] ?_))
  refine WP.no rfl rfl (WP.skip (WP.seq (WP.region ?_)))
  refine WL.rh 2 [] (fun b1 => [(5, .slice (some ⟨b1, 0, none⟩) 0 0), (6, ae (⟨some (b, o), c, s, z⟩ : av (av Unit)) a0.length)]) (fun b1 => []) (fun b1 => [(b1, .cells #[] 143 (0, 0))]) (fun b1 => ?_)
  refine WL.fb (H' := []) (m := 3) (e := 143) (f := ag.au) ag.aN 0 (b := b1) (cs := #[]) (fP [] (av.nil (fun _ => ()))) ([] : List ag) rfl (fun _ _ => rfl) rfl (by decide) [] [] rfl (fun w hψ => trivial) rfl ?_
  obtain ⟨u3, h2, hM⟩ := bind_some hM
  refine WL.dW (G' := []) (A := (av.at b1 0 (fP [] (av.nil (fun _ => ()))))) (B := (⟨some (b, o), c, s, z⟩ : av (av Unit))) (xs := ([] : List ag)) (ys := a0) (m := 3) (by_ := 40) (e := 143) (z := .agg #[vI 0, vI 0, .slice none 0 0]) (f := ag.au) (K := ag.aN) (d := 7) 0 rfl rfl rfl rfl rfl rfl rfl (fun _ _ => rfl) (fun _ _ => rfl) (by kernel_rfl) rfl rfl rfl rfl (ar 0 rfl) (ar 1 rfl) h2 rfl (fun A4 => ?_)
  refine WL.less (Φ' := ([bC ag.aN A4 a0, bC ag.aN (av.at b1 0 (fP [] (av.nil (fun _ => ())))) ([] : List ag), Row 3 ag.au ag.aN (⟨some (b, o), c, s, z⟩ : av (av Unit)) a0] ++ aI)) (fun _ h => h) ?_
  refine WL.rn 1 [] [(2, ae A4 a0.length)] ?_
  refine WP.done ?_
  obtain rfl := oI hM
  exact WP.ret [] [] (ae A4 a0.length) (by kernel_rfl) (fun w' hw => ⟨A4, rfl, (hw.pick [] rfl).less (aT [0] [2] rfl rfl)⟩)
def du.f (a0 : (List Int)) : Option (List Int) := (ey 4 a0.length).bind fun _ => some a0
theorem gl (A00 : av Unit) (a0 : (List Int)) (r : (List Int)) (h : du.f a0 = some r) : eT Tryz.prog 59 #[ae A00 a0.length] [] ([Row 1 (pl (aE .u32)) aA A00 a0] ++ aI) (fun x : av Unit => ae x r.length) (fun _ => []) (fun _ => []) (fun x => [Row 1 (pl (aE .u32)) aA x r] ++ ([Row 1 (pl (aE .u32)) aA A00 a0] ++ aI)) := by
 intro w Z hS
 refine gz (args := [ae A00 a0.length]) (L := [(0, ae A00 a0.length)]) (N := 8) (S := Sat w Z [] [] ([Row 1 (pl (aE .u32)) aA A00 a0] ++ aI)) Tryz.func59 rfl rfl (nB rfl) rfl hS ?_
 have hM := h
 clear h hS
 unfold du.f at hM
 refine WP.fact (Row 1 (pl (aE .u32)) aA A00 a0) (ar 0 rfl) (fun w hw => hw.nil) (fun hn => ?_)
 obtain ⟨a, c, s, z⟩ := A00
 cases a with
 | none =>
  obtain ⟨h1, h2⟩ := hn rfl
  dsimp only at h1 h2
  subst h1; subst h2
  cases z with
  | none =>
   obtain ⟨u0, hu0, hM⟩ := bind_some hM
   obtain rfl := oI hM
   show WP _ _ _ _ _ [(0, .slice none 0 0)] (Sat _ _ _ _ ([Row 1 (pl (aE .u32)) aA (⟨none, 0, s, none⟩ : av Unit) ([] : List Int)] ++ aI))
   refine WP.seq (WP.rn [] [(2, .slice none 0 0)] ?_)
   refine WP.seq (WP.seq (WP.rn [] [(4, vB true)] ?_))
   refine WP.yes rfl rfl (WP.seq (WP.rn [] [(2, .slice none 0 0)] ?_))
   refine WP.ez (Row 1 (pl (aE .u32)) aA (av.nil (fun _ => ())) ([] : List Int)) [] [] rfl (fun w _ => eU.empty (fun _ => rfl)) ?_
   exact WP.ret [] [] (ae (av.nil (fun _ => ())) ([] : List Int).length) (by kernel_rfl) (fun w' hw => ⟨(av.nil (fun _ => ())), rfl, (hw.pick [] rfl).less (aT [0] [1] rfl rfl)⟩)
  | some ad =>
   refine WP.seq (WP.rn [] [(2, .slice none 0 0)] ?_)
   refine WP.seq (WP.seq (WP.rn [] [(4, vB false)] ?_))
   refine WP.no rfl rfl (WP.skip (WP.seq (WP.region ?_)))
   refine WL.rh 2 [] (fun b1 => [(5, .slice (some ⟨b1, 0, none⟩) 0 0), (6, ae (⟨none, 0, s, some ad⟩ : av Unit) ([] : List Int).length)]) (fun b1 => []) (fun b1 => [(b1, .cells #[] 50 (0, 0))]) (fun b1 => ?_)
   obtain ⟨u3, h2, hM⟩ := bind_some hM
   refine WL.ef (A := (av.at b1 0 (fun _ => ()))) (B := (⟨none, 0, s, some ad⟩ : av Unit)) (ys := ([] : List Int)) (n := 0) (m := 1) (by_ := 4) (e := 50) (z := vT 0) (f := (pl (aE .u32))) (K := aA) (d := 7) rfl rfl rfl rfl rfl (fun _ _ => rfl) (by kernel_rfl) rfl rfl rfl rfl (ar 0 rfl) h2 rfl (fun A4 => ?_)
   refine WL.less (Φ' := ([Row 1 (pl (aE .u32)) aA A4 ([] : List Int), Row 1 (pl (aE .u32)) aA (⟨none, 0, s, some ad⟩ : av Unit) ([] : List Int)] ++ aI)) (fun _ h => h) ?_
   refine WL.rn 1 [] [(2, ae A4 ([] : List Int).length)] ?_
   refine WP.done (WP.kp [false] ?_)
   obtain rfl := oI hM
   exact WP.ret [] [] (ae A4 ([] : List Int).length) (by kernel_rfl) (fun w' hw => ⟨A4, rfl, (hw.pick [] rfl).less (aT [0] [1] rfl rfl)⟩)
 | some p =>
  obtain ⟨b, o⟩ := p
  refine WP.seq (WP.rn [] [(2, .slice none 0 0)] ?_)
  refine WP.seq (WP.seq (WP.rn [] [(4, vB false)] ?_))
  refine WP.no rfl rfl (WP.skip (WP.seq (WP.region ?_)))
  refine WL.rh 2 [] (fun b1 => [(5, .slice (some ⟨b1, 0, none⟩) 0 0), (6, ae (⟨some (b, o), c, s, z⟩ : av Unit) a0.length)]) (fun b1 => []) (fun b1 => [(b1, .cells #[] 50 (0, 0))]) (fun b1 => ?_)
  obtain ⟨u3, h2, hM⟩ := bind_some hM
  refine WL.ef (A := (av.at b1 0 (fun _ => ()))) (B := (⟨some (b, o), c, s, z⟩ : av Unit)) (ys := a0) (n := 0) (m := 1) (by_ := 4) (e := 50) (z := vT 0) (f := (pl (aE .u32))) (K := aA) (d := 7) rfl rfl rfl rfl rfl (fun _ _ => rfl) (by kernel_rfl) rfl rfl rfl rfl (ar 0 rfl) h2 rfl (fun A4 => ?_)
  refine WL.less (Φ' := ([Row 1 (pl (aE .u32)) aA A4 a0, Row 1 (pl (aE .u32)) aA (⟨some (b, o), c, s, z⟩ : av Unit) a0] ++ aI)) (fun _ h => h) ?_
  refine WL.rn 1 [] [(2, ae A4 a0.length)] ?_
  refine WP.done (WP.kp [false] ?_)
  obtain rfl := oI hM
  exact WP.ret [] [] (ae A4 a0.length) (by kernel_rfl) (fun w' hw => ⟨A4, rfl, (hw.pick [] rfl).less (aT [0] [1] rfl rfl)⟩)
def bP.l2 (r33 : (List ag)) (a0 : Int) (a0_1 : Int) (a0_2 : Int) (x19 : (List aa)) (r5 : (List Bool)) (a0_5 : ba) (a0_6 : bj) (a0_7 : Int) (r30 : (List aj)) (a0_10 : Int) (a0_11 : Bool) : Nat → Int → (List ag) → Option (ah)
 | 0, _, _ => none
 | n + 1, x46, x47 =>
  bif decide (x46 < (r33.length : Int)) then
   (cI x47.length x47 x46).bind fun t50 =>
   (du.f t50.aD).bind fun r53 =>
   (cI x47.length x47 x46).bind fun t56 =>
   bP.l2 r33 a0 a0_1 a0_2 x19 r5 a0_5 a0_6 a0_7 r30 a0_10 a0_11 n (i64 (x46 + 1)) (List.set x47 (Int.toNat x46) (ag.mk t56.bd t56.bV r53))
  else
   some (ah.mk a0 a0_1 a0_2 x19 r5 a0_5 a0_6 a0_7 x47 r30 a0_10 a0_11)
def bP.l1 (r2 : (List aa)) (a0_9 : (List aj)) (a0_8 : (List ag)) (k : Nat) (a0 : Int) (a0_1 : Int) (a0_2 : Int) (r5 : (List Bool)) (a0_5 : ba) (a0_6 : bj) (a0_7 : Int) (a0_10 : Int) (a0_11 : Bool) : Nat → Int → (List aa) → Option (ah)
 | 0, _, _ => none
 | n + 1, x18, x19 =>
  bif decide (x18 < (r2.length : Int)) then
   (cI x19.length x19 x18).bind fun t22 =>
   (dp.f t22.cS).bind fun r25 =>
   (cI x19.length x19 x18).bind fun t28 =>
   bP.l1 r2 a0_9 a0_8 k a0 a0_1 a0_2 r5 a0_5 a0_6 a0_7 a0_10 a0_11 n (i64 (x18 + 1)) (List.set x19 (Int.toNat x18) (aa.mk t28.bT t28.cU r25))
  else
   (aj.f a0_9).bind fun r30 =>
   (ag.f a0_8).bind fun r33 =>
   bP.l2 r33 a0 a0_1 a0_2 x19 r5 a0_5 a0_6 a0_7 r30 a0_10 a0_11 k 0 r33
def bP.f (k : Nat) (a0 : Int) (a0_1 : Int) (a0_2 : Int) (a0_3 : (List aa)) (a0_4 : (List Bool)) (a0_5 : ba) (a0_6 : bj) (a0_7 : Int) (a0_8 : (List ag)) (a0_9 : (List aj)) (a0_10 : Int) (a0_11 : Bool) : Option (ah) :=
 (gY.f a0_3).bind fun r2 =>
 (ei.f a0_4).bind fun r5 =>
 bP.l1 r2 a0_9 a0_8 k a0 a0_1 a0_2 r5 a0_5 a0_6 a0_7 a0_10 a0_11 k 0 r2
theorem mI (k : Nat) (A00 : av (av Unit)) (A01 : av Unit) (A02 : av (av Unit)) (A03 : av Unit) (a0 : Int) (a0_1 : Int) (a0_2 : Int) (a0_3 : (List aa)) (a0_4 : (List Bool)) (a0_5 : ba) (a0_6 : bj) (a0_7 : Int) (a0_8 : (List ag)) (a0_9 : (List aj)) (a0_10 : Int) (a0_11 : Bool) (r : ah) (h : bP.f k a0 a0_1 a0_2 a0_3 a0_4 a0_5 a0_6 a0_7 a0_8 a0_9 a0_10 a0_11 = some r) : eT Tryz.prog 27 #[.agg #[vU a0, vU a0_1, vT a0_2, ae A00 a0_3.length, ae A01 a0_4.length, vI a0_5.Room, vI a0_5.aY, vI a0_5.a8, vI a0_5.aR, vU a0_6.bx, vT a0_6.Ip, vI a0_6.Room, vI a0_6.aY, vI a0_6.cp, vI a0_6.br, vI a0_6.bn, vI a0_7, ae A02 a0_8.length, ae A03 a0_9.length, vI a0_10, vB a0_11]] [] ([Row 3 aa.au aa.aN A00 a0_3, Row 1 (pl ca) aA A01 a0_4, Row 3 ag.au ag.aN A02 a0_8, Row 3 (pl aj.enc) aA A03 a0_9] ++ aI) (fun x : ((av (av Unit)) × (av Unit) × (av (av Unit)) × (av Unit)) => .agg #[vU r.aK, vU r.bx, vT r.Ip, ae x.1 r.aX.length, ae x.2.1 r.bt.length, vI r.bz.Room, vI r.bz.aY, vI r.bz.a8, vI r.bz.aR, vU r.aO.bx, vT r.aO.Ip, vI r.aO.Room, vI r.aO.aY, vI r.aO.cp, vI r.aO.br, vI r.aO.bn, vI r.cj, ae x.2.2.1 r.cm.length, ae x.2.2.2 r.a7.length, vI r.cT, vB r.bu]) (fun x => []) (fun _ => []) (fun x => [Row 3 aa.au aa.aN x.1 r.aX, Row 1 (pl ca) aA x.2.1 r.bt, Row 3 ag.au ag.aN x.2.2.1 r.cm, Row 3 (pl aj.enc) aA x.2.2.2 r.a7] ++ ([Row 3 aa.au aa.aN A00 a0_3, Row 1 (pl ca) aA A01 a0_4, Row 3 ag.au ag.aN A02 a0_8, Row 3 (pl aj.enc) aA A03 a0_9] ++ aI)) := by
 intro w Z hS
 refine bh (args := [.agg #[vU a0, vU a0_1, vT a0_2, ae A00 a0_3.length, ae A01 a0_4.length, vI a0_5.Room, vI a0_5.aY, vI a0_5.a8, vI a0_5.aR, vU a0_6.bx, vT a0_6.Ip, vI a0_6.Room, vI a0_6.aY, vI a0_6.cp, vI a0_6.br, vI a0_6.bn, vI a0_7, ae A02 a0_8.length, ae A03 a0_9.length, vI a0_10, vB a0_11]]) (L := [(0, .agg #[vU a0, vU a0_1, vT a0_2, ae A00 a0_3.length, ae A01 a0_4.length, vI a0_5.Room, vI a0_5.aY, vI a0_5.a8, vI a0_5.aR, vU a0_6.bx, vT a0_6.Ip, vI a0_6.Room, vI a0_6.aY, vI a0_6.cp, vI a0_6.br, vI a0_6.bn, vI a0_7, ae A02 a0_8.length, ae A03 a0_9.length, vI a0_10, vB a0_11])]) (N := 58) Tryz.func27 hS ?_
 have hM := h
 clear h hS
 unfold bP.f at hM
 refine WP.seq ?_
 refine WP.rh [] (fun b1 => [(1, vP b1 0), (2, vP (b1 + 1) 0)]) (fun b1 => []) (fun b1 => [(b1, .cells #[vU a0, vU a0_1, vT a0_2, ae A00 a0_3.length, ae A01 a0_4.length, vI a0_5.Room, vI a0_5.aY, vI a0_5.a8, vI a0_5.aR, vU a0_6.bx, vT a0_6.Ip, vI a0_6.Room, vI a0_6.aY, vI a0_6.cp, vI a0_6.br, vI a0_6.bn, vI a0_7, ae A02 a0_8.length, ae A03 a0_9.length, vI a0_10, vB a0_11] 60 (0, 0)), ((b1 + 1), .cells #[vU 0, vU 0, vT 0, .slice none 0 0, .slice none 0 0, vI 0, vI 0, vI 0, vI 0, vU 0, vT 0, vI 0, vI 0, vI 0, vI 0, vI 0, vI 0, .slice none 0 0, .slice none 0 0, vI 0, vB false] 60 (0, 0))]) (fun b1 => ?_)
 refine WP.seq ?_
 obtain ⟨r2, h3, hM⟩ := bind_some hM
 obtain ⟨r5, h6, hM⟩ := bind_some hM
 refine WP.rs [1, 2] ?_
 refine WP.fB (X := ((av (av Unit)) × (av Unit))) 10 5 [⟨0, 7, fun _ => [(b1, .cells #[vU a0, vU a0_1, vT a0_2, ae A00 a0_3.length, ae A01 a0_4.length, vI a0_5.Room, vI a0_5.aY, vI a0_5.a8, vI a0_5.aR, vU a0_6.bx, vT a0_6.Ip, vI a0_6.Room, vI a0_6.aY, vI a0_6.cp, vI a0_6.br, vI a0_6.bn, vI a0_7, ae A02 a0_8.length, ae A03 a0_9.length, vI a0_10, vB a0_11] 60 (0, 0))], fun _ => []⟩, ⟨0, 10, fun _ => [((b1 + 1), .cells #[vU 0, vU 0, vT 0, .slice none 0 0, .slice none 0 0, vI 0, vI 0, vI 0, vI 0, vU 0, vT 0, vI 0, vI 0, vI 0, vI 0, vI 0, vI 0, .slice none 0 0, .slice none 0 0, vI 0, vB false] 60 (0, 0))], fun _ => []⟩, ⟨3, 10, fun ξ => [], fun ξ => [bL 3 121 aa.au (ξ 2).1 r2]⟩, ⟨8, 9, fun ξ => [(b1, .cells #[vU a0, vU a0_1, vT a0_2, ae (ξ 2).1 r2.length, ae A01 a0_4.length, vI a0_5.Room, vI a0_5.aY, vI a0_5.a8, vI a0_5.aR, vU a0_6.bx, vT a0_6.Ip, vI a0_6.Room, vI a0_6.aY, vI a0_6.cp, vI a0_6.br, vI a0_6.bn, vI a0_7, ae A02 a0_8.length, ae A03 a0_9.length, vI a0_10, vB a0_11] 60 (0, 0))], fun ξ => []⟩, ⟨10, 10, fun ξ => [(b1, .cells #[vU a0, vU a0_1, vT a0_2, ae (ξ 2).1 r2.length, ae (ξ 5).2 r5.length, vI a0_5.Room, vI a0_5.aY, vI a0_5.a8, vI a0_5.aR, vU a0_6.bx, vT a0_6.Ip, vI a0_6.Room, vI a0_6.aY, vI a0_6.cp, vI a0_6.br, vI a0_6.bn, vI a0_7, ae A02 a0_8.length, ae A03 a0_9.length, vI a0_10, vB a0_11] 60 (0, 0))], fun ξ => []⟩] [⟨[], [], [], [], [], fun _ => vP b1 3, fun _ => []⟩, ⟨[0], [0], [0], [], [], fun _ => ae A00 a0_3.length, fun _ => []⟩, ⟨[0, 1], [], [2], [], [], fun ξ => ae (ξ 2).1 r2.length, fun ξ => [bC aa.aN (ξ 2).1 r2]⟩, ⟨[], [], [], [], [], fun _ => vP b1 4, fun _ => []⟩, ⟨[3], [0], [0], [], [], fun _ => ae A01 a0_4.length, fun _ => []⟩, ⟨[0, 1, 2, 3, 4], [], [], [], [], fun ξ => ae (ξ 5).2 r5.length, fun ξ => [Row 1 (pl ca) aA (ξ 5).2 r5]⟩, ⟨[0, 1, 2, 3, 4], [], [], [], [], fun _ => vP b1 3, fun _ => []⟩, ⟨[0, 1, 2, 3, 4, 5, 6], [0], [3], [2], [], fun _ => .tuple #[], fun _ => []⟩, ⟨[0, 1, 2, 3, 4, 5, 6, 7], [], [], [], [], fun _ => vP b1 4, fun _ => []⟩, ⟨[0, 1, 2, 3, 4, 5, 6, 7, 8], [3], [4], [2, 5], [], fun _ => .tuple #[], fun _ => []⟩] (fun ξ => []) (fun ξ => [((b1 + 1), .cells #[vU 0, vU 0, vT 0, .slice none 0 0, .slice none 0 0, vI 0, vI 0, vI 0, vI 0, vU 0, vT 0, vI 0, vI 0, vI 0, vI 0, vI 0, vI 0, .slice none 0 0, .slice none 0 0, vI 0, vB false] 60 (0, 0)), (b1, .cells #[vU a0, vU a0_1, vT a0_2, ae (ξ 2).1 r2.length, ae (ξ 5).2 r5.length, vI a0_5.Room, vI a0_5.aY, vI a0_5.a8, vI a0_5.aR, vU a0_6.bx, vT a0_6.Ip, vI a0_6.Room, vI a0_6.aY, vI a0_6.cp, vI a0_6.br, vI a0_6.bn, vI a0_7, ae A02 a0_8.length, ae A03 a0_9.length, vI a0_10, vB a0_11] 60 (0, 0))]) (fun ξ => [bL 3 121 aa.au (ξ 2).1 r2]) (fun ξ => [bC aa.aN (ξ 2).1 r2, Row 1 (pl ca) aA (ξ 5).2 r5]) (aq.cons ?_ (aq.cons ?_ (aq.cons ?_ (aq.cons ?_ (aq.cons ?_ (aq.cons ?_ (aq.cons ?_ (aq.cons ?_ (aq.cons ?_ (aq.cons ?_ aq.nil)))))))))) (aq.cons (bf.c rfl) (aq.cons (bf.c rfl) (aq.cons (fun t ht ξ ξ' h => by cases ht; have e2 : ξ 2 = ξ' 2 := h 2 (aC.1 rfl); exact ⟨by first | rfl | simp only [e2], by first | rfl | simp only [e2]⟩) (aq.cons (bf.c rfl) (aq.cons (bf.c rfl) (aq.cons (fun t ht ξ ξ' h => by cases ht; have e5 : ξ 5 = ξ' 5 := h 5 (aC.1 rfl); exact ⟨by first | rfl | simp only [e5], by first | rfl | simp only [e5]⟩) (aq.cons (bf.c rfl) (aq.cons (bf.c rfl) (aq.cons (bf.c rfl) (aq.cons (bf.c rfl) aq.nil)))))))))) (aq.cons (dA.c rfl) (aq.cons (dA.c rfl) (aq.cons (fun r hr ξ ξ' h => by cases hr; have e2 : ξ 2 = ξ' 2 := h 2 (aC.1 rfl); exact ⟨by first | rfl | simp only [e2], by first | rfl | simp only [e2]⟩) (aq.cons (fun r hr ξ ξ' h => by cases hr; have e2 : ξ 2 = ξ' 2 := h 2 (aC.1 rfl); exact ⟨by first | rfl | simp only [e2], by first | rfl | simp only [e2]⟩) (aq.cons (fun r hr ξ ξ' h => by cases hr; have e2 : ξ 2 = ξ' 2 := h 2 (aC.1 rfl); have e5 : ξ 5 = ξ' 5 := h 5 (aC.1 rfl); exact ⟨by first | rfl | simp only [e2, e5], by first | rfl | simp only [e2, e5]⟩) aq.nil))))) (fun ξ => ?_)
 ·
  intro o t ho ht ξ Gr Γr Lr Q hk
  cases ho; cases ht
  refine WL.rn 1 [] [(7, vP b1 3)] ?_
  exact WL.fin (hk default)
 ·
  intro o t ho ht ξ Gr Γr Lr Q hk
  cases ho; cases ht
  refine WL.rn 1 [0] [(8, ae A00 a0_3.length)] ?_
  exact WL.fin (hk default)
 ·
  intro o t ho ht ξ Gr Γr Lr Q hk
  cases ho; cases ht
  refine WL.nj (Gr := Gr) (F0 := [Row 3 aa.au aa.aN A00 a0_3]) [] [] [] (fun _ => _) [0] rfl (me A00 a0_3 _ h3) rfl rfl rfl (by kernel_rfl) rfl (fun _ => rfl) (fun A4 => ?_)
  exact WL.fin (hk (A4, default))
 ·
  intro o t ho ht ξ Gr Γr Lr Q hk
  cases ho; cases ht
  refine WL.rn 1 [] [(10, vP b1 4)] ?_
  exact WL.fin (hk default)
 ·
  intro o t ho ht ξ Gr Γr Lr Q hk
  cases ho; cases ht
  refine WL.rn 1 [0] [(11, ae A01 a0_4.length)] ?_
  exact WL.fin (hk default)
 ·
  intro o t ho ht ξ Gr Γr Lr Q hk
  cases ho; cases ht
  refine WL.c0 (F0 := [Row 1 (pl ca) aA A01 a0_4]) [] [] [] (fun _ => _) [2] rfl (iz A01 a0_4 _ h6) rfl rfl (by kernel_rfl) rfl (fun _ => rfl) (fun A7 => ?_)
  exact WL.fin (hk (default, A7))
 ·
  intro o t ho ht ξ Gr Γr Lr Q hk
  cases ho; cases ht
  refine WL.rn 1 [] [(13, vP b1 3)] ?_
  exact WL.fin (hk default)
 ·
  intro o t ho ht ξ Gr Γr Lr Q hk
  cases ho; cases ht
  refine WL.rh 1 [0] (fun _ => []) (fun _ => [(0, 3, [ae (ξ 2).1 r2.length])]) (fun _ => []) (fun _ => ?_)
  exact WL.fin (hk default)
 ·
  intro o t ho ht ξ Gr Γr Lr Q hk
  cases ho; cases ht
  refine WL.rn 1 [] [(14, vP b1 4)] ?_
  exact WL.fin (hk default)
 ·
  intro o t ho ht ξ Gr Γr Lr Q hk
  cases ho; cases ht
  refine WL.rh 1 [0] (fun _ => []) (fun _ => [(0, 4, [ae (ξ 5).2 r5.length])]) (fun _ => []) (fun _ => ?_)
  exact WL.fin (hk default)
 generalize (ξ 2).1 = A4
 generalize (ξ 5).2 = A7
 refine WP.less (Φ' := ([bC aa.aN A4 r2, Row 1 (pl ca) aA A7 r5, Row 3 aa.au aa.aN A00 a0_3, Row 1 (pl ca) aA A01 a0_4, Row 3 ag.au ag.aN A02 a0_8, Row 3 (pl aj.enc) aA A03 a0_9] ++ aI)) (fun _ h => h) ?_
 refine WP.seq (WP.seq (WP.rn [1] [(16, ae A4 r2.length), (17, vI (r2.length : Int)), (18, vI 0)] ?_))
 refine WP.block ?_
 refine WP.sub [1, 2, 16, 17, 18] (L' := [(1, vP b1 0), (2, vP (b1 + 1) 0), (16, ae A4 r2.length), (17, vI (r2.length : Int)), (18, vI 0)]) rfl ?_
 refine WP.aQ [0, 0, 1, 2, 3, 4, 5] (F' := [bC aa.aN A4 r2, bC aa.aN A4 r2, Row 1 (pl ca) aA A7 r5, Row 3 aa.au aa.aN A00 a0_3, Row 1 (pl ca) aA A01 a0_4, Row 3 ag.au ag.aN A02 a0_8, Row 3 (pl aj.enc) aA A03 a0_9]) rfl ?_
 refine WP.loop (σ := Int × (List aa) × av (av Unit)) (fun n st => bP.l1 r2 a0_9 a0_8 k a0 a0_1 a0_2 r5 a0_5 a0_6 a0_7 a0_10 a0_11 n st.1 st.2.1) r (fun st => [(1, vP b1 0), (2, vP (b1 + 1) 0), (16, ae st.2.2 st.2.1.length), (17, vI (r2.length : Int)), (18, vI st.1)]) (fun st => Sat w Z [((b1 + 1), .cells #[vU 0, vU 0, vT 0, .slice none 0 0, .slice none 0 0, vI 0, vI 0, vI 0, vI 0, vU 0, vT 0, vI 0, vI 0, vI 0, vI 0, vI 0, vI 0, .slice none 0 0, .slice none 0 0, vI 0, vB false] 60 (0, 0)), (b1, .cells #[vU a0, vU a0_1, vT a0_2, ae st.2.2 st.2.1.length, ae A7 r5.length, vI a0_5.Room, vI a0_5.aY, vI a0_5.a8, vI a0_5.aR, vU a0_6.bx, vT a0_6.Ip, vI a0_6.Room, vI a0_6.aY, vI a0_6.cp, vI a0_6.br, vI a0_6.bn, vI a0_7, ae A02 a0_8.length, ae A03 a0_9.length, vI a0_10, vB a0_11] 60 (0, 0))] [bL 3 121 aa.au st.2.2 st.2.1] ([bC aa.aN st.2.2 st.2.1, bC aa.aN A4 r2, Row 1 (pl ca) aA A7 r5, Row 3 aa.au aa.aN A00 a0_3, Row 1 (pl ca) aA A01 a0_4, Row 3 ag.au ag.aN A02 a0_8, Row 3 (pl aj.enc) aA A03 a0_9] ++ aI)) (st := (0, r2, A4)) (fun n st hM => ?_) hM
 rcases n with _ | n
 ·exact nomatch (show (none : Option _) = some r from hM)
 obtain ⟨x18, x19, A20⟩ := st
 replace hM : bP.l1 r2 a0_9 a0_8 k a0 a0_1 a0_2 r5 a0_5 a0_6 a0_7 a0_10 a0_11 (n + 1) x18 x19 = some r := hM
 rw [bP.l1] at hM
 try dsimp only
 refine WP.seq (WP.rn [] [(19, vB (decide (x18 < (r2.length : Int))))] ?_)
 refine WP.seq ?_
 refine WP.cond (decide (x18 < (r2.length : Int))) rfl rfl (fun c21 => ?_) (fun c21 => ?_)
 ·replace hM := aG hM c21
  refine WP.skip (WP.seq (WP.block (WP.seq (WP.region (WL.rn 1 [] [(20, vI x18)] ?_)))))
  obtain ⟨t22, h23, hM⟩ := bind_some hM
  refine WL.nK (m := 3) (e := 121) (f := aa.au) (K := aa.aN) (A := A20) (xs := x19) 0 rfl (fun _ _ => rfl) (ar 0 rfl) (fun w hR => aJ (A := A20) (xs := x19) (i := x18) (k := .i64) (e := 121) (m := 3) rfl rfl h23 rfl rfl hR) (by kernel_rfl) rfl rfl ?_
  refine WL.nK (m := 3) (e := 121) (f := aa.au) (K := aa.aN) (A := A20) (xs := x19) 0 rfl (fun _ _ => rfl) (ar 0 rfl) (fun w hR => b4 (A := A20) (xs := x19) (i := x18) (j := 0) (n := 3) (vs := [vB t22.bT, vI t22.cU, ae (A20.s (Int.toNat x18)) t22.cS.length]) h23 (fun _ => by kernel_rfl) rfl rfl rfl rfl hR) (by kernel_rfl) rfl rfl ?_
  refine WL.ez (Row 1 (pl (aE .i64)) aA (A20.s (Int.toNat x18)) t22.cS) [0] [bC aa.aN A20 x19] rfl (fun w hψ => (by have h_ := (hψ _ (List.mem_singleton.2 rfl)).get (bg h23).2; rw [Nat.zero_add] at h_; exact h_)) ?_
  refine WL.rh 3 [2, 2, 2] (fun b24 => [(3, vI x18), (4, vP b24 0)]) (fun b24 => []) (fun b24 => [(b24, .cells #[vB t22.bT, vI t22.cU, ae (A20.s (Int.toNat x18)) t22.cS.length] 121 (0, 0))]) (fun b24 => ?_)
  refine WP.done ?_
  obtain ⟨r25, h26, hM⟩ := bind_some hM
  obtain ⟨t28, h29, hM⟩ := bind_some hM
  refine WP.rs [1, 2, 3, 4, 16, 17, 18, 19, 20, 21, 22] ?_
  refine WP.fB (X := (av Unit)) 9 5 [⟨0, 9, fun _ => [((b1 + 1), .cells #[vU 0, vU 0, vT 0, .slice none 0 0, .slice none 0 0, vI 0, vI 0, vI 0, vI 0, vU 0, vT 0, vI 0, vI 0, vI 0, vI 0, vI 0, vI 0, .slice none 0 0, .slice none 0 0, vI 0, vB false] 60 (0, 0))], fun _ => []⟩, ⟨0, 9, fun _ => [(b1, .cells #[vU a0, vU a0_1, vT a0_2, ae A20 x19.length, ae A7 r5.length, vI a0_5.Room, vI a0_5.aY, vI a0_5.a8, vI a0_5.aR, vU a0_6.bx, vT a0_6.Ip, vI a0_6.Room, vI a0_6.aY, vI a0_6.cp, vI a0_6.br, vI a0_6.bn, vI a0_7, ae A02 a0_8.length, ae A03 a0_9.length, vI a0_10, vB a0_11] 60 (0, 0))], fun _ => []⟩, ⟨0, 9, fun _ => [(b24, .cells #[vB t22.bT, vI t22.cU, ae (A20.s (Int.toNat x18)) t22.cS.length] 121 (0, 0))], fun _ => []⟩, ⟨0, 8, fun _ => [], fun _ => [bL 3 121 aa.au A20 x19]⟩, ⟨9, 9, fun ξ => [], fun ξ => [bL 3 121 aa.au (av.iL A20 (Int.toNat x18) (ξ 5)) (List.set x19 (Int.toNat x18) (aa.mk t28.bT t28.cU r25))]⟩] [⟨[], [], [], [], [], fun _ => vP b1 3, fun _ => []⟩, ⟨[0], [1], [1], [], [], fun _ => ae A20 x19.length, fun _ => []⟩, ⟨[], [], [], [], [], fun _ => vI x18, fun _ => []⟩, ⟨[], [], [], [], [], fun _ => vP b24 2, fun _ => []⟩, ⟨[3], [2], [2], [], [], fun _ => ae (A20.s (Int.toNat x18)) t22.cS.length, fun _ => []⟩, ⟨[3, 4], [], [], [], [], fun ξ => ae (ξ 5) r25.length, fun ξ => [Row 1 (pl (aE .i64)) aA (ξ 5) r25]⟩, ⟨[0, 1, 2, 3, 4, 5], [3], [3], [], [], fun _ => dM A20 (Int.toNat x18 * 3), fun _ => []⟩, ⟨[0, 1, 2, 3, 4, 5, 6], [3], [3], [], [], fun _ => dM A20 (Int.toNat x18 * 3 + 2), fun _ => []⟩, ⟨[0, 1, 2, 3, 4, 5, 6, 7], [3], [4], [5], [], fun ξ => .tuple #[], fun ξ => [bC aa.aN (av.iL A20 (Int.toNat x18) (ξ 5)) (List.set x19 (Int.toNat x18) (aa.mk t28.bT t28.cU r25))]⟩] (fun ξ => [(23, vP b1 3), (24, ae A20 x19.length), (25, vI x18), (26, vP b24 2), (27, ae (A20.s (Int.toNat x18)) t22.cS.length), (28, ae (ξ 5) r25.length)]) (fun ξ => [((b1 + 1), .cells #[vU 0, vU 0, vT 0, .slice none 0 0, .slice none 0 0, vI 0, vI 0, vI 0, vI 0, vU 0, vT 0, vI 0, vI 0, vI 0, vI 0, vI 0, vI 0, .slice none 0 0, .slice none 0 0, vI 0, vB false] 60 (0, 0)), (b1, .cells #[vU a0, vU a0_1, vT a0_2, ae A20 x19.length, ae A7 r5.length, vI a0_5.Room, vI a0_5.aY, vI a0_5.a8, vI a0_5.aR, vU a0_6.bx, vT a0_6.Ip, vI a0_6.Room, vI a0_6.aY, vI a0_6.cp, vI a0_6.br, vI a0_6.bn, vI a0_7, ae A02 a0_8.length, ae A03 a0_9.length, vI a0_10, vB a0_11] 60 (0, 0)), (b24, .cells #[vB t22.bT, vI t22.cU, ae (A20.s (Int.toNat x18)) t22.cS.length] 121 (0, 0))]) (fun ξ => [bL 3 121 aa.au (av.iL A20 (Int.toNat x18) (ξ 5)) (List.set x19 (Int.toNat x18) (aa.mk t28.bT t28.cU r25))]) (fun ξ => [Row 1 (pl (aE .i64)) aA (ξ 5) r25, bC aa.aN (av.iL A20 (Int.toNat x18) (ξ 5)) (List.set x19 (Int.toNat x18) (aa.mk t28.bT t28.cU r25))]) (aq.cons ?_ (aq.cons ?_ (aq.cons ?_ (aq.cons ?_ (aq.cons ?_ (aq.cons ?_ (aq.cons ?_ (aq.cons ?_ (aq.cons ?_ aq.nil))))))))) (aq.cons (bf.c rfl) (aq.cons (bf.c rfl) (aq.cons (bf.c rfl) (aq.cons (bf.c rfl) (aq.cons (bf.c rfl) (aq.cons (fun t ht ξ ξ' h => by cases ht; have e5 : ξ 5 = ξ' 5 := h 5 (aC.1 rfl); exact ⟨by first | rfl | simp only [e5], by first | rfl | simp only [e5]⟩) (aq.cons (bf.c rfl) (aq.cons (bf.c rfl) (aq.cons (fun t ht ξ ξ' h => by cases ht; have e5 : ξ 5 = ξ' 5 := h 5 (aC.1 rfl); exact ⟨by first | rfl | simp only [e5], by first | rfl | simp only [e5]⟩) aq.nil))))))))) (aq.cons (dA.c rfl) (aq.cons (dA.c rfl) (aq.cons (dA.c rfl) (aq.cons (dA.c rfl) (aq.cons (fun r hr ξ ξ' h => by cases hr; have e5 : ξ 5 = ξ' 5 := h 5 (aC.1 rfl); exact ⟨by first | rfl | simp only [e5], by first | rfl | simp only [e5]⟩) aq.nil))))) (fun ξ => ?_)
  ·
   intro o t ho ht ξ Gr Γr Lr Q hk
   cases ho; cases ht
   refine WL.rn 1 [] [(23, vP b1 3)] ?_
   exact WL.fin (hk default)
  ·
   intro o t ho ht ξ Gr Γr Lr Q hk
   cases ho; cases ht
   refine WL.rn 1 [0] [(24, ae A20 x19.length)] ?_
   exact WL.fin (hk default)
  ·
   intro o t ho ht ξ Gr Γr Lr Q hk
   cases ho; cases ht
   refine WL.rn 1 [] [(25, vI x18)] ?_
   exact WL.fin (hk default)
  ·
   intro o t ho ht ξ Gr Γr Lr Q hk
   cases ho; cases ht
   refine WL.rn 1 [] [(26, vP b24 2)] ?_
   exact WL.fin (hk default)
  ·
   intro o t ho ht ξ Gr Γr Lr Q hk
   cases ho; cases ht
   refine WL.rn 1 [0] [(27, ae (A20.s (Int.toNat x18)) t22.cS.length)] ?_
   exact WL.fin (hk default)
  ·
   intro o t ho ht ξ Gr Γr Lr Q hk
   cases ho; cases ht
   refine WL.c0 (F0 := [Row 1 (pl (aE .i64)) aA (A20.s (Int.toNat x18)) t22.cS]) [] [] [] (fun _ => _) [0] rfl (fA (A20.s (Int.toNat x18)) t22.cS _ h26) rfl rfl (by kernel_rfl) rfl (fun _ => rfl) (fun A27 => ?_)
   exact WL.fin (hk A27)
  ·
   intro o t ho ht ξ Gr Γr Lr Q hk
   cases ho; cases ht
   refine WL.nK (m := 3) (e := 121) (f := aa.au) (K := aa.aN) (A := A20) (xs := x19) 0 rfl (fun _ _ => rfl) (ar 2 rfl) (fun w hR => aJ (A := A20) (xs := x19) (i := x18) (k := .i64) (e := 121) (m := 3) rfl rfl h29 rfl rfl hR) (by kernel_rfl) rfl rfl ?_
   exact WL.fin (hk default)
  ·
   intro o t ho ht ξ Gr Γr Lr Q hk
   cases ho; cases ht
   refine WL.nK (m := 3) (e := 121) (f := aa.au) (K := aa.aN) (A := A20) (xs := x19) 0 rfl (fun _ _ => rfl) (ar 2 rfl) (fun w hR => cY (A := A20) (xs := x19) (i := x18) (n := Int.toNat x18 * 3 + 0) (n' := Int.toNat x18 * 3 + 2) h29 rfl (fun _ _ => by kernel_rfl) hR) (by kernel_rfl) rfl rfl ?_
   exact WL.fin (hk default)
  ·
   intro o t ho ht ξ Gr Γr Lr Q hk
   cases ho; cases ht
   refine WL.wI (G' := Gr) (m := 3) (e := 121) (n := 1) (off := 2) (f := aa.au) (K := aa.aN) (A := A20) (xs := x19) (i := x18) (u := t28) (r := (aa.mk t28.bT t28.cU r25)) (s' := (ξ 5)) (v := ae (ξ 5) r25.length) (Ψ := [Row 1 (pl (aE .i64)) aA (ξ 5) r25]) 0 [0] (fun _ => by kernel_rfl) rfl rfl rfl rfl rfl rfl rfl rfl h29 rfl rfl (fun _ _ => rfl) (ar 2 rfl) rfl (fun w hK hψ => hψ _ (List.mem_of_getElem? (i := 0) rfl)) rfl ?_
   refine WL.less (Φ' := (([bC aa.aN (av.iL A20 (Int.toNat x18) (ξ 5)) (List.set x19 (Int.toNat x18) (aa.mk t28.bT t28.cU r25)), Row 1 (pl (aE .i64)) aA (ξ 5) r25, Row 1 (pl (aE .i64)) aA (A20.s (Int.toNat x18)) t22.cS, bC aa.aN A20 x19, bC aa.aN A4 r2, Row 1 (pl ca) aA A7 r5, Row 3 aa.au aa.aN A00 a0_3, Row 1 (pl ca) aA A01 a0_4, Row 3 ag.au ag.aN A02 a0_8, Row 3 (pl aj.enc) aA A03 a0_9] ++ Γr) ++ aI)) (fun _ h => h) ?_
   exact WL.fin (hk default)
  generalize (ξ 5) = A27
  refine WP.less (Φ' := ([Row 1 (pl (aE .i64)) aA A27 r25, bC aa.aN (av.iL A20 (Int.toNat x18) A27) (List.set x19 (Int.toNat x18) (aa.mk t28.bT t28.cU r25)), Row 1 (pl (aE .i64)) aA (A20.s (Int.toNat x18)) t22.cS, bC aa.aN A20 x19, bC aa.aN A4 r2, Row 1 (pl ca) aA A7 r5, Row 3 aa.au aa.aN A00 a0_3, Row 1 (pl ca) aA A01 a0_4, Row 3 ag.au ag.aN A02 a0_8, Row 3 (pl aj.enc) aA A03 a0_9] ++ aI)) (fun _ h => h) ?_
  refine WP.uS (L1 := [(1, vP b1 0), (2, vP (b1 + 1) 0), (3, vI x18), (4, vP b24 0), (16, ae A20 x19.length), (17, vI (r2.length : Int)), (18, vI x18), (19, vB (decide (x18 < (r2.length : Int)))), (20, vI x18), (22, .agg #[vB t22.bT, vI t22.cU, ae (A20.s (Int.toNat x18)) t22.cS.length]), (23, vP b1 3), (24, ae A20 x19.length), (25, vI x18), (26, vP b24 2), (27, ae (A20.s (Int.toNat x18)) t22.cS.length), (28, ae A27 r25.length)]) (L' := [(1, vP b1 0), (2, vP (b1 + 1) 0), (3, vI x18), (4, vP b24 0), (16, ae (av.iL A20 (Int.toNat x18) A27) (List.set x19 (Int.toNat x18) (aa.mk t28.bT t28.cU r25)).length), (17, vI (r2.length : Int)), (18, vI x18), (19, vB (decide (x18 < (r2.length : Int)))), (20, vI x18), (22, .agg #[vB t22.bT, vI t22.cU, ae (A20.s (Int.toNat x18)) t22.cS.length]), (23, vP b1 3), (24, ae (av.iL A20 (Int.toNat x18) A27) (List.set x19 (Int.toNat x18) (aa.mk t28.bT t28.cU r25)).length), (25, vI x18), (26, vP b24 2), (27, ae (A20.s (Int.toNat x18)) t22.cS.length), (28, ae A27 r25.length)]) (H' := [((b1 + 1), .cells #[vU 0, vU 0, vT 0, .slice none 0 0, .slice none 0 0, vI 0, vI 0, vI 0, vI 0, vU 0, vT 0, vI 0, vI 0, vI 0, vI 0, vI 0, vI 0, .slice none 0 0, .slice none 0 0, vI 0, vB false] 60 (0, 0)), (b1, .cells #[vU a0, vU a0_1, vT a0_2, ae (av.iL A20 (Int.toNat x18) A27) (List.set x19 (Int.toNat x18) (aa.mk t28.bT t28.cU r25)).length, ae A7 r5.length, vI a0_5.Room, vI a0_5.aY, vI a0_5.a8, vI a0_5.aR, vU a0_6.bx, vT a0_6.Ip, vI a0_6.Room, vI a0_6.aY, vI a0_6.cp, vI a0_6.br, vI a0_6.bn, vI a0_7, ae A02 a0_8.length, ae A03 a0_9.length, vI a0_10, vB a0_11] 60 (0, 0)), (b24, .cells #[vB t22.bT, vI t22.cU, ae (A20.s (Int.toNat x18)) t22.cS.length] 121 (0, 0))]) [1, 2, 3, 4, 16, 17, 18, 19, 20, 22, 23, 24, 25, 26, 27, 28] rfl (by first | rfl | simp only [List.length_set, jQ]) (by first | rfl | simp only [List.length_set, jQ]) ?_
  refine WP.leave (WP.rn [] [(18, vI (i64 (x18 + 1))), (31, vI (i64 (x18 + 1)))] ?_)
  exact WP.cN [1, 2, 16, 17, 18] (i64 (x18 + 1), (List.set x19 (Int.toNat x18) (aa.mk t28.bT t28.cU r25)), (av.iL A20 (Int.toNat x18) A27)) hM rfl (fun _ h => ((h.pick [0, 1] rfl).aQ [1, 4, 5, 6, 7, 8, 9] rfl).dE [0] [] 1 rfl (by decide) rfl)
 ·replace hM := aH hM c21
  refine WP.exit rfl (WP.seq ?_)
  obtain ⟨r30, h31, hM⟩ := bind_some hM
  obtain ⟨r33, h34, hM⟩ := bind_some hM
  refine WP.rs [1, 2] ?_
  refine WP.fB (X := ((av Unit) × (av (av Unit)))) 10 6 [⟨0, 10, fun _ => [((b1 + 1), .cells #[vU 0, vU 0, vT 0, .slice none 0 0, .slice none 0 0, vI 0, vI 0, vI 0, vI 0, vU 0, vT 0, vI 0, vI 0, vI 0, vI 0, vI 0, vI 0, .slice none 0 0, .slice none 0 0, vI 0, vB false] 60 (0, 0))], fun _ => []⟩, ⟨0, 7, fun _ => [(b1, .cells #[vU a0, vU a0_1, vT a0_2, ae A20 x19.length, ae A7 r5.length, vI a0_5.Room, vI a0_5.aY, vI a0_5.a8, vI a0_5.aR, vU a0_6.bx, vT a0_6.Ip, vI a0_6.Room, vI a0_6.aY, vI a0_6.cp, vI a0_6.br, vI a0_6.bn, vI a0_7, ae A02 a0_8.length, ae A03 a0_9.length, vI a0_10, vB a0_11] 60 (0, 0))], fun _ => []⟩, ⟨0, 10, fun _ => [], fun _ => [bL 3 121 aa.au A20 x19]⟩, ⟨6, 10, fun ξ => [], fun ξ => [bL 3 143 ag.au (ξ 5).2 r33]⟩, ⟨8, 9, fun ξ => [(b1, .cells #[vU a0, vU a0_1, vT a0_2, ae A20 x19.length, ae A7 r5.length, vI a0_5.Room, vI a0_5.aY, vI a0_5.a8, vI a0_5.aR, vU a0_6.bx, vT a0_6.Ip, vI a0_6.Room, vI a0_6.aY, vI a0_6.cp, vI a0_6.br, vI a0_6.bn, vI a0_7, ae A02 a0_8.length, ae (ξ 2).1 r30.length, vI a0_10, vB a0_11] 60 (0, 0))], fun ξ => []⟩, ⟨10, 10, fun ξ => [(b1, .cells #[vU a0, vU a0_1, vT a0_2, ae A20 x19.length, ae A7 r5.length, vI a0_5.Room, vI a0_5.aY, vI a0_5.a8, vI a0_5.aR, vU a0_6.bx, vT a0_6.Ip, vI a0_6.Room, vI a0_6.aY, vI a0_6.cp, vI a0_6.br, vI a0_6.bn, vI a0_7, ae (ξ 5).2 r33.length, ae (ξ 2).1 r30.length, vI a0_10, vB a0_11] 60 (0, 0))], fun ξ => []⟩] [⟨[], [], [], [], [], fun _ => vP b1 18, fun _ => []⟩, ⟨[0], [1], [1], [], [], fun _ => ae A03 a0_9.length, fun _ => []⟩, ⟨[0, 1], [], [], [], [], fun ξ => ae (ξ 2).1 r30.length, fun ξ => [Row 3 (pl aj.enc) aA (ξ 2).1 r30]⟩, ⟨[], [], [], [], [], fun _ => vP b1 17, fun _ => []⟩, ⟨[3], [1], [1], [], [], fun _ => ae A02 a0_8.length, fun _ => []⟩, ⟨[0, 1, 2, 3, 4], [], [3], [], [], fun ξ => ae (ξ 5).2 r33.length, fun ξ => [bC ag.aN (ξ 5).2 r33]⟩, ⟨[0, 1, 2, 3, 4], [], [], [], [], fun _ => vP b1 18, fun _ => []⟩, ⟨[0, 1, 2, 3, 4, 5, 6], [1], [4], [2], [], fun _ => .tuple #[], fun _ => []⟩, ⟨[0, 1, 2, 3, 4, 5, 6, 7], [], [], [], [], fun _ => vP b1 17, fun _ => []⟩, ⟨[0, 1, 2, 3, 4, 5, 6, 7, 8], [4], [5], [2, 5], [], fun _ => .tuple #[], fun _ => []⟩] (fun ξ => []) (fun ξ => [((b1 + 1), .cells #[vU 0, vU 0, vT 0, .slice none 0 0, .slice none 0 0, vI 0, vI 0, vI 0, vI 0, vU 0, vT 0, vI 0, vI 0, vI 0, vI 0, vI 0, vI 0, .slice none 0 0, .slice none 0 0, vI 0, vB false] 60 (0, 0)), (b1, .cells #[vU a0, vU a0_1, vT a0_2, ae A20 x19.length, ae A7 r5.length, vI a0_5.Room, vI a0_5.aY, vI a0_5.a8, vI a0_5.aR, vU a0_6.bx, vT a0_6.Ip, vI a0_6.Room, vI a0_6.aY, vI a0_6.cp, vI a0_6.br, vI a0_6.bn, vI a0_7, ae (ξ 5).2 r33.length, ae (ξ 2).1 r30.length, vI a0_10, vB a0_11] 60 (0, 0))]) (fun ξ => [bL 3 121 aa.au A20 x19, bL 3 143 ag.au (ξ 5).2 r33]) (fun ξ => [Row 3 (pl aj.enc) aA (ξ 2).1 r30, bC ag.aN (ξ 5).2 r33]) (aq.cons ?_ (aq.cons ?_ (aq.cons ?_ (aq.cons ?_ (aq.cons ?_ (aq.cons ?_ (aq.cons ?_ (aq.cons ?_ (aq.cons ?_ (aq.cons ?_ aq.nil)))))))))) (aq.cons (bf.c rfl) (aq.cons (bf.c rfl) (aq.cons (fun t ht ξ ξ' h => by cases ht; have e2 : ξ 2 = ξ' 2 := h 2 (aC.1 rfl); exact ⟨by first | rfl | simp only [e2], by first | rfl | simp only [e2]⟩) (aq.cons (bf.c rfl) (aq.cons (bf.c rfl) (aq.cons (fun t ht ξ ξ' h => by cases ht; have e5 : ξ 5 = ξ' 5 := h 5 (aC.1 rfl); exact ⟨by first | rfl | simp only [e5], by first | rfl | simp only [e5]⟩) (aq.cons (bf.c rfl) (aq.cons (bf.c rfl) (aq.cons (bf.c rfl) (aq.cons (bf.c rfl) aq.nil)))))))))) (aq.cons (dA.c rfl) (aq.cons (dA.c rfl) (aq.cons (dA.c rfl) (aq.cons (fun r hr ξ ξ' h => by cases hr; have e5 : ξ 5 = ξ' 5 := h 5 (aC.1 rfl); exact ⟨by first | rfl | simp only [e5], by first | rfl | simp only [e5]⟩) (aq.cons (fun r hr ξ ξ' h => by cases hr; have e2 : ξ 2 = ξ' 2 := h 2 (aC.1 rfl); exact ⟨by first | rfl | simp only [e2], by first | rfl | simp only [e2]⟩) (aq.cons (fun r hr ξ ξ' h => by cases hr; have e2 : ξ 2 = ξ' 2 := h 2 (aC.1 rfl); have e5 : ξ 5 = ξ' 5 := h 5 (aC.1 rfl); exact ⟨by first | rfl | simp only [e2, e5], by first | rfl | simp only [e2, e5]⟩) aq.nil)))))) (fun ξ => ?_)
  ·
   intro o t ho ht ξ Gr Γr Lr Q hk
   cases ho; cases ht
   refine WL.rn 1 [] [(32, vP b1 18)] ?_
   exact WL.fin (hk default)
  ·
   intro o t ho ht ξ Gr Γr Lr Q hk
   cases ho; cases ht
   refine WL.rn 1 [0] [(33, ae A03 a0_9.length)] ?_
   exact WL.fin (hk default)
  ·
   intro o t ho ht ξ Gr Γr Lr Q hk
   cases ho; cases ht
   refine WL.c0 (F0 := [Row 3 (pl aj.enc) aA A03 a0_9]) [] [] [] (fun _ => _) [6] rfl (pe A03 a0_9 _ h31) rfl rfl (by kernel_rfl) rfl (fun _ => rfl) (fun A32 => ?_)
   exact WL.fin (hk (A32, default))
  ·
   intro o t ho ht ξ Gr Γr Lr Q hk
   cases ho; cases ht
   refine WL.rn 1 [] [(35, vP b1 17)] ?_
   exact WL.fin (hk default)
  ·
   intro o t ho ht ξ Gr Γr Lr Q hk
   cases ho; cases ht
   refine WL.rn 1 [0] [(36, ae A02 a0_8.length)] ?_
   exact WL.fin (hk default)
  ·
   intro o t ho ht ξ Gr Γr Lr Q hk
   cases ho; cases ht
   refine WL.nj (Gr := Gr) (F0 := [Row 3 ag.au ag.aN A02 a0_8]) [] [] [] (fun _ => _) [6] rfl (qZ A02 a0_8 _ h34) rfl rfl rfl (by kernel_rfl) rfl (fun _ => rfl) (fun A35 => ?_)
   exact WL.fin (hk (default, A35))
  ·
   intro o t ho ht ξ Gr Γr Lr Q hk
   cases ho; cases ht
   refine WL.rn 1 [] [(38, vP b1 18)] ?_
   exact WL.fin (hk default)
  ·
   intro o t ho ht ξ Gr Γr Lr Q hk
   cases ho; cases ht
   refine WL.rh 1 [0] (fun _ => []) (fun _ => [(0, 18, [ae (ξ 2).1 r30.length])]) (fun _ => []) (fun _ => ?_)
   exact WL.fin (hk default)
  ·
   intro o t ho ht ξ Gr Γr Lr Q hk
   cases ho; cases ht
   refine WL.rn 1 [] [(39, vP b1 17)] ?_
   exact WL.fin (hk default)
  ·
   intro o t ho ht ξ Gr Γr Lr Q hk
   cases ho; cases ht
   refine WL.rh 1 [0] (fun _ => []) (fun _ => [(0, 17, [ae (ξ 5).2 r33.length])]) (fun _ => []) (fun _ => ?_)
   exact WL.fin (hk default)
  generalize (ξ 2).1 = A32
  generalize (ξ 5).2 = A35
  refine WP.less (Φ' := ([Row 3 (pl aj.enc) aA A32 r30, bC ag.aN A35 r33, bC aa.aN A20 x19, bC aa.aN A4 r2, Row 1 (pl ca) aA A7 r5, Row 3 aa.au aa.aN A00 a0_3, Row 1 (pl ca) aA A01 a0_4, Row 3 ag.au ag.aN A02 a0_8, Row 3 (pl aj.enc) aA A03 a0_9] ++ aI)) (fun _ h => h) ?_
  refine WP.seq (WP.seq (WP.rn [1] [(41, ae A35 r33.length), (42, vI (r33.length : Int)), (43, vI 0)] ?_))
  refine WP.block ?_
  refine WP.sub [1, 2, 41, 42, 43] (L' := [(1, vP b1 0), (2, vP (b1 + 1) 0), (41, ae A35 r33.length), (42, vI (r33.length : Int)), (43, vI 0)]) rfl ?_
  refine WP.aQ [1, 0, 1, 2, 3, 4, 5, 6, 7, 8] (F' := [bC ag.aN A35 r33, Row 3 (pl aj.enc) aA A32 r30, bC ag.aN A35 r33, bC aa.aN A20 x19, bC aa.aN A4 r2, Row 1 (pl ca) aA A7 r5, Row 3 aa.au aa.aN A00 a0_3, Row 1 (pl ca) aA A01 a0_4, Row 3 ag.au ag.aN A02 a0_8, Row 3 (pl aj.enc) aA A03 a0_9]) rfl ?_
  refine WP.dE (G' := [bL 3 143 ag.au A35 r33, bL 3 121 aa.au A20 x19]) [1, 0] [] 2 rfl (by decide) rfl ?_
  refine WP.loop (σ := Int × (List ag) × av (av Unit)) (fun n st => bP.l2 r33 a0 a0_1 a0_2 x19 r5 a0_5 a0_6 a0_7 r30 a0_10 a0_11 n st.1 st.2.1) r (fun st => [(1, vP b1 0), (2, vP (b1 + 1) 0), (41, ae st.2.2 st.2.1.length), (42, vI (r33.length : Int)), (43, vI st.1)]) (fun st => Sat w Z [((b1 + 1), .cells #[vU 0, vU 0, vT 0, .slice none 0 0, .slice none 0 0, vI 0, vI 0, vI 0, vI 0, vU 0, vT 0, vI 0, vI 0, vI 0, vI 0, vI 0, vI 0, .slice none 0 0, .slice none 0 0, vI 0, vB false] 60 (0, 0)), (b1, .cells #[vU a0, vU a0_1, vT a0_2, ae A20 x19.length, ae A7 r5.length, vI a0_5.Room, vI a0_5.aY, vI a0_5.a8, vI a0_5.aR, vU a0_6.bx, vT a0_6.Ip, vI a0_6.Room, vI a0_6.aY, vI a0_6.cp, vI a0_6.br, vI a0_6.bn, vI a0_7, ae st.2.2 st.2.1.length, ae A32 r30.length, vI a0_10, vB a0_11] 60 (0, 0))] [bL 3 143 ag.au st.2.2 st.2.1, bL 3 121 aa.au A20 x19] ([bC ag.aN st.2.2 st.2.1, Row 3 (pl aj.enc) aA A32 r30, bC ag.aN A35 r33, bC aa.aN A20 x19, bC aa.aN A4 r2, Row 1 (pl ca) aA A7 r5, Row 3 aa.au aa.aN A00 a0_3, Row 1 (pl ca) aA A01 a0_4, Row 3 ag.au ag.aN A02 a0_8, Row 3 (pl aj.enc) aA A03 a0_9] ++ aI)) (st := (0, r33, A35)) (fun n st hM => ?_) hM
  rcases n with _ | n
  ·exact nomatch (show (none : Option _) = some r from hM)
  obtain ⟨x46, x47, A48⟩ := st
  replace hM : bP.l2 r33 a0 a0_1 a0_2 x19 r5 a0_5 a0_6 a0_7 r30 a0_10 a0_11 (n + 1) x46 x47 = some r := hM
  rw [bP.l2] at hM
  try dsimp only
  refine WP.seq (WP.rn [] [(44, vB (decide (x46 < (r33.length : Int))))] ?_)
  refine WP.seq ?_
  refine WP.cond (decide (x46 < (r33.length : Int))) rfl rfl (fun c49 => ?_) (fun c49 => ?_)
  ·replace hM := aG hM c49
   refine WP.skip (WP.seq (WP.block (WP.seq (WP.region (WL.rn 1 [] [(45, vI x46)] ?_)))))
   obtain ⟨t50, h51, hM⟩ := bind_some hM
   refine WL.nK (m := 3) (e := 143) (f := ag.au) (K := ag.aN) (A := A48) (xs := x47) 0 rfl (fun _ _ => rfl) (ar 0 rfl) (fun w hR => aJ (A := A48) (xs := x47) (i := x46) (k := .i64) (e := 143) (m := 3) rfl rfl h51 rfl rfl hR) (by kernel_rfl) rfl rfl ?_
   refine WL.nK (m := 3) (e := 143) (f := ag.au) (K := ag.aN) (A := A48) (xs := x47) 0 rfl (fun _ _ => rfl) (ar 0 rfl) (fun w hR => b4 (A := A48) (xs := x47) (i := x46) (j := 0) (n := 3) (vs := [vI t50.bd, vI t50.bV, ae (A48.s (Int.toNat x46)) t50.aD.length]) h51 (fun _ => by kernel_rfl) rfl rfl rfl rfl hR) (by kernel_rfl) rfl rfl ?_
   refine WL.ez (Row 1 (pl (aE .u32)) aA (A48.s (Int.toNat x46)) t50.aD) [0] [bC ag.aN A48 x47] rfl (fun w hψ => (by have h_ := (hψ _ (List.mem_singleton.2 rfl)).get (bg h51).2; rw [Nat.zero_add] at h_; exact h_)) ?_
   refine WL.rh 3 [2, 2, 2] (fun b52 => [(5, vI x46), (6, vP b52 0)]) (fun b52 => []) (fun b52 => [(b52, .cells #[vI t50.bd, vI t50.bV, ae (A48.s (Int.toNat x46)) t50.aD.length] 143 (0, 0))]) (fun b52 => ?_)
   refine WP.done ?_
   obtain ⟨r53, h54, hM⟩ := bind_some hM
   obtain ⟨t56, h57, hM⟩ := bind_some hM
   refine WP.rs [1, 2, 5, 6, 41, 42, 43, 44, 45, 46, 47] ?_
   refine WP.fB (X := (av Unit)) 9 6 [⟨0, 9, fun _ => [((b1 + 1), .cells #[vU 0, vU 0, vT 0, .slice none 0 0, .slice none 0 0, vI 0, vI 0, vI 0, vI 0, vU 0, vT 0, vI 0, vI 0, vI 0, vI 0, vI 0, vI 0, .slice none 0 0, .slice none 0 0, vI 0, vB false] 60 (0, 0))], fun _ => []⟩, ⟨0, 9, fun _ => [(b1, .cells #[vU a0, vU a0_1, vT a0_2, ae A20 x19.length, ae A7 r5.length, vI a0_5.Room, vI a0_5.aY, vI a0_5.a8, vI a0_5.aR, vU a0_6.bx, vT a0_6.Ip, vI a0_6.Room, vI a0_6.aY, vI a0_6.cp, vI a0_6.br, vI a0_6.bn, vI a0_7, ae A48 x47.length, ae A32 r30.length, vI a0_10, vB a0_11] 60 (0, 0))], fun _ => []⟩, ⟨0, 9, fun _ => [(b52, .cells #[vI t50.bd, vI t50.bV, ae (A48.s (Int.toNat x46)) t50.aD.length] 143 (0, 0))], fun _ => []⟩, ⟨0, 8, fun _ => [], fun _ => [bL 3 143 ag.au A48 x47]⟩, ⟨0, 9, fun _ => [], fun _ => [bL 3 121 aa.au A20 x19]⟩, ⟨9, 9, fun ξ => [], fun ξ => [bL 3 143 ag.au (av.iL A48 (Int.toNat x46) (ξ 5)) (List.set x47 (Int.toNat x46) (ag.mk t56.bd t56.bV r53))]⟩] [⟨[], [], [], [], [], fun _ => vP b1 17, fun _ => []⟩, ⟨[0], [1], [1], [], [], fun _ => ae A48 x47.length, fun _ => []⟩, ⟨[], [], [], [], [], fun _ => vI x46, fun _ => []⟩, ⟨[], [], [], [], [], fun _ => vP b52 2, fun _ => []⟩, ⟨[3], [2], [2], [], [], fun _ => ae (A48.s (Int.toNat x46)) t50.aD.length, fun _ => []⟩, ⟨[3, 4], [], [], [], [], fun ξ => ae (ξ 5) r53.length, fun ξ => [Row 1 (pl (aE .u32)) aA (ξ 5) r53]⟩, ⟨[0, 1, 2, 3, 4, 5], [3], [3], [], [], fun _ => dM A48 (Int.toNat x46 * 3), fun _ => []⟩, ⟨[0, 1, 2, 3, 4, 5, 6], [3], [3], [], [], fun _ => dM A48 (Int.toNat x46 * 3 + 2), fun _ => []⟩, ⟨[0, 1, 2, 3, 4, 5, 6, 7], [3], [5], [5], [], fun ξ => .tuple #[], fun ξ => [bC ag.aN (av.iL A48 (Int.toNat x46) (ξ 5)) (List.set x47 (Int.toNat x46) (ag.mk t56.bd t56.bV r53))]⟩] (fun ξ => [(48, vP b1 17), (49, ae A48 x47.length), (50, vI x46), (51, vP b52 2), (52, ae (A48.s (Int.toNat x46)) t50.aD.length), (53, ae (ξ 5) r53.length)]) (fun ξ => [((b1 + 1), .cells #[vU 0, vU 0, vT 0, .slice none 0 0, .slice none 0 0, vI 0, vI 0, vI 0, vI 0, vU 0, vT 0, vI 0, vI 0, vI 0, vI 0, vI 0, vI 0, .slice none 0 0, .slice none 0 0, vI 0, vB false] 60 (0, 0)), (b1, .cells #[vU a0, vU a0_1, vT a0_2, ae A20 x19.length, ae A7 r5.length, vI a0_5.Room, vI a0_5.aY, vI a0_5.a8, vI a0_5.aR, vU a0_6.bx, vT a0_6.Ip, vI a0_6.Room, vI a0_6.aY, vI a0_6.cp, vI a0_6.br, vI a0_6.bn, vI a0_7, ae A48 x47.length, ae A32 r30.length, vI a0_10, vB a0_11] 60 (0, 0)), (b52, .cells #[vI t50.bd, vI t50.bV, ae (A48.s (Int.toNat x46)) t50.aD.length] 143 (0, 0))]) (fun ξ => [bL 3 121 aa.au A20 x19, bL 3 143 ag.au (av.iL A48 (Int.toNat x46) (ξ 5)) (List.set x47 (Int.toNat x46) (ag.mk t56.bd t56.bV r53))]) (fun ξ => [Row 1 (pl (aE .u32)) aA (ξ 5) r53, bC ag.aN (av.iL A48 (Int.toNat x46) (ξ 5)) (List.set x47 (Int.toNat x46) (ag.mk t56.bd t56.bV r53))]) (aq.cons ?_ (aq.cons ?_ (aq.cons ?_ (aq.cons ?_ (aq.cons ?_ (aq.cons ?_ (aq.cons ?_ (aq.cons ?_ (aq.cons ?_ aq.nil))))))))) (aq.cons (bf.c rfl) (aq.cons (bf.c rfl) (aq.cons (bf.c rfl) (aq.cons (bf.c rfl) (aq.cons (bf.c rfl) (aq.cons (fun t ht ξ ξ' h => by cases ht; have e5 : ξ 5 = ξ' 5 := h 5 (aC.1 rfl); exact ⟨by first | rfl | simp only [e5], by first | rfl | simp only [e5]⟩) (aq.cons (bf.c rfl) (aq.cons (bf.c rfl) (aq.cons (fun t ht ξ ξ' h => by cases ht; have e5 : ξ 5 = ξ' 5 := h 5 (aC.1 rfl); exact ⟨by first | rfl | simp only [e5], by first | rfl | simp only [e5]⟩) aq.nil))))))))) (aq.cons (dA.c rfl) (aq.cons (dA.c rfl) (aq.cons (dA.c rfl) (aq.cons (dA.c rfl) (aq.cons (dA.c rfl) (aq.cons (fun r hr ξ ξ' h => by cases hr; have e5 : ξ 5 = ξ' 5 := h 5 (aC.1 rfl); exact ⟨by first | rfl | simp only [e5], by first | rfl | simp only [e5]⟩) aq.nil)))))) (fun ξ => ?_)
   ·
    intro o t ho ht ξ Gr Γr Lr Q hk
    cases ho; cases ht
    refine WL.rn 1 [] [(48, vP b1 17)] ?_
    exact WL.fin (hk default)
   ·
    intro o t ho ht ξ Gr Γr Lr Q hk
    cases ho; cases ht
    refine WL.rn 1 [0] [(49, ae A48 x47.length)] ?_
    exact WL.fin (hk default)
   ·
    intro o t ho ht ξ Gr Γr Lr Q hk
    cases ho; cases ht
    refine WL.rn 1 [] [(50, vI x46)] ?_
    exact WL.fin (hk default)
   ·
    intro o t ho ht ξ Gr Γr Lr Q hk
    cases ho; cases ht
    refine WL.rn 1 [] [(51, vP b52 2)] ?_
    exact WL.fin (hk default)
   ·
    intro o t ho ht ξ Gr Γr Lr Q hk
    cases ho; cases ht
    refine WL.rn 1 [0] [(52, ae (A48.s (Int.toNat x46)) t50.aD.length)] ?_
    exact WL.fin (hk default)
   ·
    intro o t ho ht ξ Gr Γr Lr Q hk
    cases ho; cases ht
    refine WL.c0 (F0 := [Row 1 (pl (aE .u32)) aA (A48.s (Int.toNat x46)) t50.aD]) [] [] [] (fun _ => _) [0] rfl (gl (A48.s (Int.toNat x46)) t50.aD _ h54) rfl rfl (by kernel_rfl) rfl (fun _ => rfl) (fun A55 => ?_)
    exact WL.fin (hk A55)
   ·
    intro o t ho ht ξ Gr Γr Lr Q hk
    cases ho; cases ht
    refine WL.nK (m := 3) (e := 143) (f := ag.au) (K := ag.aN) (A := A48) (xs := x47) 0 rfl (fun _ _ => rfl) (ar 2 rfl) (fun w hR => aJ (A := A48) (xs := x47) (i := x46) (k := .i64) (e := 143) (m := 3) rfl rfl h57 rfl rfl hR) (by kernel_rfl) rfl rfl ?_
    exact WL.fin (hk default)
   ·
    intro o t ho ht ξ Gr Γr Lr Q hk
    cases ho; cases ht
    refine WL.nK (m := 3) (e := 143) (f := ag.au) (K := ag.aN) (A := A48) (xs := x47) 0 rfl (fun _ _ => rfl) (ar 2 rfl) (fun w hR => cY (A := A48) (xs := x47) (i := x46) (n := Int.toNat x46 * 3 + 0) (n' := Int.toNat x46 * 3 + 2) h57 rfl (fun _ _ => by kernel_rfl) hR) (by kernel_rfl) rfl rfl ?_
    exact WL.fin (hk default)
   ·
    intro o t ho ht ξ Gr Γr Lr Q hk
    cases ho; cases ht
    refine WL.wI (G' := Gr) (m := 3) (e := 143) (n := 1) (off := 2) (f := ag.au) (K := ag.aN) (A := A48) (xs := x47) (i := x46) (u := t56) (r := (ag.mk t56.bd t56.bV r53)) (s' := (ξ 5)) (v := ae (ξ 5) r53.length) (Ψ := [Row 1 (pl (aE .u32)) aA (ξ 5) r53]) 0 [0] (fun _ => by kernel_rfl) rfl rfl rfl rfl rfl rfl rfl rfl h57 rfl rfl (fun _ _ => rfl) (ar 2 rfl) rfl (fun w hK hψ => hψ _ (List.mem_of_getElem? (i := 0) rfl)) rfl ?_
    refine WL.less (Φ' := (([bC ag.aN (av.iL A48 (Int.toNat x46) (ξ 5)) (List.set x47 (Int.toNat x46) (ag.mk t56.bd t56.bV r53)), Row 1 (pl (aE .u32)) aA (ξ 5) r53, Row 1 (pl (aE .u32)) aA (A48.s (Int.toNat x46)) t50.aD, bC ag.aN A48 x47, Row 3 (pl aj.enc) aA A32 r30, bC ag.aN A35 r33, bC aa.aN A20 x19, bC aa.aN A4 r2, Row 1 (pl ca) aA A7 r5, Row 3 aa.au aa.aN A00 a0_3, Row 1 (pl ca) aA A01 a0_4, Row 3 ag.au ag.aN A02 a0_8, Row 3 (pl aj.enc) aA A03 a0_9] ++ Γr) ++ aI)) (fun _ h => h) ?_
    exact WL.fin (hk default)
   generalize (ξ 5) = A55
   refine WP.less (Φ' := ([Row 1 (pl (aE .u32)) aA A55 r53, bC ag.aN (av.iL A48 (Int.toNat x46) A55) (List.set x47 (Int.toNat x46) (ag.mk t56.bd t56.bV r53)), Row 1 (pl (aE .u32)) aA (A48.s (Int.toNat x46)) t50.aD, bC ag.aN A48 x47, Row 3 (pl aj.enc) aA A32 r30, bC ag.aN A35 r33, bC aa.aN A20 x19, bC aa.aN A4 r2, Row 1 (pl ca) aA A7 r5, Row 3 aa.au aa.aN A00 a0_3, Row 1 (pl ca) aA A01 a0_4, Row 3 ag.au ag.aN A02 a0_8, Row 3 (pl aj.enc) aA A03 a0_9] ++ aI)) (fun _ h => h) ?_
   refine WP.uS (L1 := [(1, vP b1 0), (2, vP (b1 + 1) 0), (5, vI x46), (6, vP b52 0), (41, ae A48 x47.length), (42, vI (r33.length : Int)), (43, vI x46), (44, vB (decide (x46 < (r33.length : Int)))), (45, vI x46), (47, .agg #[vI t50.bd, vI t50.bV, ae (A48.s (Int.toNat x46)) t50.aD.length]), (48, vP b1 17), (49, ae A48 x47.length), (50, vI x46), (51, vP b52 2), (52, ae (A48.s (Int.toNat x46)) t50.aD.length), (53, ae A55 r53.length)]) (L' := [(1, vP b1 0), (2, vP (b1 + 1) 0), (5, vI x46), (6, vP b52 0), (41, ae (av.iL A48 (Int.toNat x46) A55) (List.set x47 (Int.toNat x46) (ag.mk t56.bd t56.bV r53)).length), (42, vI (r33.length : Int)), (43, vI x46), (44, vB (decide (x46 < (r33.length : Int)))), (45, vI x46), (47, .agg #[vI t50.bd, vI t50.bV, ae (A48.s (Int.toNat x46)) t50.aD.length]), (48, vP b1 17), (49, ae (av.iL A48 (Int.toNat x46) A55) (List.set x47 (Int.toNat x46) (ag.mk t56.bd t56.bV r53)).length), (50, vI x46), (51, vP b52 2), (52, ae (A48.s (Int.toNat x46)) t50.aD.length), (53, ae A55 r53.length)]) (H' := [((b1 + 1), .cells #[vU 0, vU 0, vT 0, .slice none 0 0, .slice none 0 0, vI 0, vI 0, vI 0, vI 0, vU 0, vT 0, vI 0, vI 0, vI 0, vI 0, vI 0, vI 0, .slice none 0 0, .slice none 0 0, vI 0, vB false] 60 (0, 0)), (b1, .cells #[vU a0, vU a0_1, vT a0_2, ae A20 x19.length, ae A7 r5.length, vI a0_5.Room, vI a0_5.aY, vI a0_5.a8, vI a0_5.aR, vU a0_6.bx, vT a0_6.Ip, vI a0_6.Room, vI a0_6.aY, vI a0_6.cp, vI a0_6.br, vI a0_6.bn, vI a0_7, ae (av.iL A48 (Int.toNat x46) A55) (List.set x47 (Int.toNat x46) (ag.mk t56.bd t56.bV r53)).length, ae A32 r30.length, vI a0_10, vB a0_11] 60 (0, 0)), (b52, .cells #[vI t50.bd, vI t50.bV, ae (A48.s (Int.toNat x46)) t50.aD.length] 143 (0, 0))]) [1, 2, 5, 6, 41, 42, 43, 44, 45, 47, 48, 49, 50, 51, 52, 53] rfl (by first | rfl | simp only [List.length_set, jQ]) (by first | rfl | simp only [List.length_set, jQ]) ?_
   refine WP.leave (WP.rn [] [(43, vI (i64 (x46 + 1))), (56, vI (i64 (x46 + 1)))] ?_)
   exact WP.cN [1, 2, 41, 42, 43] (i64 (x46 + 1), (List.set x47 (Int.toNat x46) (ag.mk t56.bd t56.bV r53)), (av.iL A48 (Int.toNat x46) A55)) hM rfl (fun _ h => ((h.pick [0, 1] rfl).aQ [1, 4, 5, 6, 7, 8, 9, 10, 11, 12] rfl).dE [1, 0] [] 2 rfl (by decide) rfl)
  ·replace hM := aH hM c49
   refine WP.exit rfl (WP.seq ?_)
   refine WP.rh [1, 1, 1, 1, 1, 1, 1, 1, 1, 1, 1, 1, 1, 1, 1, 1, 1, 1, 1, 1, 1, 0, 0, 0, 0, 0, 0, 0, 0, 0, 0, 0, 0, 0, 0, 0, 0, 0, 0, 0, 0, 0] (fun _ => []) (fun _ => [(0, 0, [vU a0, vU a0_1, vT a0_2, ae A20 x19.length, ae A7 r5.length, vI a0_5.Room, vI a0_5.aY, vI a0_5.a8, vI a0_5.aR, vU a0_6.bx, vT a0_6.Ip, vI a0_6.Room, vI a0_6.aY, vI a0_6.cp, vI a0_6.br, vI a0_6.bn, vI a0_7, ae A48 x47.length, ae A32 r30.length, vI a0_10, vB a0_11])]) (fun _ => []) (fun _ => ?_)
   refine WP.kp [true, false] ?_
   refine WP.dD (G' := [bL 3 143 ag.au A48 x47]) (m := 3) (e := 121) (f := aa.au) (K := aa.aN) (A := A20) (xs := x19) 1 3 rfl rfl (fun _ _ => rfl) rfl ?_
   refine WP.dD (G' := []) (m := 3) (e := 143) (f := ag.au) (K := ag.aN) (A := A48) (xs := x47) 0 1 rfl rfl (fun _ _ => rfl) rfl ?_
   obtain rfl := oI hM
   exact WP.ret [0, 0, 0, 0, 0, 0, 0, 0, 0, 0, 0, 0, 0, 0, 0, 0, 0, 0, 0, 0, 0] [(b1 + 1), (b1 + 1), (b1 + 1), (b1 + 1), (b1 + 1), (b1 + 1), (b1 + 1), (b1 + 1), (b1 + 1), (b1 + 1), (b1 + 1), (b1 + 1), (b1 + 1), (b1 + 1), (b1 + 1), (b1 + 1), (b1 + 1), (b1 + 1), (b1 + 1), (b1 + 1), (b1 + 1)] (.agg #[vU a0, vU a0_1, vT a0_2, ae A20 x19.length, ae A7 r5.length, vI a0_5.Room, vI a0_5.aY, vI a0_5.a8, vI a0_5.aR, vU a0_6.bx, vT a0_6.Ip, vI a0_6.Room, vI a0_6.aY, vI a0_6.cp, vI a0_6.br, vI a0_6.bn, vI a0_7, ae A48 x47.length, ae A32 r30.length, vI a0_10, vB a0_11]) (by kernel_rfl) (fun w' hw => ⟨(A20, A7, A48, A32), rfl, (hw.pick [] rfl).less (aT [1, 7, 0, 3] [8, 9, 10, 11] rfl rfl)⟩)
def mE.f (a0 : Int) (a1 : Int) : Option (Int × Int) :=
 some (u64 ((u64 ((u64 ((Int.fdiv a0 4294967296) * (Int.fdiv a1 4294967296))) + (Int.fdiv (u64 ((u64 ((Int.fdiv a0 4294967296) * (eu .u64 a1 4294967295))) + (Int.fdiv (u64 ((eu .u64 a0 4294967295) * (eu .u64 a1 4294967295))) 4294967296))) 4294967296))) + (Int.fdiv (u64 ((eu .u64 (u64 ((u64 ((Int.fdiv a0 4294967296) * (eu .u64 a1 4294967295))) + (Int.fdiv (u64 ((eu .u64 a0 4294967295) * (eu .u64 a1 4294967295))) 4294967296))) 4294967295) + (u64 ((eu .u64 a0 4294967295) * (Int.fdiv a1 4294967296))))) 4294967296)), u64 (a0 * a1))
theorem ou (a0 : Int) (a1 : Int) (r : Int × Int) (h : mE.f a0 a1 = some r) : Pure Tryz.prog aI 96 #[vU a0, vU a1] (.tuple #[vU r.1, vU r.2]) := by
 intro w Z hS
 refine bh (args := [vU a0, vU a1]) (L := [(0, vU a0), (1, vU a1)]) (N := 51) Tryz.func96 hS ?_
 have hM := h
 clear h hS
 unfold mE.f at hM
 refine WP.seq (WP.rn [] [(4, vU 0), (5, vU 0)] ?_)
 refine WP.seq (WP.rn [] [(6, vU (eu .u64 a0 4294967295))] ?_)
 refine WP.seq (WP.rn [] [(7, vU (Int.fdiv a0 4294967296))] ?_)
 refine WP.seq (WP.rn [] [(8, vU (eu .u64 a1 4294967295))] ?_)
 refine WP.seq (WP.rn [] [(9, vU (Int.fdiv a1 4294967296))] ?_)
 refine WP.seq (WP.rn [] [(10, vU (u64 ((eu .u64 a0 4294967295) * (eu .u64 a1 4294967295))))] ?_)
 refine WP.seq (WP.rn [] [(11, vU (u64 ((u64 ((Int.fdiv a0 4294967296) * (eu .u64 a1 4294967295))) + (Int.fdiv (u64 ((eu .u64 a0 4294967295) * (eu .u64 a1 4294967295))) 4294967296))))] ?_)
 refine WP.seq (WP.rn [] [(12, vU (eu .u64 (u64 ((u64 ((Int.fdiv a0 4294967296) * (eu .u64 a1 4294967295))) + (Int.fdiv (u64 ((eu .u64 a0 4294967295) * (eu .u64 a1 4294967295))) 4294967296))) 4294967295))] ?_)
 refine WP.seq (WP.rn [] [(13, vU (Int.fdiv (u64 ((u64 ((Int.fdiv a0 4294967296) * (eu .u64 a1 4294967295))) + (Int.fdiv (u64 ((eu .u64 a0 4294967295) * (eu .u64 a1 4294967295))) 4294967296))) 4294967296))] ?_)
 refine WP.seq (WP.rn [] [(12, vU (u64 ((eu .u64 (u64 ((u64 ((Int.fdiv a0 4294967296) * (eu .u64 a1 4294967295))) + (Int.fdiv (u64 ((eu .u64 a0 4294967295) * (eu .u64 a1 4294967295))) 4294967296))) 4294967295) + (u64 ((eu .u64 a0 4294967295) * (Int.fdiv a1 4294967296))))))] ?_)
 refine WP.seq (WP.rn [] [(4, vU (u64 ((u64 ((u64 ((Int.fdiv a0 4294967296) * (Int.fdiv a1 4294967296))) + (Int.fdiv (u64 ((u64 ((Int.fdiv a0 4294967296) * (eu .u64 a1 4294967295))) + (Int.fdiv (u64 ((eu .u64 a0 4294967295) * (eu .u64 a1 4294967295))) 4294967296))) 4294967296))) + (Int.fdiv (u64 ((eu .u64 (u64 ((u64 ((Int.fdiv a0 4294967296) * (eu .u64 a1 4294967295))) + (Int.fdiv (u64 ((eu .u64 a0 4294967295) * (eu .u64 a1 4294967295))) 4294967296))) 4294967295) + (u64 ((eu .u64 a0 4294967295) * (Int.fdiv a1 4294967296))))) 4294967296))))] ?_)
 refine WP.seq (WP.rn [] [(5, vU (u64 (a0 * a1)))] ?_)
 obtain rfl := oI hM
 exact WP.lY [] []
def qG.f (a0 : Int) (a1 : Int) : Option (Int × Int) :=
 (mE.f a0 a1).bind fun (r1, r2) =>
 some (r1, r2)
theorem qF (a0 : Int) (a1 : Int) (r : Int × Int) (h : qG.f a0 a1 = some r) : Pure Tryz.prog aI 60 #[vU a0, vU a1] (.tuple #[vU r.1, vU r.2]) := by
 intro w Z hS
 refine bh (args := [vU a0, vU a1]) (L := [(0, vU a0), (1, vU a1)]) (N := 30) Tryz.func60 hS ?_
 have hM := h
 clear h hS
 unfold qG.f at hM
 refine WP.seq (WP.rn [] [(4, vU 0), (5, vU 0)] ?_)
 refine WP.seq (WP.no rfl rfl (WP.skip (WP.seq (WP.region (WL.rn 2 [] [(23, vU a0), (24, vU a1)] ?_)))))
 obtain ⟨⟨r1, r2⟩, h3, hM⟩ := bind_some hM
 dsimp only at hM
 refine WL.cQ [] [] (ou a0 a1 _ h3) (fun _ h => h) (by kernel_rfl) rfl rfl ?_
 refine WL.rn 5 [] [(8, vU r1), (9, vU r2)] ?_
 refine WP.done (WP.seq (WP.rn [] [(4, vU r1), (5, vU r2)] ?_))
 obtain rfl := oI hM
 exact WP.lY [] []
def ck.l1 (t6 : Nat) : Nat → Int → (List Int) → Option ((List Int))
 | 0, _, _ => none
 | n + 1, x19, x20 =>
  bif decide (x19 < (t6 : Int)) then
   (y8 t6 t6 x19).bind fun t22 =>
   (y9 t6 x19).bind fun t24 =>
   (uh x20 (0 + Int.toNat x19 * 1) t22 (0) t24).bind fun t26 =>
   ck.l1 t6 n (i64 (x19 + (min (t24 : Int) (t22 : Int)))) t26
  else
   (yK x20 t6 t6).bind fun u29 =>
   some x20
def ck.f (k : Nat) (a0 : (List Int)) (a1 : Int) : Option ((List Int)) :=
 bif decide (a1 < 0) then
  none
 else
  (qG.f (u64 (a0.length : Int)) (u64 a1)).bind fun (r2, r3) =>
  bif ((decide (r2 > 0)) || (decide (r3 > 9223372036854775807))) then
   none
  else
   (jW 8 (i64 r3)).bind fun t6 =>
   (ug (List.replicate t6 0) (0) t6 a0).bind fun t9 =>
   ck.l1 t6 k (min (a0.length : Int) (t6 : Int)) t9
theorem iF (k : Nat) (A00 : av Unit) (a0 : (List Int)) (a1 : Int) (r : (List Int)) (h : ck.f k a0 a1 = some r) : eT Tryz.prog 28 #[ae A00 a0.length, vI a1] [] ([Row 1 (pl (aE .i64)) aA A00 a0] ++ aI) (fun x : (av Unit) => ae x r.length) (fun x => []) (fun _ => []) (fun x => [Row 1 (pl (aE .i64)) aA x r] ++ ([Row 1 (pl (aE .i64)) aA A00 a0] ++ aI)) := by
 intro w Z hS
 refine bh (args := [ae A00 a0.length, vI a1]) (L := [(0, ae A00 a0.length), (1, vI a1)]) (N := 48) Tryz.func28 hS ?_
 have hM := h
 clear h hS
 unfold ck.f at hM
 refine WP.seq (WP.rn [] [(4, .slice none 0 0)] ?_)
 refine WP.seq (WP.seq (WP.rn [] [(10, vB (decide (a1 < 0)))] ?_))
 refine WP.cond (decide (a1 < 0)) rfl rfl (fun c1 => ?_) (fun c1 => ?_)
 ·replace hM := aG hM c1
  refine WP.region ?_
  refine WL.rn 1 [] [(11, .iface 9 (.string (⟨#[99, 97, 110, 110, 111, 116, 32, 98, 101, 32, 110, 101, 103, 97, 116, 105, 118, 101]⟩ : ByteArray)))] ?_
  exact absurd hM (by simp)
 ·replace hM := aH hM c1
  refine WP.skip (WP.seq (WP.region (WL.rn 5 [] [(15, vU (u64 (a0.length : Int))), (17, vU (u64 a1))] ?_)))
  obtain ⟨⟨r2, r3⟩, h4, hM⟩ := bind_some hM
  dsimp only at hM
  refine WL.cQ [] [] (qF (u64 (a0.length : Int)) (u64 a1) _ h4) (fun _ h => List.mem_append_right _ h) (by kernel_rfl) rfl rfl ?_
  refine WL.rn 5 [] [(5, vU r2), (6, vU r3)] ?_
  refine WP.done (WP.seq (WP.seq (WP.region (WL.rn 3 [] [(23, vB (decide (r2 > 0)))] ?_))))
  refine WL.bo 23 (decide (r2 > 0)) 3 [] [] (fun b' => [(26, vB (b' || (decide (r3 > 9223372036854775807))))]) ?_
  refine WP.done ?_
  refine WP.cond ((decide (r2 > 0)) || (decide (r3 > 9223372036854775807))) rfl rfl (fun c5 => ?_) (fun c5 => ?_)
  ·replace hM := aG hM c5
   refine WP.region ?_
   refine WL.rn 1 [] [(27, .iface 9 (.string (⟨#[116, 104, 101, 32, 114, 101, 115, 117, 108, 116, 32, 111, 102, 32, 40, 108, 101, 110, 40, 120, 41, 32, 42, 32, 99, 111, 117, 110, 116, 41, 32, 111, 118, 101, 114, 102, 108, 111, 119, 115]⟩ : ByteArray)))] ?_
   exact absurd hM (by simp)
  ·replace hM := aH hM c5
   refine WP.skip (WP.seq (WP.region (WL.rn 2 [] [(29, vI (i64 r3))] ?_)))
   obtain ⟨t6, h7, hM⟩ := bind_some hM
   refine WL.makeSlice (f := (aE .i64)) (z := 0) (zv := vI 0) (i := i64 r3) (k := .i64) (e := 3) rfl rfl rfl Nat.zero_lt_one (fun _ => rfl) rfl rfl h7 rfl rfl (fun b8 => ?_)
   refine WL.rn 1 [] [(7, .slice (some ⟨b8, 0, none⟩) t6 t6)] ?_
   refine WP.done (WP.seq (WP.region ?_))
   refine WL.rn 2 [] [(31, .slice (some ⟨b8, 0, none⟩) t6 t6), (32, ae A00 a0.length)] ?_
   obtain ⟨t9, h10, hM⟩ := bind_some hM
   refine WL.ug (b := b8) (off := 0) (n := t6) (c := t6) (e := 3) (d := 33) (ys := (List.replicate t6 0)) (zs := t9) (f := (aE .i64)) (K := aA) (A := A00) (xs := a0) 0 rfl rfl rfl rfl rfl (fun _ => rfl) (fun _ => rfl) (by kernel_rfl) rfl rfl rfl (ar 0 rfl) h10 rfl ?_
   refine WL.rn 1 [] [(8, vI (min (a0.length : Int) (t6 : Int)))] ?_
   refine WP.done (WP.seq (WP.block ?_))
   refine WP.sub [4, 7, 8] (L' := [(4, .slice none 0 0), (7, .slice (some ⟨b8, 0, none⟩) t6 t6), (8, vI (min (a0.length : Int) (t6 : Int)))]) rfl ?_
   refine WP.aQ [0] (F' := [Row 1 (pl (aE .i64)) aA A00 a0]) rfl ?_
   refine WP.loop (σ := Int × (List Int)) (fun n st => ck.l1 t6 n st.1 st.2) r (fun st => [(4, .slice none 0 0), (7, .slice (some ⟨b8, 0, none⟩) t6 t6), (8, vI st.1)]) (fun st => Sat w Z [(b8, .cells (dU (aE .i64) st.2) 3 (0, 0))] [] ([Row 1 (pl (aE .i64)) aA A00 a0] ++ aI)) (st := ((min (a0.length : Int) (t6 : Int)), t9)) (fun n st hM => ?_) hM
   rcases n with _ | n
   ·exact nomatch (show (none : Option _) = some r from hM)
   obtain ⟨x19, x20⟩ := st
   replace hM : ck.l1 t6 (n + 1) x19 x20 = some r := hM
   rw [ck.l1] at hM
   try dsimp only
   refine WP.seq (WP.seq ?_)
   refine WP.rn [] [(34, vI x19), (35, .slice (some ⟨b8, 0, none⟩) t6 t6), (36, vI (t6 : Int)), (37, vB (decide (x19 < (t6 : Int))))] ?_
   refine WP.cond (decide (x19 < (t6 : Int))) rfl rfl (fun c21 => ?_) (fun c21 => ?_)
   ·replace hM := aG hM c21
    refine WP.skip (WP.block ?_)
    obtain ⟨t22, h23, hM⟩ := bind_some hM
    obtain ⟨t24, h25, hM⟩ := bind_some hM
    obtain ⟨t26, h27, hM⟩ := bind_some hM
    refine WP.rs [4, 7, 8, 34, 35, 36, 37] ?_
    refine WP.fB (X := Unit) 10 2 [⟨0, 7, fun _ => [(b8, .cells (dU (aE .i64) x20) 3 (0, 0))], fun _ => []⟩, ⟨8, 10, fun _ => [(b8, .cells (dU (aE .i64) t26) 3 (0, 0))], fun _ => []⟩] [⟨[], [], [], [], [], fun _ => vI x19, fun _ => []⟩, ⟨[], [], [], [], [], fun _ => .slice (some ⟨b8, 0, none⟩) t6 t6, fun _ => []⟩, ⟨[], [], [], [], [], fun _ => vI x19, fun _ => []⟩, ⟨[1, 2], [0], [0], [], [], fun _ => .slice (some ⟨b8, 0 + Int.toNat x19 * 1, none⟩) t22 (t6 - Int.toNat x19), fun _ => []⟩, ⟨[], [], [], [], [], fun _ => .slice (some ⟨b8, 0, none⟩) t6 t6, fun _ => []⟩, ⟨[], [], [], [], [], fun _ => vI x19, fun _ => []⟩, ⟨[4, 5], [0], [0], [], [], fun _ => .slice (some ⟨b8, 0, none⟩) t24 t6, fun _ => []⟩, ⟨[1, 2, 3, 4, 5, 6], [0], [1], [], [], fun _ => vI (min (t24 : Int) (t22 : Int)), fun _ => []⟩, ⟨[0, 1, 2, 3, 4, 5, 6, 7], [], [], [], [], fun _ => vI (i64 (x19 + (min (t24 : Int) (t22 : Int)))), fun _ => []⟩, ⟨[0, 1, 2, 3, 4, 5, 6, 7, 8], [], [], [], [], fun _ => vI (i64 (x19 + (min (t24 : Int) (t22 : Int)))), fun _ => []⟩] (fun ξ => [(8, vI (i64 (x19 + (min (t24 : Int) (t22 : Int))))), (38, vI x19), (39, .slice (some ⟨b8, 0, none⟩) t6 t6), (40, vI x19), (41, .slice (some ⟨b8, 0 + Int.toNat x19 * 1, none⟩) t22 (t6 - Int.toNat x19)), (42, .slice (some ⟨b8, 0, none⟩) t6 t6), (43, vI x19), (44, .slice (some ⟨b8, 0, none⟩) t24 t6), (45, vI (min (t24 : Int) (t22 : Int))), (46, vI (i64 (x19 + (min (t24 : Int) (t22 : Int)))))]) (fun ξ => [(b8, .cells (dU (aE .i64) t26) 3 (0, 0))]) (fun ξ => []) (fun ξ => []) (aq.cons ?_ (aq.cons ?_ (aq.cons ?_ (aq.cons ?_ (aq.cons ?_ (aq.cons ?_ (aq.cons ?_ (aq.cons ?_ (aq.cons ?_ (aq.cons ?_ aq.nil)))))))))) (aq.cons (bf.c rfl) (aq.cons (bf.c rfl) (aq.cons (bf.c rfl) (aq.cons (bf.c rfl) (aq.cons (bf.c rfl) (aq.cons (bf.c rfl) (aq.cons (bf.c rfl) (aq.cons (bf.c rfl) (aq.cons (bf.c rfl) (aq.cons (bf.c rfl) aq.nil)))))))))) (aq.cons (dA.c rfl) (aq.cons (dA.c rfl) aq.nil)) (fun ξ => ?_)
    ·
     intro o t ho ht ξ Gr Γr Lr Q hk
     cases ho; cases ht
     refine WL.rn 1 [] [(38, vI x19)] ?_
     exact WL.fin (hk default)
    ·
     intro o t ho ht ξ Gr Γr Lr Q hk
     cases ho; cases ht
     refine WL.rn 1 [] [(39, .slice (some ⟨b8, 0, none⟩) t6 t6)] ?_
     exact WL.fin (hk default)
    ·
     intro o t ho ht ξ Gr Γr Lr Q hk
     cases ho; cases ht
     refine WL.rn 1 [] [(40, vI x19)] ?_
     exact WL.fin (hk default)
    ·
     intro o t ho ht ξ Gr Γr Lr Q hk
     cases ho; cases ht
     refine WL.val (v := .slice (some ⟨b8, 0 + Int.toNat x19 * 1, none⟩) t22 (t6 - Int.toNat x19)) (fun _ => wN (b := b8) (o := 0) (n := t6) (c := t6) (k := .i64) (l := x19) (e := 3) (m := 1) rfl rfl h23 rfl rfl) (by kernel_rfl) rfl rfl ?_
     exact WL.fin (hk default)
    ·
     intro o t ho ht ξ Gr Γr Lr Q hk
     cases ho; cases ht
     refine WL.rn 1 [] [(42, .slice (some ⟨b8, 0, none⟩) t6 t6)] ?_
     exact WL.fin (hk default)
    ·
     intro o t ho ht ξ Gr Γr Lr Q hk
     cases ho; cases ht
     refine WL.rn 1 [] [(43, vI x19)] ?_
     exact WL.fin (hk default)
    ·
     intro o t ho ht ξ Gr Γr Lr Q hk
     cases ho; cases ht
     refine WL.val (v := .slice (some ⟨b8, 0, none⟩) t24 t6) (fun _ => wO (b := b8) (o := 0) (n := t6) (c := t6) (k := .i64) (h := x19) (e := 3) (m := 1) rfl rfl h25 rfl rfl) (by kernel_rfl) rfl rfl ?_
     exact WL.fin (hk default)
    ·
     intro o t ho ht ξ Gr Γr Lr Q hk
     cases ho; cases ht
     refine WL.uh (b := b8) (off := 0 + Int.toNat x19 * 1) (n := t22) (c := (t6 - Int.toNat x19)) (e := 3) (d := 45) (ys := x20) (zs := t26) (f := (aE .i64)) (so := 0) (sn := t24) (sc := t6) 0 rfl rfl rfl rfl rfl (fun _ => rfl) (fun _ => rfl) (by kernel_rfl) rfl rfl rfl h27 rfl ?_
     exact WL.fin (hk default)
    ·
     intro o t ho ht ξ Gr Γr Lr Q hk
     cases ho; cases ht
     refine WL.rn 1 [] [(46, vI (i64 (x19 + (min (t24 : Int) (t22 : Int)))))] ?_
     exact WL.fin (hk default)
    ·
     intro o t ho ht ξ Gr Γr Lr Q hk
     cases ho; cases ht
     refine WL.rn 1 [] [(8, vI (i64 (x19 + (min (t24 : Int) (t22 : Int)))))] ?_
     exact WL.fin (hk default)
    refine WP.less (Φ' := ([Row 1 (pl (aE .i64)) aA A00 a0] ++ aI)) (fun _ h => h) ?_
    refine WP.leave ?_
    exact WP.cN [4, 7, 8] (i64 (x19 + (min (t24 : Int) (t22 : Int))), t26) hM rfl (fun _ h => (h.pick [0] rfl).aQ [0] rfl)
   ·replace hM := aH hM c21
    refine WP.exit rfl (WP.seq ?_)
    refine WP.rn [] [(4, .slice (some ⟨b8, 0, none⟩) t6 t6)] ?_
    obtain ⟨u29, h28, hM⟩ := bind_some hM
    refine WP.B6 (b := b8) (n := t6) (c := t6) (e := 3) (m := 1) (f := (aE .i64)) (xs := x20) (L1 := [(4, .slice (some ⟨b8, 0, none⟩) t6 t6)]) (L' := [(4, ae (av.at b8 t6 (fun _ => ())) x20.length)]) (H' := []) 0 [4] h28 rfl (fun _ => rfl) rfl rfl (fun e => by simp only [e]) ?_
    refine WP.less (Φ' := ([Row 1 (pl (aE .i64)) aA (av.at b8 t6 (fun _ => ())) x20, Row 1 (pl (aE .i64)) aA A00 a0] ++ aI)) (fun _ h => h) ?_
    obtain rfl := oI hM
    exact WP.ret [] [] (ae (av.at b8 t6 (fun _ => ())) x20.length) (by kernel_rfl) (fun w' hw => ⟨(av.at b8 t6 (fun _ => ())), rfl, (hw.pick [] rfl).less (aT [0] [1] rfl rfl)⟩)
def fW.f (a0 : Int) : Option (Bool) :=
 some ((decide (a0 ≥ 1)) && (decide (a0 ≤ 4094)))
theorem kJ (a0 : Int) (r : Bool) (h : fW.f a0 = some r) : Pure Tryz.prog aI 98 #[vI a0] (vB r) := by
 intro w Z hS
 refine bh (args := [vI a0]) (L := [(0, vI a0)]) (N := 9) Tryz.func98 hS ?_
 have hM := h
 clear h hS
 unfold fW.f at hM
 refine WP.seq (WP.rn [] [(2, vB false)] ?_)
 refine WP.seq (WP.region (WL.rn 3 [] [(5, vB (decide (a0 ≥ 1)))] ?_))
 refine WL.bo 5 (decide (a0 ≥ 1)) 3 [] [] (fun b' => [(8, vB (b' && (decide (a0 ≤ 4094))))]) ?_
 refine WL.rn 1 [] [(2, vB ((decide (a0 ≥ 1)) && (decide (a0 ≤ 4094))))] ?_
 refine WP.done ?_
 obtain rfl := oI hM
 exact WP.lY [] []
def bG.l1 (a0 : (List Int)) (a1 : Int) : Nat → Int → Int → Option (Int)
 | 0, _, _ => none
 | n + 1, x1, x2 =>
  bif decide (x2 < (a0.length : Int)) then
   (cI a0.length a0 x2).bind fun t4 =>
   bif (a1 == t4) then
    some x2
   else
    bG.l1 a0 a1 n x1 (i64 (x2 + 1))
  else
   some (-1)
def bG.f (k : Nat) (a0 : (List Int)) (a1 : Int) : Option (Int) :=
 bG.l1 a0 a1 k 0 0
theorem iP (k : Nat) (A00 : av Unit) (a0 : (List Int)) (a1 : Int) (r : Int) (h : bG.f k a0 a1 = some r) : Pure Tryz.prog ([Row 1 (pl (aE .i64)) aA A00 a0] ++ aI) 138 #[ae A00 a0.length, vI a1] (vI r) := by
 intro w Z hS
 refine bh (args := [ae A00 a0.length, vI a1]) (L := [(0, ae A00 a0.length), (1, vI a1)]) (N := 19) Tryz.func138 hS ?_
 have hM := h
 clear h hS
 unfold bG.f at hM
 refine WP.seq (WP.rn [] [(4, vI 0)] ?_)
 refine WP.seq (WP.seq (WP.rn [] [(7, vI (a0.length : Int)), (8, vI 0)] ?_))
 refine WP.block (WP.sub [0, 1, 4, 7, 8] (L' := [(0, ae A00 a0.length), (1, vI a1), (4, vI 0), (7, vI (a0.length : Int)), (8, vI 0)]) rfl ?_)
 refine WP.aQ [0] (F' := [Row 1 (pl (aE .i64)) aA A00 a0]) rfl ?_
 refine WP.loop (σ := Int × Int) (fun n st => bG.l1 a0 a1 n st.1 st.2) r (fun st => [(0, ae A00 a0.length), (1, vI a1), (4, vI st.1), (7, vI (a0.length : Int)), (8, vI st.2)]) (fun st => Sat w Z [] [] ([Row 1 (pl (aE .i64)) aA A00 a0] ++ aI)) (st := (0, 0)) (fun n st hM => ?_) hM
 rcases n with _ | n
 ·exact nomatch (show (none : Option _) = some r from hM)
 obtain ⟨x1, x2⟩ := st
 replace hM : bG.l1 a0 a1 (n + 1) x1 x2 = some r := hM
 rw [bG.l1] at hM
 try dsimp only
 refine WP.seq (WP.rn [] [(9, vB (decide (x2 < (a0.length : Int))))] ?_)
 refine WP.seq ?_
 refine WP.cond (decide (x2 < (a0.length : Int))) rfl rfl (fun c3 => ?_) (fun c3 => ?_)
 ·replace hM := aG hM c3
  refine WP.skip (WP.seq (WP.block (WP.seq (WP.rn [] [(5, vI x2), (10, vI x2)] ?_))))
  refine WP.seq (WP.region (WL.rn 3 [] [(11, vI a1), (12, ae A00 a0.length), (13, vI x2)] ?_))
  obtain ⟨t4, h5, hM⟩ := bind_some hM
  refine WL.cd (φ := Row 1 (pl (aE .i64)) aA A00 a0) (ar 0 rfl) (fun w hR => aJ (A := A00) (xs := a0) (i := x2) (k := .i64) (e := 3) (m := 1) rfl rfl h5 rfl rfl hR) (by kernel_rfl) rfl rfl ?_
  refine WL.cd (φ := Row 1 (pl (aE .i64)) aA A00 a0) (ar 0 rfl) (fun w hR => bp (A := A00) (xs := a0) (i := x2) (j := 0) (v := vI t4) h5 (fun _ => by kernel_rfl) rfl rfl hR) (by kernel_rfl) rfl rfl ?_
  refine WL.rn 1 [] [(16, vB (a1 == t4))] ?_
  refine WP.done ?_
  refine WP.cond (a1 == t4) rfl rfl (fun c6 => ?_) (fun c6 => ?_)
  ·replace hM := aG hM c6
   refine WP.seq (WP.rn [] [(4, vI x2), (17, vI x2)] ?_)
   obtain rfl := oI hM
   exact WP.dI [] [] [0]
  ·replace hM := aH hM c6
   refine WP.skip (WP.leave (WP.rn [] [(8, vI (i64 (x2 + 1))), (18, vI (i64 (x2 + 1)))] ?_))
   exact WP.cN [0, 1, 4, 7, 8] (x1, i64 (x2 + 1)) hM rfl (fun _ h => (h.pick [] rfl).aQ [0] rfl)
 ·replace hM := aH hM c3
  refine WP.exit rfl (WP.seq (WP.rn [] [(4, vI (-1))] ?_))
  obtain rfl := oI hM
  exact WP.dI [] [] [0]
def dn.f (k : Nat) (a0 : (List Int)) (a1 : Int) : Option (Bool) :=
 (bG.f k a0 a1).bind fun r1 =>
 some (decide (r1 ≥ 0))
theorem ic (k : Nat) (A00 : av Unit) (a0 : (List Int)) (a1 : Int) (r : Bool) (h : dn.f k a0 a1 = some r) : Pure Tryz.prog ([Row 1 (pl (aE .i64)) aA A00 a0] ++ aI) 99 #[ae A00 a0.length, vI a1] (vB r) := by
 intro w Z hS
 refine bh (args := [ae A00 a0.length, vI a1]) (L := [(0, ae A00 a0.length), (1, vI a1)]) (N := 9) Tryz.func99 hS ?_
 have hM := h
 clear h hS
 unfold dn.f at hM
 refine WP.seq (WP.rn [] [(4, vB false)] ?_)
 refine WP.seq (WP.region (WL.rn 2 [] [(5, ae A00 a0.length), (6, vI a1)] ?_))
 obtain ⟨r1, h2, hM⟩ := bind_some hM
 refine WL.cQ [] [] (iP k A00 a0 a1 _ h2) (bE [0] rfl) (by kernel_rfl) rfl rfl ?_
 refine WL.rn 2 [] [(4, vB (decide (r1 ≥ 0)))] ?_
 refine WP.done ?_
 obtain rfl := oI hM
 exact WP.dI [] [] [0]
def aP.k2 (x5 : Bool) (x6 : Int) (rec_l3 : Bool → Int → Option (Bool)) (x18 : Bool) (x19 : Bool) : Option (Bool) :=
 bif x19 then
  some false
 else
  rec_l3 x5 (i64 (x6 + 1))
def aP.k1 (x5 : Bool) (x6 : Int) (rec_l3 : Bool → Int → Option (Bool)) (x16 : Bool) (x17 : Bool) : Option (Bool) :=
 aP.k2 x5 x6 rec_l3 false x17
def aP.k4 (x24 : Bool) : Option (Bool) :=
 some x24
def aP.l3 (a0_2 : (List Int)) (a0_1 : Int) (k : Nat) : Nat → Bool → Int → Option (Bool)
 | 0, _, _ => none
 | n + 1, x5, x6 =>
  bif decide (x6 < (a0_2.length : Int)) then
   (cI a0_2.length a0_2 x6).bind fun t8 =>
   (fW.f t8).bind fun r10 =>
   bif !r10 then
    aP.k2 x5 x6 (aP.l3 a0_2 a0_1 k n) true true
   else
    bif decide (x6 > 0) then
     (cI a0_2.length a0_2 (i64 (x6 - 1))).bind fun t14 =>
     aP.k1 x5 x6 (aP.l3 a0_2 a0_1 k n) true (decide (t8 ≤ t14))
    else
     aP.k1 x5 x6 (aP.l3 a0_2 a0_1 k n) false false
  else
   bif (a0_1 == 0) then
    aP.k4 true
   else
    (dn.f k a0_2 a0_1).bind fun r22 =>
    aP.k4 r22
def aP.f (k : Nat) (a0 : Bool) (a0_1 : Int) (a0_2 : (List Int)) : Option (Bool) :=
 bif !a0 then
  (fW.f a0_1).bind fun r3 =>
  some (r3 && ((a0_2.length : Int) == 0))
 else
  aP.l3 a0_2 a0_1 k k false 0
theorem nJ (k : Nat) (A00 : av Unit) (a0 : Bool) (a0_1 : Int) (a0_2 : (List Int)) (r : Bool) (h : aP.f k a0 a0_1 a0_2 = some r) : Pure Tryz.prog ([Row 1 (pl (aE .i64)) aA A00 a0_2] ++ aI) 63 #[.agg #[vB a0, vI a0_1, ae A00 a0_2.length]] (vB r) := by
 intro w Z hS
 refine bh (args := [.agg #[vB a0, vI a0_1, ae A00 a0_2.length]]) (L := [(0, .agg #[vB a0, vI a0_1, ae A00 a0_2.length])]) (N := 53) Tryz.func63 hS ?_
 have hM := h
 clear h hS
 unfold aP.f at hM
 refine WP.seq ?_
 refine WP.rh [] (fun b1 => [(1, vP b1 0), (2, vB false)]) (fun b1 => []) (fun b1 => [(b1, .cells #[vB a0, vI a0_1, ae A00 a0_2.length] 121 (0, 0))]) (fun b1 => ?_)
 refine WP.seq (WP.seq (WP.rn [0] [(7, vB (!a0))] ?_))
 refine WP.cond (!a0) rfl rfl (fun c2 => ?_) (fun c2 => ?_)
 ·replace hM := aG hM c2
  refine WP.seq (WP.region (WL.rn 2 [0] [(9, vI a0_1)] ?_))
  obtain ⟨r3, h4, hM⟩ := bind_some hM
  refine WL.cQ [] [] (kJ a0_1 _ h4) (fun _ h => List.mem_append_right _ h) (by kernel_rfl) rfl rfl ?_
  refine WL.rn 1 [] [(11, vB r3)] ?_
  refine WL.bo 11 r3 5 [0] [] (fun b' => [(16, vB (b' && ((a0_2.length : Int) == 0)))]) ?_
  refine WL.rn 1 [] [(2, vB (r3 && ((a0_2.length : Int) == 0)))] ?_
  refine WP.done ?_
  obtain rfl := oI hM
  exact WP.dI [] [] [0]
 ·replace hM := aH hM c2
  refine WP.skip (WP.seq (WP.seq (WP.rn [0] [(18, ae A00 a0_2.length), (19, vI (a0_2.length : Int)), (20, vI 0)] ?_)))
  refine WP.block ?_
  refine WP.sub [1, 2, 18, 19, 20] (L' := [(1, vP b1 0), (2, vB false), (18, ae A00 a0_2.length), (19, vI (a0_2.length : Int)), (20, vI 0)]) rfl ?_
  refine WP.aQ [0] (F' := [Row 1 (pl (aE .i64)) aA A00 a0_2]) rfl ?_
  refine WP.loop (σ := Bool × Int) (fun n st => aP.l3 a0_2 a0_1 k n st.1 st.2) r (fun st => [(1, vP b1 0), (2, vB st.1), (18, ae A00 a0_2.length), (19, vI (a0_2.length : Int)), (20, vI st.2)]) (fun st => Sat w Z [(b1, .cells #[vB a0, vI a0_1, ae A00 a0_2.length] 121 (0, 0))] [] ([Row 1 (pl (aE .i64)) aA A00 a0_2] ++ aI)) (st := (false, 0)) (fun n st hM => ?_) hM
  rcases n with _ | n
  ·exact nomatch (show (none : Option _) = some r from hM)
  obtain ⟨x5, x6⟩ := st
  replace hM : aP.l3 a0_2 a0_1 k (n + 1) x5 x6 = some r := hM
  rw [aP.l3] at hM
  try dsimp only
  refine WP.seq (WP.rn [] [(21, vB (decide (x6 < (a0_2.length : Int))))] ?_)
  refine WP.seq ?_
  refine WP.cond (decide (x6 < (a0_2.length : Int))) rfl rfl (fun c7 => ?_) (fun c7 => ?_)
  ·replace hM := aG hM c7
   refine WP.skip (WP.seq (WP.block (WP.seq (WP.region (WL.rn 1 [] [(22, vI x6)] ?_)))))
   obtain ⟨t8, h9, hM⟩ := bind_some hM
   refine WL.cd (φ := Row 1 (pl (aE .i64)) aA A00 a0_2) (ar 0 rfl) (fun w hR => aJ (A := A00) (xs := a0_2) (i := x6) (k := .i64) (e := 3) (m := 1) rfl rfl h9 rfl rfl hR) (by kernel_rfl) rfl rfl ?_
   refine WL.cd (φ := Row 1 (pl (aE .i64)) aA A00 a0_2) (ar 0 rfl) (fun w hR => bp (A := A00) (xs := a0_2) (i := x6) (j := 0) (v := vI t8) h9 (fun _ => by kernel_rfl) rfl rfl hR) (by kernel_rfl) rfl rfl ?_
   refine WL.rn 2 [] [(3, vI x6), (4, vI t8)] ?_
   refine WP.done (WP.seq (WP.region (WL.rn 1 [] [(25, vI t8)] ?_)))
   obtain ⟨r10, h11, hM⟩ := bind_some hM
   refine WL.cQ [] [] (kJ t8 _ h11) (fun _ h => List.mem_append_right _ h) (by kernel_rfl) rfl rfl ?_
   refine WL.rn 2 [] [(27, vB (!r10)), (28, vB (!r10))] ?_
   refine WL.join (σ := Bool × Bool) 13 (fun st => aP.k2 x5 x6 (aP.l3 a0_2 a0_1 k n) st.1 st.2 = some r) (fun st => [(1, vP b1 0), (2, vB x5), (3, vI x6), (4, vI t8), (18, ae A00 a0_2.length), (19, vI (a0_2.length : Int)), (20, vI x6), (21, vB (decide (x6 < (a0_2.length : Int)))), (22, vI x6), (23, dM A00 (Int.toNat x6 * 1)), (24, vI t8), (25, vI t8), (26, vB r10), (27, vB (!r10)), (28, vB st.1), (41, vB st.2)]) (fun st => Sat w Z [(b1, .cells #[vB a0, vI a0_1, ae A00 a0_2.length] 121 (0, 0))] [] ([Row 1 (pl (aE .i64)) aA A00 a0_2] ++ aI)) (fun st hM => ?_) (fun K2 => ?_)
   ·
    obtain ⟨x18, x19⟩ := st
    replace hM : aP.k2 x5 x6 (aP.l3 a0_2 a0_1 k n) x18 x19 = some r := hM
    unfold aP.k2 at hM
    try dsimp only
    refine WP.done ?_
    refine WP.cond x19 rfl rfl (fun c20 => ?_) (fun c20 => ?_)
    ·replace hM := aG hM c20
     refine WP.seq (WP.rn [] [(2, vB false)] ?_)
     obtain rfl := oI hM
     exact WP.dI [] [] [0]
    ·replace hM := aH hM c20
     refine WP.skip (WP.leave (WP.rn [] [(20, vI (i64 (x6 + 1))), (42, vI (i64 (x6 + 1)))] ?_))
     exact WP.cN [1, 2, 18, 19, 20] (x5, i64 (x6 + 1)) hM rfl (fun _ h => (h.pick [0] rfl).aQ [0] rfl)
   ·
    refine WL.sp 28 (!r10) (fun c12 => ?_) (fun c12 => ?_)
    ·replace hM := aG hM c12
     refine WL.rn 13 [] [(29, .tuple #[]), (30, .tuple #[]), (31, .tuple #[]), (32, .tuple #[]), (33, .tuple #[]), (34, .tuple #[]), (35, .tuple #[]), (36, .tuple #[]), (37, .tuple #[]), (38, .tuple #[]), (39, .tuple #[]), (40, .tuple #[]), (41, vB true)] ?_
     exact WL.sub [1, 2, 3, 4, 18, 19, 20, 21, 22, 23, 24, 25, 26, 27, 28, 41] rfl (WL.pick [0] rfl rfl (WL.aQ [0] rfl (K2 (true, true) hM)))
    ·replace hM := aH hM c12
     refine WL.rn 3 [] [(29, vI x6), (30, vB (decide (x6 > 0))), (31, vB (decide (x6 > 0)))] ?_
     refine WL.join (σ := Bool × Bool) 9 (fun st => aP.k1 x5 x6 (aP.l3 a0_2 a0_1 k n) st.1 st.2 = some r) (fun st => [(1, vP b1 0), (2, vB x5), (3, vI x6), (4, vI t8), (18, ae A00 a0_2.length), (19, vI (a0_2.length : Int)), (20, vI x6), (21, vB (decide (x6 < (a0_2.length : Int)))), (22, vI x6), (23, dM A00 (Int.toNat x6 * 1)), (24, vI t8), (25, vI t8), (26, vB r10), (27, vB (!r10)), (28, vB false), (29, vI x6), (30, vB (decide (x6 > 0))), (31, vB st.1), (40, vB st.2)]) (fun st => Sat w Z [(b1, .cells #[vB a0, vI a0_1, ae A00 a0_2.length] 121 (0, 0))] [] ([Row 1 (pl (aE .i64)) aA A00 a0_2] ++ aI)) (fun st hM => ?_) (fun K1 => ?_)
     ·
      obtain ⟨x16, x17⟩ := st
      replace hM : aP.k1 x5 x6 (aP.l3 a0_2 a0_1 k n) x16 x17 = some r := hM
      unfold aP.k1 at hM
      try dsimp only
      refine WL.rn 1 [] [(41, vB x17)] ?_
      exact WL.sub [1, 2, 3, 4, 18, 19, 20, 21, 22, 23, 24, 25, 26, 27, 28, 41] rfl (WL.pick [0] rfl rfl (WL.aQ [0] rfl (K2 (false, x17) hM)))
     ·
      refine WL.sp 31 (decide (x6 > 0)) (fun c13 => ?_) (fun c13 => ?_)
      ·replace hM := aG hM c13
       refine WL.rn 5 [0] [(32, vI t8), (33, vP b1 2), (34, ae A00 a0_2.length), (35, vI x6), (36, vI (i64 (x6 - 1)))] ?_
       obtain ⟨t14, h15, hM⟩ := bind_some hM
       refine WL.cd (φ := Row 1 (pl (aE .i64)) aA A00 a0_2) (ar 0 rfl) (fun w hR => aJ (A := A00) (xs := a0_2) (i := i64 (x6 - 1)) (k := .i64) (e := 3) (m := 1) rfl rfl h15 rfl rfl hR) (by kernel_rfl) rfl rfl ?_
       refine WL.cd (φ := Row 1 (pl (aE .i64)) aA A00 a0_2) (ar 0 rfl) (fun w hR => bp (A := A00) (xs := a0_2) (i := i64 (x6 - 1)) (j := 0) (v := vI t14) h15 (fun _ => by kernel_rfl) rfl rfl hR) (by kernel_rfl) rfl rfl ?_
       refine WL.rn 2 [] [(39, vB (decide (t8 ≤ t14))), (40, vB (decide (t8 ≤ t14)))] ?_
       exact WL.sub [1, 2, 3, 4, 18, 19, 20, 21, 22, 23, 24, 25, 26, 27, 28, 29, 30, 31, 40] rfl (WL.pick [0] rfl rfl (WL.aQ [0] rfl (K1 (true, decide (t8 ≤ t14)) hM)))
      ·replace hM := aH hM c13
       refine WL.rn 9 [] [(32, .tuple #[]), (33, .tuple #[]), (34, .tuple #[]), (35, .tuple #[]), (36, .tuple #[]), (37, .tuple #[]), (38, .tuple #[]), (39, .tuple #[]), (40, vB false)] ?_
       exact WL.sub [1, 2, 3, 4, 18, 19, 20, 21, 22, 23, 24, 25, 26, 27, 28, 29, 30, 31, 40] rfl (WL.pick [0] rfl rfl (WL.aQ [0] rfl (K1 (false, false) hM)))
  ·replace hM := aH hM c7
   refine WP.exit rfl (WP.seq (WP.region (WL.rn 4 [0] [(46, vB (a0_1 == 0))] ?_)))
   refine WL.join (σ := Bool) 6 (fun st => aP.k4 st = some r) (fun st => [(2, vB x5), (52, vB st)]) (fun st => Sat w Z [] [] ([Row 1 (pl (aE .i64)) aA A00 a0_2] ++ aI)) (fun st hM => ?_) (fun K4 => ?_)
   ·
    obtain ⟨x24, rfl⟩ : ∃ y, y = st := ⟨st, rfl⟩
    replace hM : aP.k4 x24 = some r := hM
    unfold aP.k4 at hM
    try dsimp only
    refine WL.rn 1 [] [(2, vB x24)] ?_
    refine WP.done ?_
    obtain rfl := oI hM
    exact WP.dI [] [] [0]
   ·
    refine WL.sp 46 (a0_1 == 0) (fun c21 => ?_) (fun c21 => ?_)
    ·replace hM := aG hM c21
     refine WL.rn 6 [] [(52, vB true)] ?_
     exact WL.sub [2, 52] rfl (WL.pick [] rfl rfl (WL.aQ [0] rfl (K4 true hM)))
    ·replace hM := aH hM c21
     refine WL.rn 4 [0, 0] [(48, ae A00 a0_2.length), (50, vI a0_1)] ?_
     obtain ⟨r22, h23, hM⟩ := bind_some hM
     refine WL.cQ [] [] (ic k A00 a0_2 a0_1 _ h23) (bE [0] rfl) (by kernel_rfl) rfl rfl ?_
     refine WL.rn 1 [] [(52, vB r22)] ?_
     exact WL.sub [2, 52] rfl (WL.pick [] rfl rfl (WL.aQ [0] rfl (K4 r22 hM)))
def gA.f (k : Nat) (a0 : Bool) (a0_1 : Int) (a0_2 : (List Int)) : Option (Bool) :=
 (aP.f k a0 a0_1 a0_2).bind fun r2 =>
 some (!r2)
theorem mD (k : Nat) (A00 : av Unit) (a0 : Bool) (a0_1 : Int) (a0_2 : (List Int)) (r : Bool) (h : gA.f k a0 a0_1 a0_2 = some r) : Pure Tryz.prog ([Row 1 (pl (aE .i64)) aA A00 a0_2] ++ aI) 62 #[.agg #[vB a0, vI a0_1, ae A00 a0_2.length]] (vB r) := by
 intro w Z hS
 refine bh (args := [.agg #[vB a0, vI a0_1, ae A00 a0_2.length]]) (L := [(0, .agg #[vB a0, vI a0_1, ae A00 a0_2.length])]) (N := 6) Tryz.func62 hS ?_
 have hM := h
 clear h hS
 unfold gA.f at hM
 refine WP.seq ?_
 refine WP.rh [] (fun b1 => [(1, vP b1 0), (2, vB false)]) (fun b1 => []) (fun b1 => [(b1, .cells #[vB a0, vI a0_1, ae A00 a0_2.length] 121 (0, 0))]) (fun b1 => ?_)
 refine WP.seq (WP.region (WL.rn 1 [0, 0, 0] [(3, .agg #[vB a0, vI a0_1, ae A00 a0_2.length])] ?_))
 obtain ⟨r2, h3, hM⟩ := bind_some hM
 refine WL.cQ [] [] (nJ k A00 a0 a0_1 a0_2 _ h3) (bE [0] rfl) (by kernel_rfl) rfl rfl ?_
 refine WL.rn 2 [] [(2, vB (!r2))] ?_
 refine WP.done (WP.kp [false] ?_)
 obtain rfl := oI hM
 exact WP.dI [] [] [0]
def bU.l1 (a0 : (List aa)) (k : Nat) : Nat → Int → Int → Option (Int)
 | 0, _, _ => none
 | n + 1, x1, x2 =>
  bif decide (x2 < (a0.length : Int)) then
   (cI a0.length a0 x2).bind fun t4 =>
   (gA.f k t4.bT t4.cU t4.cS).bind fun r6 =>
   bif r6 then
    some x2
   else
    bU.l1 a0 k n x1 (i64 (x2 + 1))
  else
   some (-1)
def bU.f (k : Nat) (a0 : (List aa)) : Option (Int) :=
 bU.l1 a0 k k 0 0
theorem mb (k : Nat) (A00 : av (av Unit)) (a0 : (List aa)) (r : Int) (h : bU.f k a0 = some r) : Pure Tryz.prog ([Row 3 aa.au aa.aN A00 a0] ++ aI) 97 #[ae A00 a0.length, .func (.func 62) #[] #[]] (vI r) := by
 intro w Z hS
 refine bh (args := [ae A00 a0.length, .func (.func 62) #[] #[]]) (L := [(0, ae A00 a0.length), (1, .func (.func 62) #[] #[])]) (N := 19) Tryz.func97 hS ?_
 have hM := h
 clear h hS
 unfold bU.f at hM
 refine WP.seq (WP.rn [] [(4, vI 0)] ?_)
 refine WP.seq (WP.seq (WP.rn [] [(7, vI (a0.length : Int)), (8, vI 0)] ?_))
 refine WP.block ?_
 refine WP.sub [0, 1, 4, 7, 8] (L' := [(0, ae A00 a0.length), (1, .func (.func 62) #[] #[]), (4, vI 0), (7, vI (a0.length : Int)), (8, vI 0)]) rfl ?_
 refine WP.aQ [0] (F' := [Row 3 aa.au aa.aN A00 a0]) rfl ?_
 refine WP.loop (σ := Int × Int) (fun n st => bU.l1 a0 k n st.1 st.2) r (fun st => [(0, ae A00 a0.length), (1, .func (.func 62) #[] #[]), (4, vI st.1), (7, vI (a0.length : Int)), (8, vI st.2)]) (fun st => Sat w Z [] [] ([Row 3 aa.au aa.aN A00 a0] ++ aI)) (st := (0, 0)) (fun n st hM => ?_) hM
 rcases n with _ | n
 ·exact nomatch (show (none : Option _) = some r from hM)
 obtain ⟨x1, x2⟩ := st
 replace hM : bU.l1 a0 k (n + 1) x1 x2 = some r := hM
 rw [bU.l1] at hM
 try dsimp only
 refine WP.seq (WP.rn [] [(9, vB (decide (x2 < (a0.length : Int))))] ?_)
 refine WP.seq ?_
 refine WP.cond (decide (x2 < (a0.length : Int))) rfl rfl (fun c3 => ?_) (fun c3 => ?_)
 ·replace hM := aG hM c3
  refine WP.skip (WP.seq (WP.block (WP.seq (WP.rn [] [(5, vI x2), (10, vI x2)] ?_))))
  refine WP.seq (WP.region ?_)
  refine WL.rn 3 [] [(11, .func (.func 62) #[] #[]), (12, ae A00 a0.length), (13, vI x2)] ?_
  obtain ⟨t4, h5, hM⟩ := bind_some hM
  refine WL.cd (φ := Row 3 aa.au aa.aN A00 a0) (ar 0 rfl) (fun w hR => aJ (A := A00) (xs := a0) (i := x2) (k := .i64) (e := 121) (m := 3) rfl rfl h5 rfl rfl hR) (by kernel_rfl) rfl rfl ?_
  refine WL.cd (φ := Row 3 aa.au aa.aN A00 a0) (ar 0 rfl) (fun w hR => b4 (A := A00) (xs := a0) (i := x2) (j := 0) (n := 3) (vs := [vB t4.bT, vI t4.cU, ae (A00.s (Int.toNat x2)) t4.cS.length]) h5 (fun _ => by kernel_rfl) rfl rfl rfl rfl hR) (by kernel_rfl) rfl rfl ?_
  refine WL.ez (Row 1 (pl (aE .i64)) aA (A00.s (Int.toNat x2)) t4.cS) [0] [Row 3 aa.au aa.aN A00 a0] rfl (fun w hψ => ((hψ _ (List.mem_singleton.2 rfl)).inner _ _ (bg h5).2)) ?_
  obtain ⟨r6, h7, hM⟩ := bind_some hM
  refine WL.cQ [] [] (mD k (A00.s (Int.toNat x2)) t4.bT t4.cU t4.cS _ h7) (bE [0] rfl) (by kernel_rfl) rfl rfl ?_
  refine WP.done ?_
  refine WP.cond r6 rfl rfl (fun c8 => ?_) (fun c8 => ?_)
  ·replace hM := aG hM c8
   refine WP.seq (WP.rn [] [(4, vI x2), (17, vI x2)] ?_)
   obtain rfl := oI hM
   exact WP.dI [] [] [1]
  ·replace hM := aH hM c8
   refine WP.skip (WP.leave (WP.rn [] [(8, vI (i64 (x2 + 1))), (18, vI (i64 (x2 + 1)))] ?_))
   exact WP.cN [0, 1, 4, 7, 8] (x1, i64 (x2 + 1)) hM rfl (fun _ h => (h.pick [] rfl).aQ [1] rfl)
 ·replace hM := aH hM c3
  refine WP.exit rfl (WP.seq (WP.rn [] [(4, vI (-1))] ?_))
  obtain rfl := oI hM
  exact WP.dI [] [] [0]
def eR.f (k : Nat) (a0 : (List aa)) : Option (Bool) :=
 (bU.f k a0).bind fun r1 =>
 some (decide (r1 ≥ 0))
theorem mc (k : Nat) (A00 : av (av Unit)) (a0 : (List aa)) (r : Bool) (h : eR.f k a0 = some r) : Pure Tryz.prog ([Row 3 aa.au aa.aN A00 a0] ++ aI) 61 #[ae A00 a0.length, .func (.func 62) #[] #[]] (vB r) := by
 intro w Z hS
 refine bh (args := [ae A00 a0.length, .func (.func 62) #[] #[]]) (L := [(0, ae A00 a0.length), (1, .func (.func 62) #[] #[])]) (N := 9) Tryz.func61 hS ?_
 have hM := h
 clear h hS
 unfold eR.f at hM
 refine WP.seq (WP.rn [] [(4, vB false)] ?_)
 refine WP.seq (WP.region ?_)
 refine WL.rn 2 [] [(5, ae A00 a0.length), (6, .func (.func 62) #[] #[])] ?_
 obtain ⟨r1, h2, hM⟩ := bind_some hM
 refine WL.cQ [] [] (mb k A00 a0 _ h2) (bE [0] rfl) (by kernel_rfl) rfl rfl ?_
 refine WL.rn 2 [] [(4, vB (decide (r1 ≥ 0)))] ?_
 refine WP.done ?_
 obtain rfl := oI hM
 exact WP.dI [] [] [0]
def ir.f (a0 : Int) (a1 : Int) : Option (Int) :=
 bif ((((decide (a0 < 1)) || (decide (a0 > 4096))) || (decide (a1 < 1))) || (decide (a1 > 1099511627776))) then
  some 1
 else
  some 0
theorem jg (a0 : Int) (a1 : Int) (r : Int) (h : ir.f a0 a1 = some r) : eT Tryz.prog 67 #[vI a0, vI a1] [] ([] ++ aI) (fun x : (Option Addr) => .tuple #[.pointer x, vI r]) (fun x => []) (fun _ => []) (fun x => [] ++ ([] ++ aI)) := by
 intro w Z hS
 refine bh (args := [vI a0, vI a1]) (L := [(0, vI a0), (1, vI a1)]) (N := 25) Tryz.func67 hS ?_
 have hM := h
 clear h hS
 unfold ir.f at hM
 refine WP.seq (WP.rn [] [(4, .pointer none), (5, vI 0)] ?_)
 refine WP.seq (WP.seq (WP.region (WL.rn 3 [] [(8, vB (decide (a0 < 1)))] ?_)))
 refine WL.bo 8 (decide (a0 < 1)) 3 [] [] (fun b' => [(11, vB (b' || (decide (a0 > 4096))))]) ?_
 refine WL.rn 1 [] [(12, vB ((decide (a0 < 1)) || (decide (a0 > 4096))))] ?_
 refine WL.bo 12 ((decide (a0 < 1)) || (decide (a0 > 4096))) 3 [] [] (fun b' => [(15, vB (b' || (decide (a1 < 1))))]) ?_
 refine WL.rn 1 [] [(16, vB (((decide (a0 < 1)) || (decide (a0 > 4096))) || (decide (a1 < 1))))] ?_
 refine WL.bo 16 (((decide (a0 < 1)) || (decide (a0 > 4096))) || (decide (a1 < 1))) 3 [] [] (fun b' => [(19, vB (b' || (decide (a1 > 1099511627776))))]) ?_
 refine WP.done ?_
 refine WP.cond ((((decide (a0 < 1)) || (decide (a0 > 4096))) || (decide (a1 < 1))) || (decide (a1 > 1099511627776))) rfl rfl (fun c1 => ?_) (fun c1 => ?_)
 ·replace hM := aG hM c1
  refine WP.seq (WP.rn [] [(4, .pointer none), (5, vI 1)] ?_)
  obtain rfl := oI hM
  exact WP.ret [] [] (.tuple #[.pointer none, vI 1]) (by kernel_rfl) (fun w' hw => ⟨(none : Option Addr), rfl, (hw.pick [] rfl).less (aT [] [] rfl rfl)⟩)
 ·replace hM := aH hM c1
  refine WP.skip (WP.seq ?_)
  refine WP.rh [] (fun b2 => [(4, vP b2 0), (5, vI 0)]) (fun b2 => []) (fun b2 => [(b2, .cells #[.slice none 0 0, .func (.func 101) #[] #[], vI a0, vI a1] 245 (0, 0))]) (fun b2 => ?_)
  obtain rfl := oI hM
  exact WP.ret [] [] (.tuple #[vP b2 0, vI 0]) (by kernel_rfl) (fun w' hw => ⟨(some ⟨b2, 0, none⟩), rfl, (hw.pick [] rfl).less (aT [] [] rfl rfl)⟩)
def lQ.f (a0 : ba) : Option (Int) :=
 (ir.f a0.Room a0.aY).bind fun r2 =>
 bif (((((r2 != 0) || (decide (a0.a8 < 0))) || (decide (a0.a8 > 64))) || (decide (a0.aR < 1))) || (decide (a0.aR > 1099511627776))) then
  some 1
 else
  some 0
theorem qW (a0 : ba) (r : Int) (h : lQ.f a0 = some r) : eT Tryz.prog 64 #[ba.v a0] [] ([] ++ aI) (fun x : (Option Addr) => .tuple #[.pointer x, vI r]) (fun x => []) (fun _ => []) (fun x => [] ++ ([] ++ aI)) := by
 intro w Z hS
 refine bh (args := [ba.v a0]) (L := [(0, ba.v a0)]) (N := 41) Tryz.func64 hS ?_
 have hM := h
 clear h hS
 unfold lQ.f at hM
 refine WP.seq ?_
 refine WP.rh [] (fun b1 => [(1, vP b1 0), (2, .pointer none), (3, vI 0)]) (fun b1 => []) (fun b1 => [(b1, ba.o a0)]) (fun b1 => ?_)
 refine WP.seq (WP.region (WL.rn 4 [0, 0] [(8, vI a0.Room), (10, vI a0.aY)] ?_))
 obtain ⟨r2, h3, hM⟩ := bind_some hM
 refine WL.c0 (F0 := []) [] [] [false] (fun _ => _) [] rfl (jg a0.Room a0.aY _ h3) rfl rfl (by kernel_rfl) rfl (fun _ => rfl) (fun A4 => ?_)
 refine WL.rn 5 [] [(4, .pointer A4), (5, vI r2)] ?_
 refine WP.done (WP.seq (WP.seq (WP.region (WL.rn 3 [] [(16, vB (r2 != 0))] ?_))))
 refine WL.bo 16 (r2 != 0) 4 [] [0] (fun b' => [(20, vB (b' || (decide (a0.a8 < 0))))]) ?_
 refine WL.rn 1 [] [(21, vB ((r2 != 0) || (decide (a0.a8 < 0))))] ?_
 refine WL.bo 21 ((r2 != 0) || (decide (a0.a8 < 0))) 4 [] [0] (fun b' => [(25, vB (b' || (decide (a0.a8 > 64))))]) ?_
 refine WL.rn 1 [] [(26, vB (((r2 != 0) || (decide (a0.a8 < 0))) || (decide (a0.a8 > 64))))] ?_
 refine WL.bo 26 (((r2 != 0) || (decide (a0.a8 < 0))) || (decide (a0.a8 > 64))) 4 [] [0] (fun b' => [(30, vB (b' || (decide (a0.aR < 1))))]) ?_
 refine WL.rn 1 [] [(31, vB ((((r2 != 0) || (decide (a0.a8 < 0))) || (decide (a0.a8 > 64))) || (decide (a0.aR < 1))))] ?_
 refine WL.bo 31 ((((r2 != 0) || (decide (a0.a8 < 0))) || (decide (a0.a8 > 64))) || (decide (a0.aR < 1))) 4 [] [0] (fun b' => [(35, vB (b' || (decide (a0.aR > 1099511627776))))]) ?_
 refine WP.done ?_
 refine WP.cond (((((r2 != 0) || (decide (a0.a8 < 0))) || (decide (a0.a8 > 64))) || (decide (a0.aR < 1))) || (decide (a0.aR > 1099511627776))) rfl rfl (fun c5 => ?_) (fun c5 => ?_)
 ·replace hM := aG hM c5
  refine WP.seq (WP.rn [] [(2, .pointer none), (3, vI 1)] ?_)
  obtain rfl := oI hM
  exact WP.ret [] [] (.tuple #[.pointer none, vI 1]) (by kernel_rfl) (fun w' hw => ⟨(none : Option Addr), rfl, (hw.pick [] rfl).less (aT [] [] rfl rfl)⟩)
 ·replace hM := aH hM c5
  refine WP.skip (WP.seq ?_)
  refine WP.rh [0, 0, 0, 0] (fun b6 => [(2, vP (b6 + 1) 0), (3, vI 0)]) (fun b6 => []) (fun b6 => [(b6, .map (eo .u64 (fun xs : (List Int) => Value.nilIface) (aS.nil : aS (List Int))) (aS.nil : aS (List Int)).c), ((b6 + 1), .cells #[.pointer A4, vI a0.Room, vI a0.aY, vI a0.a8, vI a0.aR, .map (some b6)] 238 (0, 0))]) (fun b6 => ?_)
  refine WP.kp [false, true, true] ?_
  obtain rfl := oI hM
  exact WP.ret [] [] (.tuple #[vP (b6 + 1) 0, vI 0]) (by kernel_rfl) (fun w' hw => ⟨(some ⟨(b6 + 1), 0, none⟩), rfl, (hw.pick [] rfl).less (aT [] [] rfl rfl)⟩)
def cc.l2 (a0 : (List aa)) : Nat → Int → (List aa) → Option (Int)
 | 0, _, _ => none
 | n + 1, x24, x25 =>
  bif decide (x24 < (a0.length : Int)) then
   (cI a0.length a0 x24).bind fun t28 =>
   (dp.f t28.cS).bind fun r31 =>
   (ey 40 (x25 ++ ([(aa.mk t28.bT t28.cU r31)] : List aa)).length).bind fun u36 =>
   cc.l2 a0 n (i64 (x24 + 1)) (x25 ++ ([(aa.mk t28.bT t28.cU r31)] : List aa))
  else
   some 0
def cc.k1 (a1 : ba) (a0 : (List aa)) (k : Nat) (x5 : Bool) : Option (Int) :=
 bif x5 then
  some 1
 else
  (lQ.f a1).bind fun r7 =>
  bif (r7 != 0) then
   some r7
  else
   cc.l2 a0 k 0 ([] : List aa)
def cc.f (k : Nat) (a0 : (List aa)) (a1 : ba) : Option (Int) :=
 bif decide ((a0.length : Int) > 64) then
  cc.k1 a1 a0 k true
 else
  (eR.f k a0).bind fun r3 =>
  cc.k1 a1 a0 k r3
theorem ot (k : Nat) (A00 : av (av Unit)) (a0 : (List aa)) (a1 : ba) (r : Int) (h : cc.f k a0 a1 = some r) : eT Tryz.prog 29 #[ae A00 a0.length, ba.v a1] [] ([Row 3 aa.au aa.aN A00 a0] ++ aI) (fun x : (Option Addr) => .tuple #[.pointer x, vI r]) (fun x => []) (fun _ => []) (fun x => [] ++ ([Row 3 aa.au aa.aN A00 a0] ++ aI)) := by
 intro w Z hS
 refine bh (args := [ae A00 a0.length, ba.v a1]) (L := [(0, ae A00 a0.length), (1, ba.v a1)]) (N := 54) Tryz.func29 hS ?_
 have hM := h
 clear h hS
 unfold cc.f at hM
 refine WP.seq ?_
 refine WP.rh [] (fun b1 => [(3, vP b1 0), (4, .pointer none), (5, vI 0)]) (fun b1 => []) (fun b1 => [(b1, ba.o a1)]) (fun b1 => ?_)
 refine WP.seq (WP.seq (WP.region (WL.rn 4 [] [(14, vB (decide ((a0.length : Int) > 64)))] ?_)))
 refine WL.join (σ := Bool) 3 (fun st => cc.k1 a1 a0 k st = some r) (fun st => [(0, ae A00 a0.length), (3, vP b1 0), (4, .pointer none), (5, vI 0), (17, vB st)]) (fun st => Sat w Z [(b1, ba.o a1)] [] ([Row 3 aa.au aa.aN A00 a0] ++ aI)) (fun st hM => ?_) (fun K1 => ?_)
 ·
  obtain ⟨x5, rfl⟩ : ∃ y, y = st := ⟨st, rfl⟩
  replace hM : cc.k1 a1 a0 k x5 = some r := hM
  unfold cc.k1 at hM
  try dsimp only
  refine WP.done ?_
  refine WP.cond x5 rfl rfl (fun c6 => ?_) (fun c6 => ?_)
  ·replace hM := aG hM c6
   refine WP.seq (WP.rn [] [(4, .pointer none), (5, vI 1)] ?_)
   obtain rfl := oI hM
   exact WP.ret [] [] (.tuple #[.pointer none, vI 1]) (by kernel_rfl) (fun w' hw => ⟨(none : Option Addr), rfl, (hw.pick [] rfl).less (aT [] [0] rfl rfl)⟩)
  ·replace hM := aH hM c6
   refine WP.skip (WP.seq (WP.region (WL.rn 1 [0, 0, 0, 0] [(19, ba.v a1)] ?_)))
   obtain ⟨r7, h8, hM⟩ := bind_some hM
   refine WL.c0 (F0 := []) [] [] [false] (fun _ => _) [] rfl (qW a1 _ h8) rfl rfl (by kernel_rfl) rfl (fun _ => rfl) (fun A9 => ?_)
   refine WL.rn 5 [] [(6, .pointer A9), (7, vI r7)] ?_
   refine WP.done (WP.kp [false] ?_)
   refine WP.seq (WP.seq (WP.rn [] [(24, vB (r7 != 0))] ?_))
   refine WP.cond (r7 != 0) rfl rfl (fun c10 => ?_) (fun c10 => ?_)
   ·replace hM := aG hM c10
    refine WP.seq (WP.rn [] [(4, .pointer none), (5, vI r7)] ?_)
    obtain rfl := oI hM
    exact WP.ret [] [] (.tuple #[.pointer none, vI r7]) (by kernel_rfl) (fun w' hw => ⟨(none : Option Addr), rfl, (hw.pick [] rfl).less (aT [] [0] rfl rfl)⟩)
   ·replace hM := aH hM c10
    refine WP.skip (WP.seq ?_)
    refine WP.rh [] (fun b11 => [(8, vP b11 0)]) (fun b11 => []) (fun b11 => [(b11, .cells #[.slice none 0 0, vI 0, vI 0, vI 0, vI 0, vI 0, vI 0, vI 0, vI 0, vI 0, vI 0, vI 0, vI 0, vI 0, vI 0, vI 0, vI 0, vI 0, vI 0, vI 0, vI 0, vI 0, vI 0, vI 0, vI 0, vI 0, vI 0, vI 0, vI 0, vI 0, vI 0, vI 0, vI 0, vI 0, vI 0, vI 0, vI 0, vI 0, vI 0, vI 0, vI 0, vI 0, vI 0, vI 0, vI 0, vI 0, vI 0, vI 0, vI 0, vI 0, vI 0, vI 0, vI 0, vI 0, vI 0, vI 0, vI 0, vI 0, vI 0, vI 0, vI 0, vI 0, vI 0, vI 0, vI 0, vI 0, .pointer A9] 175 (0, 0))]) (fun b11 => ?_)
    refine WP.seq (WP.seq (WP.rn [] [(29, ae A00 a0.length), (30, vI (a0.length : Int)), (31, vI 0)] ?_))
    refine WP.block ?_
    refine WP.fH 3 121 aa.au aa.aN (fun _ => (av.nil (fun _ => ()))) ?_
    skip
    refine WP.sub [4, 5, 8, 29, 30, 31] (L' := [(4, .pointer none), (5, vI 0), (8, vP b11 0), (29, ae A00 a0.length), (30, vI (a0.length : Int)), (31, vI 0)]) rfl ?_
    refine WP.aQ [0, 0, 1] (F' := [bC aa.aN (av.nil (fun _ => (av.nil (fun _ => ())))) ([] : List aa), bC aa.aN (av.nil (fun _ => (av.nil (fun _ => ())))) ([] : List aa), Row 3 aa.au aa.aN A00 a0]) rfl ?_
    refine WP.loop (σ := Int × (List aa) × av (av Unit)) (fun n st => cc.l2 a0 n st.1 st.2.1) r (fun st => [(4, .pointer none), (5, vI 0), (8, vP b11 0), (29, ae A00 a0.length), (30, vI (a0.length : Int)), (31, vI st.1)]) (fun st => Sat w Z [(b11, .cells #[ae st.2.2 st.2.1.length, vI 0, vI 0, vI 0, vI 0, vI 0, vI 0, vI 0, vI 0, vI 0, vI 0, vI 0, vI 0, vI 0, vI 0, vI 0, vI 0, vI 0, vI 0, vI 0, vI 0, vI 0, vI 0, vI 0, vI 0, vI 0, vI 0, vI 0, vI 0, vI 0, vI 0, vI 0, vI 0, vI 0, vI 0, vI 0, vI 0, vI 0, vI 0, vI 0, vI 0, vI 0, vI 0, vI 0, vI 0, vI 0, vI 0, vI 0, vI 0, vI 0, vI 0, vI 0, vI 0, vI 0, vI 0, vI 0, vI 0, vI 0, vI 0, vI 0, vI 0, vI 0, vI 0, vI 0, vI 0, vI 0, .pointer A9] 175 (0, 0))] [bL 3 121 aa.au st.2.2 st.2.1] ([bC aa.aN st.2.2 st.2.1, bC aa.aN (av.nil (fun _ => (av.nil (fun _ => ())))) ([] : List aa), Row 3 aa.au aa.aN A00 a0] ++ aI)) (st := (0, ([] : List aa), (av.nil (fun _ => (av.nil (fun _ => ())))))) (fun n st hM => ?_) hM
    rcases n with _ | n
    ·exact nomatch (show (none : Option _) = some r from hM)
    obtain ⟨x24, x25, A26⟩ := st
    replace hM : cc.l2 a0 (n + 1) x24 x25 = some r := hM
    rw [cc.l2] at hM
    try dsimp only
    refine WP.seq (WP.rn [] [(32, vB (decide (x24 < (a0.length : Int))))] ?_)
    refine WP.seq ?_
    refine WP.cond (decide (x24 < (a0.length : Int))) rfl rfl (fun c27 => ?_) (fun c27 => ?_)
    ·replace hM := aG hM c27
     refine WP.skip (WP.seq (WP.block (WP.seq (WP.region ?_))))
     obtain ⟨t28, h29, hM⟩ := bind_some hM
     refine WL.cd (φ := Row 3 aa.au aa.aN A00 a0) (ar 2 rfl) (fun w hR => aJ (A := A00) (xs := a0) (i := x24) (k := .i64) (e := 121) (m := 3) rfl rfl h29 rfl rfl hR) (by kernel_rfl) rfl rfl ?_
     refine WL.cd (φ := Row 3 aa.au aa.aN A00 a0) (ar 2 rfl) (fun w hR => b4 (A := A00) (xs := a0) (i := x24) (j := 0) (n := 3) (vs := [vB t28.bT, vI t28.cU, ae (A00.s (Int.toNat x24)) t28.cS.length]) h29 (fun _ => by kernel_rfl) rfl rfl rfl rfl hR) (by kernel_rfl) rfl rfl ?_
     refine WL.ez (Row 1 (pl (aE .i64)) aA (A00.s (Int.toNat x24)) t28.cS) [2] [Row 3 aa.au aa.aN A00 a0] rfl (fun w hψ => ((hψ _ (List.mem_singleton.2 rfl)).inner _ _ (bg h29).2)) ?_
     refine WL.rh 2 [1, 1, 1] (fun b30 => [(10, vP b30 0)]) (fun b30 => []) (fun b30 => [(b30, .cells #[vB t28.bT, vI t28.cU, ae (A00.s (Int.toNat x24)) t28.cS.length] 121 (0, 0))]) (fun b30 => ?_)
     refine WP.done ?_
     obtain ⟨r31, h32, hM⟩ := bind_some hM
     obtain ⟨u36, h35, hM⟩ := bind_some hM
     refine WP.rs [4, 5, 8, 10, 29, 30, 31, 32, 33, 34] ?_
     refine WP.fB (X := ((av Unit) × Nat × (av (av Unit)))) 18 6 [⟨0, 17, fun _ => [(b11, .cells #[ae A26 x25.length, vI 0, vI 0, vI 0, vI 0, vI 0, vI 0, vI 0, vI 0, vI 0, vI 0, vI 0, vI 0, vI 0, vI 0, vI 0, vI 0, vI 0, vI 0, vI 0, vI 0, vI 0, vI 0, vI 0, vI 0, vI 0, vI 0, vI 0, vI 0, vI 0, vI 0, vI 0, vI 0, vI 0, vI 0, vI 0, vI 0, vI 0, vI 0, vI 0, vI 0, vI 0, vI 0, vI 0, vI 0, vI 0, vI 0, vI 0, vI 0, vI 0, vI 0, vI 0, vI 0, vI 0, vI 0, vI 0, vI 0, vI 0, vI 0, vI 0, vI 0, vI 0, vI 0, vI 0, vI 0, vI 0, .pointer A9] 175 (0, 0))], fun _ => []⟩, ⟨0, 18, fun _ => [(b30, .cells #[vB t28.bT, vI t28.cU, ae (A00.s (Int.toNat x24)) t28.cS.length] 121 (0, 0))], fun _ => []⟩, ⟨0, 14, fun _ => [], fun _ => [bL 3 121 aa.au A26 x25]⟩, ⟨14, 14, fun ξ => [((ξ 13).2.1, .cells #[vB t28.bT, vI t28.cU, ae (ξ 11).1 r31.length] 121 (0, 0))], fun ξ => []⟩, ⟨15, 18, fun ξ => [], fun ξ => [bL 3 121 aa.au (ξ 14).2.2 (x25 ++ ([(aa.mk t28.bT t28.cU r31)] : List aa))]⟩, ⟨18, 18, fun ξ => [(b11, .cells #[ae (ξ 14).2.2 (x25 ++ ([(aa.mk t28.bT t28.cU r31)] : List aa)).length, vI 0, vI 0, vI 0, vI 0, vI 0, vI 0, vI 0, vI 0, vI 0, vI 0, vI 0, vI 0, vI 0, vI 0, vI 0, vI 0, vI 0, vI 0, vI 0, vI 0, vI 0, vI 0, vI 0, vI 0, vI 0, vI 0, vI 0, vI 0, vI 0, vI 0, vI 0, vI 0, vI 0, vI 0, vI 0, vI 0, vI 0, vI 0, vI 0, vI 0, vI 0, vI 0, vI 0, vI 0, vI 0, vI 0, vI 0, vI 0, vI 0, vI 0, vI 0, vI 0, vI 0, vI 0, vI 0, vI 0, vI 0, vI 0, vI 0, vI 0, vI 0, vI 0, vI 0, vI 0, vI 0, .pointer A9] 175 (0, 0))], fun ξ => []⟩] [⟨[], [], [], [], [], fun _ => vP b11 0, fun _ => []⟩, ⟨[], [], [], [], [], fun _ => vP b11 0, fun _ => []⟩, ⟨[1], [], [], [], [], fun _ => vP b11 0, fun _ => []⟩, ⟨[1, 2], [], [], [], [], fun _ => vP b11 0, fun _ => []⟩, ⟨[1, 2, 3], [0], [0], [], [], fun _ => ae A26 x25.length, fun _ => []⟩, ⟨[], [], [], [], [], fun _ => vP b30 0, fun _ => []⟩, ⟨[5], [1], [1], [], [], fun _ => vB t28.bT, fun _ => []⟩, ⟨[], [], [], [], [], fun _ => vP b30 1, fun _ => []⟩, ⟨[7], [1], [1], [], [], fun _ => vI t28.cU, fun _ => []⟩, ⟨[], [], [], [], [], fun _ => vP b30 2, fun _ => []⟩, ⟨[9], [1], [1], [], [], fun _ => ae (A00.s (Int.toNat x24)) t28.cS.length, fun _ => []⟩, ⟨[9, 10], [], [], [], [], fun ξ => ae (ξ 11).1 r31.length, fun ξ => [Row 1 (pl (aE .i64)) aA (ξ 11).1 r31]⟩, ⟨[5, 6, 7, 8, 9, 10, 11], [], [], [11], [], fun ξ => .agg #[vB t28.bT, vI t28.cU, ae (ξ 11).1 r31.length], fun ξ => []⟩, ⟨[5, 6, 7, 8, 9, 10, 11, 12], [], [3], [11], [], fun ξ => .slice (some ⟨(ξ 13).2.1, 0, none⟩) 1 1, fun ξ => []⟩, ⟨[1, 2, 3, 4, 5, 6, 7, 8, 9, 10, 11, 12, 13], [3, 2], [4], [11, 13], [], fun ξ => ae (ξ 14).2.2 (x25 ++ ([(aa.mk t28.bT t28.cU r31)] : List aa)).length, fun ξ => [bC aa.aN (ξ 14).2.2 (x25 ++ ([(aa.mk t28.bT t28.cU r31)] : List aa)), Row 3 aa.au aa.aN (av.at (ξ 13).2.1 1 (fP [(ξ 11).1] (av.nil (fun _ => ())))) ([(aa.mk t28.bT t28.cU r31)] : List aa)]⟩, ⟨[0, 1, 2, 3, 4, 5, 6, 7, 8, 9, 10, 11, 12, 13, 14], [], [], [], [], fun _ => vP b11 0, fun _ => []⟩, ⟨[0, 1, 2, 3, 4, 5, 6, 7, 8, 9, 10, 11, 12, 13, 14, 15], [], [], [], [], fun _ => vP b11 0, fun _ => []⟩, ⟨[0, 1, 2, 3, 4, 5, 6, 7, 8, 9, 10, 11, 12, 13, 14, 15, 16], [0], [5], [14], [], fun _ => .tuple #[], fun _ => []⟩] (fun ξ => [(35, vP b11 0), (36, vP b11 0), (37, vP b11 0), (38, vP b11 0), (40, vP b30 0), (41, vB t28.bT), (42, vP b30 1), (43, vI t28.cU), (44, vP b30 2), (45, ae (A00.s (Int.toNat x24)) t28.cS.length), (46, ae (ξ 11).1 r31.length), (47, .agg #[vB t28.bT, vI t28.cU, ae (ξ 11).1 r31.length]), (49, ae (ξ 14).2.2 (x25 ++ ([(aa.mk t28.bT t28.cU r31)] : List aa)).length), (50, vP b11 0), (51, vP b11 0)]) (fun ξ => [(b30, .cells #[vB t28.bT, vI t28.cU, ae (A00.s (Int.toNat x24)) t28.cS.length] 121 (0, 0)), (b11, .cells #[ae (ξ 14).2.2 (x25 ++ ([(aa.mk t28.bT t28.cU r31)] : List aa)).length, vI 0, vI 0, vI 0, vI 0, vI 0, vI 0, vI 0, vI 0, vI 0, vI 0, vI 0, vI 0, vI 0, vI 0, vI 0, vI 0, vI 0, vI 0, vI 0, vI 0, vI 0, vI 0, vI 0, vI 0, vI 0, vI 0, vI 0, vI 0, vI 0, vI 0, vI 0, vI 0, vI 0, vI 0, vI 0, vI 0, vI 0, vI 0, vI 0, vI 0, vI 0, vI 0, vI 0, vI 0, vI 0, vI 0, vI 0, vI 0, vI 0, vI 0, vI 0, vI 0, vI 0, vI 0, vI 0, vI 0, vI 0, vI 0, vI 0, vI 0, vI 0, vI 0, vI 0, vI 0, vI 0, .pointer A9] 175 (0, 0))]) (fun ξ => [bL 3 121 aa.au (ξ 14).2.2 (x25 ++ ([(aa.mk t28.bT t28.cU r31)] : List aa))]) (fun ξ => [Row 1 (pl (aE .i64)) aA (ξ 11).1 r31, bC aa.aN (ξ 14).2.2 (x25 ++ ([(aa.mk t28.bT t28.cU r31)] : List aa)), Row 3 aa.au aa.aN (av.at (ξ 13).2.1 1 (fP [(ξ 11).1] (av.nil (fun _ => ())))) ([(aa.mk t28.bT t28.cU r31)] : List aa)]) (aq.cons ?_ (aq.cons ?_ (aq.cons ?_ (aq.cons ?_ (aq.cons ?_ (aq.cons ?_ (aq.cons ?_ (aq.cons ?_ (aq.cons ?_ (aq.cons ?_ (aq.cons ?_ (aq.cons ?_ (aq.cons ?_ (aq.cons ?_ (aq.cons ?_ (aq.cons ?_ (aq.cons ?_ (aq.cons ?_ aq.nil)))))))))))))))))) (aq.cons (bf.c rfl) (aq.cons (bf.c rfl) (aq.cons (bf.c rfl) (aq.cons (bf.c rfl) (aq.cons (bf.c rfl) (aq.cons (bf.c rfl) (aq.cons (bf.c rfl) (aq.cons (bf.c rfl) (aq.cons (bf.c rfl) (aq.cons (bf.c rfl) (aq.cons (bf.c rfl) (aq.cons (fun t ht ξ ξ' h => by cases ht; have we : ξ 11 = ξ' 11 := h 11 (aC.1 rfl); exact ⟨by first | rfl | simp only [we], by first | rfl | simp only [we]⟩) (aq.cons (fun t ht ξ ξ' h => by cases ht; have we : ξ 11 = ξ' 11 := h 11 (aC.1 rfl); exact ⟨by first | rfl | simp only [we], by first | rfl | simp only [we]⟩) (aq.cons (fun t ht ξ ξ' h => by cases ht; have e13 : ξ 13 = ξ' 13 := h 13 (aC.1 rfl); exact ⟨by first | rfl | simp only [e13], by first | rfl | simp only [e13]⟩) (aq.cons (fun t ht ξ ξ' h => by cases ht; have we : ξ 11 = ξ' 11 := h 11 (aC.1 rfl); have e13 : ξ 13 = ξ' 13 := h 13 (aC.1 rfl); have e14 : ξ 14 = ξ' 14 := h 14 (aC.1 rfl); exact ⟨by first | rfl | simp only [we, e13, e14], by first | rfl | simp only [we, e13, e14]⟩) (aq.cons (bf.c rfl) (aq.cons (bf.c rfl) (aq.cons (bf.c rfl) aq.nil)))))))))))))))))) (aq.cons (dA.c rfl) (aq.cons (dA.c rfl) (aq.cons (dA.c rfl) (aq.cons (fun r hr ξ ξ' h => by cases hr; have we : ξ 11 = ξ' 11 := h 11 (aC.1 rfl); have e13 : ξ 13 = ξ' 13 := h 13 (aC.1 rfl); exact ⟨by first | rfl | simp only [we, e13], by first | rfl | simp only [we, e13]⟩) (aq.cons (fun r hr ξ ξ' h => by cases hr; have e14 : ξ 14 = ξ' 14 := h 14 (aC.1 rfl); exact ⟨by first | rfl | simp only [e14], by first | rfl | simp only [e14]⟩) (aq.cons (fun r hr ξ ξ' h => by cases hr; have e14 : ξ 14 = ξ' 14 := h 14 (aC.1 rfl); exact ⟨by first | rfl | simp only [e14], by first | rfl | simp only [e14]⟩) aq.nil)))))) (fun ξ => ?_)
     ·
      intro o t ho ht ξ Gr Γr Lr Q hk
      cases ho; cases ht
      refine WL.rn 1 [] [(35, vP b11 0)] ?_
      exact WL.fin (hk default)
     ·
      intro o t ho ht ξ Gr Γr Lr Q hk
      cases ho; cases ht
      refine WL.rn 1 [] [(36, vP b11 0)] ?_
      exact WL.fin (hk default)
     ·
      intro o t ho ht ξ Gr Γr Lr Q hk
      cases ho; cases ht
      refine WL.rn 1 [] [(37, vP b11 0)] ?_
      exact WL.fin (hk default)
     ·
      intro o t ho ht ξ Gr Γr Lr Q hk
      cases ho; cases ht
      refine WL.rn 1 [] [(38, vP b11 0)] ?_
      exact WL.fin (hk default)
     ·
      intro o t ho ht ξ Gr Γr Lr Q hk
      cases ho; cases ht
      refine WL.rn 1 [0] [(39, ae A26 x25.length)] ?_
      exact WL.fin (hk default)
     ·
      intro o t ho ht ξ Gr Γr Lr Q hk
      cases ho; cases ht
      refine WL.rn 1 [] [(40, vP b30 0)] ?_
      exact WL.fin (hk default)
     ·
      intro o t ho ht ξ Gr Γr Lr Q hk
      cases ho; cases ht
      refine WL.rn 1 [0] [(41, vB t28.bT)] ?_
      exact WL.fin (hk default)
     ·
      intro o t ho ht ξ Gr Γr Lr Q hk
      cases ho; cases ht
      refine WL.rn 1 [] [(42, vP b30 1)] ?_
      exact WL.fin (hk default)
     ·
      intro o t ho ht ξ Gr Γr Lr Q hk
      cases ho; cases ht
      refine WL.rn 1 [0] [(43, vI t28.cU)] ?_
      exact WL.fin (hk default)
     ·
      intro o t ho ht ξ Gr Γr Lr Q hk
      cases ho; cases ht
      refine WL.rn 1 [] [(44, vP b30 2)] ?_
      exact WL.fin (hk default)
     ·
      intro o t ho ht ξ Gr Γr Lr Q hk
      cases ho; cases ht
      refine WL.rn 1 [0] [(45, ae (A00.s (Int.toNat x24)) t28.cS.length)] ?_
      exact WL.fin (hk default)
     ·
      intro o t ho ht ξ Gr Γr Lr Q hk
      cases ho; cases ht
      refine WL.c0 (F0 := [Row 1 (pl (aE .i64)) aA (A00.s (Int.toNat x24)) t28.cS]) [] [] [] (fun _ => _) [0] rfl (fA (A00.s (Int.toNat x24)) t28.cS _ h32) rfl rfl (by kernel_rfl) rfl (fun _ => rfl) (fun A33 => ?_)
      exact WL.fin (hk (A33, default, default))
     ·
      intro o t ho ht ξ Gr Γr Lr Q hk
      cases ho; cases ht
      refine WL.rn 1 [] [(47, .agg #[vB t28.bT, vI t28.cU, ae (ξ 11).1 r31.length])] ?_
      exact WL.fin (hk default)
     ·
      intro o t ho ht ξ Gr Γr Lr Q hk
      cases ho; cases ht
      refine WL.rh 1 [] (fun b34 => [(48, .slice (some ⟨b34, 0, none⟩) 1 1)]) (fun b34 => []) (fun b34 => [(b34, .cells #[vB t28.bT, vI t28.cU, ae (ξ 11).1 r31.length] 121 (0, 0))]) (fun b34 => ?_)
      exact WL.fin (hk (default, b34, default))
     ·
      intro o t ho ht ξ Gr Γr Lr Q hk
      cases ho; cases ht
      refine WL.tW (H' := []) (Row 3 aa.au aa.aN (av.at (ξ 13).2.1 1 (fP [(ξ 11).1] (av.nil (fun _ => ())))) ([(aa.mk t28.bT t28.cU r31)] : List aa)) 0 (b := (ξ 13).2.1) (ob := .cells #[vB t28.bT, vI t28.cU, ae (ξ 11).1 r31.length] 121 (0, 0)) rfl [0] [Row 1 (pl (aE .i64)) aA (ξ 11).1 r31] rfl (fun w hb hψ => cl hb (fun _ _ => rfl) ⟨[], by kernel_rfl⟩ (nB rfl) (And.intro (hψ _ (List.mem_of_getElem? (i := 0) rfl)) trivial)) rfl ?_
      refine WL.dW (G' := Gr) (A := A26) (B := (av.at (ξ 13).2.1 1 (fP [(ξ 11).1] (av.nil (fun _ => ()))))) (xs := x25) (ys := ([(aa.mk t28.bT t28.cU r31)] : List aa)) (m := 3) (by_ := 40) (e := 121) (z := .agg #[vB false, vI 0, .slice none 0 0]) (f := aa.au) (K := aa.aN) (d := 49) 0 rfl rfl rfl rfl rfl rfl rfl (fun _ _ => rfl) (fun _ _ => rfl) (by kernel_rfl) rfl rfl rfl rfl (ar 3 rfl) (ar 0 rfl) h35 rfl (fun A37 => ?_)
      refine WL.less (Φ' := (([bC aa.aN A37 (x25 ++ ([(aa.mk t28.bT t28.cU r31)] : List aa)), Row 3 aa.au aa.aN (av.at (ξ 13).2.1 1 (fP [(ξ 11).1] (av.nil (fun _ => ())))) ([(aa.mk t28.bT t28.cU r31)] : List aa), Row 1 (pl (aE .i64)) aA (ξ 11).1 r31, Row 1 (pl (aE .i64)) aA (A00.s (Int.toNat x24)) t28.cS, bC aa.aN A26 x25, bC aa.aN (av.nil (fun _ => (av.nil (fun _ => ())))) ([] : List aa), Row 3 aa.au aa.aN A00 a0] ++ Γr) ++ aI)) (fun _ h => h) ?_
      exact WL.fin (hk (default, default, A37))
     ·
      intro o t ho ht ξ Gr Γr Lr Q hk
      cases ho; cases ht
      refine WL.rn 1 [] [(50, vP b11 0)] ?_
      exact WL.fin (hk default)
     ·
      intro o t ho ht ξ Gr Γr Lr Q hk
      cases ho; cases ht
      refine WL.rn 1 [] [(51, vP b11 0)] ?_
      exact WL.fin (hk default)
     ·
      intro o t ho ht ξ Gr Γr Lr Q hk
      cases ho; cases ht
      refine WL.rh 1 [0] (fun _ => []) (fun _ => [(0, 0, [ae (ξ 14).2.2 (x25 ++ ([(aa.mk t28.bT t28.cU r31)] : List aa)).length])]) (fun _ => []) (fun _ => ?_)
      exact WL.fin (hk default)
     generalize (ξ 11).1 = A33
     generalize (ξ 13).2.1 = b34
     generalize (ξ 14).2.2 = A37
     refine WP.less (Φ' := ([Row 1 (pl (aE .i64)) aA A33 r31, bC aa.aN A37 (x25 ++ ([(aa.mk t28.bT t28.cU r31)] : List aa)), Row 3 aa.au aa.aN (av.at b34 1 (fP [A33] (av.nil (fun _ => ())))) ([(aa.mk t28.bT t28.cU r31)] : List aa), Row 1 (pl (aE .i64)) aA (A00.s (Int.toNat x24)) t28.cS, bC aa.aN A26 x25, bC aa.aN (av.nil (fun _ => (av.nil (fun _ => ())))) ([] : List aa), Row 3 aa.au aa.aN A00 a0] ++ aI)) (fun _ h => h) ?_
     refine WP.leave (WP.rn [] [(31, vI (i64 (x24 + 1))), (52, vI (i64 (x24 + 1)))] ?_)
     exact WP.cN [4, 5, 8, 29, 30, 31] (i64 (x24 + 1), (x25 ++ ([(aa.mk t28.bT t28.cU r31)] : List aa)), A37) hM rfl (fun _ h => ((h.pick [1] rfl).aQ [1, 5, 6] rfl).dE [0] [] 1 rfl (by decide) rfl)
    ·replace hM := aH hM c27
     refine WP.exit rfl (WP.seq ?_)
     refine WP.rn [] [(4, vP b11 0), (5, vI 0)] ?_
     refine WP.dE (G' := []) [] [0] 1 rfl (by decide) rfl ?_
     obtain rfl := oI hM
     exact WP.ret [] [] (.tuple #[vP b11 0, vI 0]) (by kernel_rfl) (fun w' hw => ⟨(some ⟨b11, 0, none⟩), rfl, (hw.pick [] rfl).less (aT [] [2] rfl rfl)⟩)
 ·
  refine WL.sp 14 (decide ((a0.length : Int) > 64)) (fun c2 => ?_) (fun c2 => ?_)
  ·replace hM := aG hM c2
   refine WL.rn 3 [] [(17, vB true)] ?_
   exact WL.sub [0, 3, 4, 5, 17] rfl (WL.pick [0] rfl rfl (WL.aQ [0] rfl (K1 true hM)))
  ·replace hM := aH hM c2
   refine WL.rn 1 [] [(15, ae A00 a0.length)] ?_
   obtain ⟨r3, h4, hM⟩ := bind_some hM
   refine WL.cQ [] [] (mc k A00 a0 _ h4) (bE [0] rfl) (by kernel_rfl) rfl rfl ?_
   refine WL.rn 1 [] [(17, vB r3)] ?_
   exact WL.sub [0, 3, 4, 5, 17] rfl (WL.pick [0] rfl rfl (WL.aQ [0] rfl (K1 r3 hM)))
def ki.f (a0 : Int) : Option (Bool) :=
 some ((decide (a0 < 1)) || (decide (a0 > 16777216)))
theorem nP (a0 : Int) (r : Bool) (h : ki.f a0 = some r) : Pure Tryz.prog aI 65 #[vI a0] (vB r) := by
 intro w Z hS
 refine bh (args := [vI a0]) (L := [(0, vI a0)]) (N := 9) Tryz.func65 hS ?_
 have hM := h
 clear h hS
 unfold ki.f at hM
 refine WP.seq (WP.rn [] [(2, vB false)] ?_)
 refine WP.seq (WP.region (WL.rn 3 [] [(5, vB (decide (a0 < 1)))] ?_))
 refine WL.bo 5 (decide (a0 < 1)) 3 [] [] (fun b' => [(8, vB (b' || (decide (a0 > 16777216))))]) ?_
 refine WL.rn 1 [] [(2, vB ((decide (a0 < 1)) || (decide (a0 > 16777216))))] ?_
 refine WP.done ?_
 obtain rfl := oI hM
 exact WP.lY [] []
end Go.Proofs.YtkpjjncdicgkkaaGreatDoor
