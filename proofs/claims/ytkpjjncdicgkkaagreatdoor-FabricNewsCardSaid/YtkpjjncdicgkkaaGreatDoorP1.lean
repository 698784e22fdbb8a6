/- Plain arithmetic of the functions' models: no conditions but those that each theorem bears. -/
import Derived.Test.YtkpjjncdicgkkaaGreatDoorF1
import Derived.Test.YtkpjjncdicgkkaaGreatDoorE3
import Derived.Test.YtkpjjncdicgkkaaGreatDoorF3
import Derived.Test.YtkpjjncdicgkkaaGreatDoorF2

namespace Go.Proofs.YtkpjjncdicgkkaaGreatDoor
set_option maxRecDepth 100000
set_option linter.unusedVariables false
set_option linter.unusedSimpArgs false
open Go Eng
def ba.enc (x : ba) : List Value := [.int .i64 x.Room, .int .i64 x.aY, .int .i64 x.a8, .int .i64 x.aR]
def bj.enc (x : bj) : List Value := [.int .u64 x.bx, .int .u32 x.Ip, .int .i64 x.Room, .int .i64 x.aY, .int .i64 x.cp, .int .i64 x.br, .int .i64 x.bn]
def bA.enc (x : bA) : List Value := [.int .u32 x.Ip, .int .i64 x.cL]
def AF (n : Int) : Prop := 0 ≤ n ∧ n ≤ 18446744073709551615
theorem y6 (W : World) : iO Tryz.prog W 49 (pl (aE .u64)) aA AF := (iO.int Tryz.underlying49).mono fun _ h => Eng.wf_u64 h
def xu (n : Int) : Prop := 0 ≤ n ∧ n ≤ 4294967295
theorem ue (W : World) : iO Tryz.prog W 50 (pl (aE .u32)) aA xu := (iO.int Tryz.underlying50).mono fun _ h => Eng.wf_u32 h
def EG (_ : Bool) : Prop := True
theorem Cq (W : World) : iO Tryz.prog W 4 (pl ca) aA EG := iO.bool Tryz.underlying4
def uv (n : Int) : Prop := (-9223372036854775808) ≤ n ∧ n ≤ 9223372036854775807
theorem lZ (W : World) : iO Tryz.prog W 3 (pl (aE .i64)) aA uv := (iO.int Tryz.underlying3).mono fun _ h => Eng.wf_i64 h
def En (xs : (List Int)) : Prop := (∀ x ∈ xs, uv x) ∧ xs.length * 8 ≤ 140737488351232
theorem Ea (W : World) : iO Tryz.prog W 94 (fun (xs : (List Int)) s => [ae s xs.length]) (fun (xs : (List Int)) s => Row 1 (pl (aE .i64)) aA s xs) En := iO.slice 0 () (by kernel_rfl) (by kernel_rfl) (by decide) (fun _ _ => rfl) (by kernel_rfl : _ = 8) (lZ W)
def Bx (x : aa) : Prop := EG x.bT ∧ uv x.cU ∧ En x.cS
theorem Cv (W : World) : iO Tryz.prog W 121 aa.au aa.aN Bx := fun H enc fuel cs d h hw => by
 obtain ⟨ps, r0, rfl⟩ := iO.fields [4, 3, 94] Tryz.underlying121 (by kernel_rfl) (by kernel_rfl) h hw
 obtain ⟨p0, ps0, rfl, ⟨f0, d0, h0, w0⟩, r1⟩ := r0.cons
 obtain ⟨x0, s0, rfl, k0, q0⟩ := Cq W H enc f0 p0 d0 h0 w0
 obtain ⟨p1, ps1, rfl, ⟨f1, d1, h1, w1⟩, r2⟩ := r1.cons
 obtain ⟨x1, s1, rfl, k1, q1⟩ := lZ W H enc f1 p1 d1 h1 w1
 obtain ⟨p2, ps2, rfl, ⟨f2, d2, h2, w2⟩, r3⟩ := r2.cons
 obtain ⟨x2, s2, rfl, k2, q2⟩ := Ea W H enc f2 p2 d2 h2 w2
 obtain rfl := r3.nil
 exact ⟨⟨x0, x1, x2⟩, s2, rfl, k2, q0, q1, q2⟩
theorem C0 : Up aa.aN := fun x s w w' h k => (Up.row Up.no) x.cS s w w' h k
def Ew (xs : (List aa)) : Prop := (∀ x ∈ xs, Bx x) ∧ xs.length * 40 ≤ 140737488351232
theorem Eh (W : World) : iO Tryz.prog W 51 (fun (xs : (List aa)) s => [ae s xs.length]) (fun (xs : (List aa)) s => Row 3 aa.au aa.aN s xs) Ew := iO.slice (aa.mk false 0 ([] : List Int)) (av.nil (fun _ => ())) (by kernel_rfl) (by kernel_rfl) (by decide) (fun _ _ => rfl) (by kernel_rfl : _ = 40) (Cv W)
def Eu (xs : (List Bool)) : Prop := (∀ x ∈ xs, EG x) ∧ xs.length * 1 ≤ 140737488351232
theorem Eg (W : World) : iO Tryz.prog W 52 (fun (xs : (List Bool)) s => [ae s xs.length]) (fun (xs : (List Bool)) s => Row 1 (pl ca) aA s xs) Eu := iO.slice false () (by kernel_rfl) (by kernel_rfl) (by decide) (fun _ _ => rfl) (by kernel_rfl : _ = 1) (Cq W)
def Et (x : ba) : Prop := uv x.Room ∧ uv x.aY ∧ uv x.a8 ∧ uv x.aR
theorem Ef (W : World) : iO Tryz.prog W 54 (pl ba.enc) aA Et := fun H enc fuel cs d h hw => by
 obtain ⟨ps, r0, rfl⟩ := iO.fields [3, 3, 3, 3] Tryz.underlying54 (by kernel_rfl) (by kernel_rfl) h hw
 obtain ⟨p0, ps0, rfl, ⟨f0, d0, h0, w0⟩, r1⟩ := r0.cons
 obtain ⟨x0, s0, rfl, k0, q0⟩ := lZ W H enc f0 p0 d0 h0 w0
 obtain ⟨p1, ps1, rfl, ⟨f1, d1, h1, w1⟩, r2⟩ := r1.cons
 obtain ⟨x1, s1, rfl, k1, q1⟩ := lZ W H enc f1 p1 d1 h1 w1
 obtain ⟨p2, ps2, rfl, ⟨f2, d2, h2, w2⟩, r3⟩ := r2.cons
 obtain ⟨x2, s2, rfl, k2, q2⟩ := lZ W H enc f2 p2 d2 h2 w2
 obtain ⟨p3, ps3, rfl, ⟨f3, d3, h3, w3⟩, r4⟩ := r3.cons
 obtain ⟨x3, s3, rfl, k3, q3⟩ := lZ W H enc f3 p3 d3 h3 w3
 obtain rfl := r4.nil
 exact ⟨⟨x0, x1, x2, x3⟩, (), rfl, trivial, q0, q1, q2, q3⟩
def Es (x : bj) : Prop := AF x.bx ∧ xu x.Ip ∧ uv x.Room ∧ uv x.aY ∧ uv x.cp ∧ uv x.br ∧ uv x.bn
theorem Ee (W : World) : iO Tryz.prog W 56 (pl bj.enc) aA Es := fun H enc fuel cs d h hw => by
 obtain ⟨ps, r0, rfl⟩ := iO.fields [49, 50, 3, 3, 3, 3, 3] Tryz.underlying56 (by kernel_rfl) (by kernel_rfl) h hw
 obtain ⟨p0, ps0, rfl, ⟨f0, d0, h0, w0⟩, r1⟩ := r0.cons
 obtain ⟨x0, s0, rfl, k0, q0⟩ := y6 W H enc f0 p0 d0 h0 w0
 obtain ⟨p1, ps1, rfl, ⟨f1, d1, h1, w1⟩, r2⟩ := r1.cons
 obtain ⟨x1, s1, rfl, k1, q1⟩ := ue W H enc f1 p1 d1 h1 w1
 obtain ⟨p2, ps2, rfl, ⟨f2, d2, h2, w2⟩, r3⟩ := r2.cons
 obtain ⟨x2, s2, rfl, k2, q2⟩ := lZ W H enc f2 p2 d2 h2 w2
 obtain ⟨p3, ps3, rfl, ⟨f3, d3, h3, w3⟩, r4⟩ := r3.cons
 obtain ⟨x3, s3, rfl, k3, q3⟩ := lZ W H enc f3 p3 d3 h3 w3
 obtain ⟨p4, ps4, rfl, ⟨f4, d4, h4, w4⟩, r5⟩ := r4.cons
 obtain ⟨x4, s4, rfl, k4, q4⟩ := lZ W H enc f4 p4 d4 h4 w4
 obtain ⟨p5, ps5, rfl, ⟨f5, d5, h5, w5⟩, r6⟩ := r5.cons
 obtain ⟨x5, s5, rfl, k5, q5⟩ := lZ W H enc f5 p5 d5 h5 w5
 obtain ⟨p6, ps6, rfl, ⟨f6, d6, h6, w6⟩, r7⟩ := r6.cons
 obtain ⟨x6, s6, rfl, k6, q6⟩ := lZ W H enc f6 p6 d6 h6 w6
 obtain rfl := r7.nil
 exact ⟨⟨x0, x1, x2, x3, x4, x5, x6⟩, (), rfl, trivial, q0, q1, q2, q3, q4, q5, q6⟩
def Bw (xs : (List Int)) : Prop := (∀ x ∈ xs, xu x) ∧ xs.length * 4 ≤ 140737488351232
theorem Cu (W : World) : iO Tryz.prog W 141 (fun (xs : (List Int)) s => [ae s xs.length]) (fun (xs : (List Int)) s => Row 1 (pl (aE .u32)) aA s xs) Bw := iO.slice 0 () (by kernel_rfl) (by kernel_rfl) (by decide) (fun _ _ => rfl) (by kernel_rfl : _ = 4) (ue W)
def Bv (x : ag) : Prop := uv x.bd ∧ uv x.bV ∧ Bw x.aD
theorem Ct (W : World) : iO Tryz.prog W 143 ag.au ag.aN Bv := fun H enc fuel cs d h hw => by
 obtain ⟨ps, r0, rfl⟩ := iO.fields [3, 3, 141] Tryz.underlying143 (by kernel_rfl) (by kernel_rfl) h hw
 obtain ⟨p0, ps0, rfl, ⟨f0, d0, h0, w0⟩, r1⟩ := r0.cons
 obtain ⟨x0, s0, rfl, k0, q0⟩ := lZ W H enc f0 p0 d0 h0 w0
 obtain ⟨p1, ps1, rfl, ⟨f1, d1, h1, w1⟩, r2⟩ := r1.cons
 obtain ⟨x1, s1, rfl, k1, q1⟩ := lZ W H enc f1 p1 d1 h1 w1
 obtain ⟨p2, ps2, rfl, ⟨f2, d2, h2, w2⟩, r3⟩ := r2.cons
 obtain ⟨x2, s2, rfl, k2, q2⟩ := Cu W H enc f2 p2 d2 h2 w2
 obtain rfl := r3.nil
 exact ⟨⟨x0, x1, x2⟩, s2, rfl, k2, q0, q1, q2⟩
theorem CZ : Up ag.aN := fun x s w w' h k => (Up.row Up.no) x.aD s w w' h k
def Er (xs : (List ag)) : Prop := (∀ x ∈ xs, Bv x) ∧ xs.length * 40 ≤ 140737488351232
theorem Ed (W : World) : iO Tryz.prog W 57 (fun (xs : (List ag)) s => [ae s xs.length]) (fun (xs : (List ag)) s => Row 3 ag.au ag.aN s xs) Er := iO.slice (ag.mk 0 0 ([] : List Int)) (av.nil (fun _ => ())) (by kernel_rfl) (by kernel_rfl) (by decide) (fun _ _ => rfl) (by kernel_rfl : _ = 40) (Ct W)
def Bu (x : bA) : Prop := xu x.Ip ∧ uv x.cL
theorem Cs (W : World) : iO Tryz.prog W 161 (pl bA.enc) aA Bu := fun H enc fuel cs d h hw => by
 obtain ⟨ps, r0, rfl⟩ := iO.fields [50, 3] Tryz.underlying161 (by kernel_rfl) (by kernel_rfl) h hw
 obtain ⟨p0, ps0, rfl, ⟨f0, d0, h0, w0⟩, r1⟩ := r0.cons
 obtain ⟨x0, s0, rfl, k0, q0⟩ := ue W H enc f0 p0 d0 h0 w0
 obtain ⟨p1, ps1, rfl, ⟨f1, d1, h1, w1⟩, r2⟩ := r1.cons
 obtain ⟨x1, s1, rfl, k1, q1⟩ := lZ W H enc f1 p1 d1 h1 w1
 obtain rfl := r2.nil
 exact ⟨⟨x0, x1⟩, (), rfl, trivial, q0, q1⟩
def Bt (x : aj) : Prop := Bu x.To ∧ xu x.xw
theorem Cr (W : World) : iO Tryz.prog W 163 (pl aj.enc) aA Bt := fun H enc fuel cs d h hw => by
 obtain ⟨ps, r0, rfl⟩ := iO.fields [161, 50] Tryz.underlying163 (by kernel_rfl) (by kernel_rfl) h hw
 obtain ⟨p0, ps0, rfl, ⟨f0, d0, h0, w0⟩, r1⟩ := r0.cons
 obtain ⟨x0, s0, rfl, k0, q0⟩ := Cs W H enc f0 p0 d0 h0 w0
 obtain ⟨p1, ps1, rfl, ⟨f1, d1, h1, w1⟩, r2⟩ := r1.cons
 obtain ⟨x1, s1, rfl, k1, q1⟩ := ue W H enc f1 p1 d1 h1 w1
 obtain rfl := r2.nil
 exact ⟨⟨x0, x1⟩, (), rfl, trivial, q0, q1⟩
def Ep (xs : (List aj)) : Prop := (∀ x ∈ xs, Bt x) ∧ xs.length * 24 ≤ 140737488351232
theorem Ec (W : World) : iO Tryz.prog W 58 (fun (xs : (List aj)) s => [ae s xs.length]) (fun (xs : (List aj)) s => Row 3 (pl aj.enc) aA s xs) Ep := iO.slice (aj.mk (bA.mk 0 0) 0) () (by kernel_rfl) (by kernel_rfl) (by decide) (fun _ _ => rfl) (by kernel_rfl : _ = 24) (Cr W)
def Eo (x : ah) : Prop := AF x.aK ∧ AF x.bx ∧ xu x.Ip ∧ Ew x.aX ∧ Eu x.bt ∧ Et x.bz ∧ Es x.aO ∧ uv x.cj ∧ Er x.cm ∧ Ep x.a7 ∧ uv x.cT ∧ EG x.bu
theorem Eb (W : World) : iO Tryz.prog W 60 ah.au ah.aN Eo := fun H enc fuel cs d h hw => by
 obtain ⟨ps, r0, rfl⟩ := iO.fields [49, 49, 50, 51, 52, 54, 56, 3, 57, 58, 3, 4] Tryz.underlying60 (by kernel_rfl) (by kernel_rfl) h hw
 obtain ⟨p0, ps0, rfl, ⟨f0, d0, h0, w0⟩, r1⟩ := r0.cons
 obtain ⟨x0, s0, rfl, k0, q0⟩ := y6 W H enc f0 p0 d0 h0 w0
 obtain ⟨p1, ps1, rfl, ⟨f1, d1, h1, w1⟩, r2⟩ := r1.cons
 obtain ⟨x1, s1, rfl, k1, q1⟩ := y6 W H enc f1 p1 d1 h1 w1
 obtain ⟨p2, ps2, rfl, ⟨f2, d2, h2, w2⟩, r3⟩ := r2.cons
 obtain ⟨x2, s2, rfl, k2, q2⟩ := ue W H enc f2 p2 d2 h2 w2
 obtain ⟨p3, ps3, rfl, ⟨f3, d3, h3, w3⟩, r4⟩ := r3.cons
 obtain ⟨x3, s3, rfl, k3, q3⟩ := Eh W H enc f3 p3 d3 h3 w3
 obtain ⟨p4, ps4, rfl, ⟨f4, d4, h4, w4⟩, r5⟩ := r4.cons
 obtain ⟨x4, s4, rfl, k4, q4⟩ := Eg W H enc f4 p4 d4 h4 w4
 obtain ⟨p5, ps5, rfl, ⟨f5, d5, h5, w5⟩, r6⟩ := r5.cons
 obtain ⟨x5, s5, rfl, k5, q5⟩ := Ef W H enc f5 p5 d5 h5 w5
 obtain ⟨p6, ps6, rfl, ⟨f6, d6, h6, w6⟩, r7⟩ := r6.cons
 obtain ⟨x6, s6, rfl, k6, q6⟩ := Ee W H enc f6 p6 d6 h6 w6
 obtain ⟨p7, ps7, rfl, ⟨f7, d7, h7, w7⟩, r8⟩ := r7.cons
 obtain ⟨x7, s7, rfl, k7, q7⟩ := lZ W H enc f7 p7 d7 h7 w7
 obtain ⟨p8, ps8, rfl, ⟨f8, d8, h8, w8⟩, r9⟩ := r8.cons
 obtain ⟨x8, s8, rfl, k8, q8⟩ := Ed W H enc f8 p8 d8 h8 w8
 obtain ⟨p9, ps9, rfl, ⟨f9, d9, h9, w9⟩, r10⟩ := r9.cons
 obtain ⟨x9, s9, rfl, k9, q9⟩ := Ec W H enc f9 p9 d9 h9 w9
 obtain ⟨p10, ps10, rfl, ⟨f10, d10, h10, w10⟩, r11⟩ := r10.cons
 obtain ⟨x10, s10, rfl, k10, q10⟩ := lZ W H enc f10 p10 d10 h10 w10
 obtain ⟨p11, ps11, rfl, ⟨f11, d11, h11, w11⟩, r12⟩ := r11.cons
 obtain ⟨x11, s11, rfl, k11, q11⟩ := Cq W H enc f11 p11 d11 h11 w11
 obtain rfl := r12.nil
 exact ⟨⟨x0, x1, x2, x3, x4, x5, x6, x7, x8, x9, x10, x11⟩, (s3, s4, s8, s9), rfl, ⟨k3, k4, k8, k9⟩, q0, q1, q2, q3, q4, q5, q6, q7, q8, q9, q10, q11⟩
theorem EK : Up ah.aN := fun x s w w' h k => ⟨(Up.row C0) x.aX s.1 w w' h k.1, (Up.row Up.no) x.bt s.2.1 w w' h k.2.1, (Up.row CZ) x.cm s.2.2.1 w w' h k.2.2.1, (Up.row Up.no) x.a7 s.2.2.2 w w' h k.2.2.2⟩
def Ey (xs : (List ah)) : Prop := (∀ x ∈ xs, Eo x) ∧ xs.length * 232 ≤ 140737488351232
theorem Ei (W : World) : iO Tryz.prog W 22 (fun (xs : (List ah)) s => [ae s xs.length]) (fun (xs : (List ah)) s => Row 21 ah.au ah.aN s xs) Ey := iO.slice (ah.mk 0 0 0 ([] : List aa) ([] : List Bool) (ba.mk 0 0 0 0) (bj.mk 0 0 0 0 0 0 0) 0 ([] : List ag) ([] : List aj) 0 false) ((av.nil (fun _ => (av.nil (fun _ => ())))), (av.nil (fun _ => ())), (av.nil (fun _ => (av.nil (fun _ => ())))), (av.nil (fun _ => ()))) (by kernel_rfl) (by kernel_rfl) (by decide) (fun _ _ => rfl) (by kernel_rfl : _ = 232) (Eb W)
theorem aW {α : Type} {xs : List α} {i : Nat} (h : i < xs.length) : cI xs.length xs (i : Int) = some xs[i] := by
 unfold cI
 rw [if_pos (by omega), Int.toNat_natCast, List.getElem?_eq_getElem h]
theorem dz {i n : Nat} (h : i < n) : decide ((i : Int) < (n : Int)) = true := by simp; omega
theorem dO {i n : Nat} (h : n ≤ i) : decide ((i : Int) < (n : Int)) = false := by simp; omega
theorem aU {i : Nat} (h : i ≤ 1000000) : i64 ((i : Int) + 1) = ((i + 1 : Nat) : Int) := by rw [lA (by omega)]; omega
theorem cO {b n : Nat} (h : n * b ≤ 140737488355328) (h2 : n ≤ 4611686018427387904) : ey b n = some () := if_pos ⟨h, h2⟩
theorem pt (n : Nat) (m : Nat) : ∃ k : Nat, gL (n : Int) (m : Int) = k ∧ k ≤ n ∧ k ≤ m := by
 by_cases h : n ≤ m
 ·exact ⟨n, by unfold gL; split <;> omega, Nat.le_refl _, h⟩
 ·exact ⟨m, by unfold gL; split <;> omega, by omega, Nat.le_refl _⟩
theorem jn {α : Type} {l : List α} {m : Nat} (h : m ≤ l.length) : gK l 0 (m : Int) = some (l.take m) := by
 unfold gK
 rw [if_pos (by omega)]
 simp
theorem tR {σ α : Type} {P : α → Prop} (len : Nat) (I : Nat → σ → Prop) (f : Nat → σ → Nat → Option α) (hend : ∀ n st, I len st → ∃ r, f (n + 1) st len = some r ∧ P r)
  (hstep : ∀ n i st, i < len → I i st → (∀ st', I (i + 1) st' → ∃ r, f n st' (i + 1) = some r ∧ P r) → ∃ r, f (n + 1) st i = some r ∧ P r) : ∀ (j i fuel : Nat) (st : σ), i + j = len → j < fuel → I i st → ∃ r, f fuel st i = some r ∧ P r
 | _, _, 0, _, _, h, _ => by omega
 | 0, i, fuel + 1, st, e, _, hI => by
  obtain rfl : i = len := by omega
  exact hend fuel st hI
 | j + 1, i, fuel + 1, st, e, h, hI => hstep fuel i st (by omega) hI fun st' h' => tR len I f hend hstep j (i + 1) fuel st' (by omega) (by omega) h'
theorem cq {σ α : Type} {P : α → Prop} (len : Nat) (I : Nat → σ → Prop) (f : Nat → σ → Nat → Option α) (hend : ∀ n st, I len st → ∃ r, f (n + 1) st len = some r ∧ P r)
  (hstep : ∀ n i st, i < len → I i st → (∀ st', I (i + 1) st' → ∃ r, f n st' (i + 1) = some r ∧ P r) → ∃ r, f (n + 1) st i = some r ∧ P r) {fuel : Nat} (st : σ) (h : len < fuel) (hI : I 0 st) : ∃ r, f fuel st 0 = some r ∧ P r :=
 tR len I f hend hstep len 0 fuel st (by omega) h hI
theorem sQ (l : List ag) (h0 : ∀ s ∈ l, ∀ p ∈ s.aD, (0 : Int) ≤ p) : ∃ r, bJ.f 2000 l = some r ∧ r.length ≤ 12 ∧ ∀ s ∈ r, s.aD.length ≤ 20 ∧ ∀ p ∈ s.aD, (0 : Int) ≤ p := by
 unfold bJ.f
 refine cq (P := fun r => r.length ≤ 12 ∧ ∀ s ∈ r, s.aD.length ≤ 20 ∧ ∀ p ∈ s.aD, (0 : Int) ≤ p) 12 (fun i (out : List ag) => out.length = i ∧ ∀ s ∈ out, s.aD.length ≤ 20 ∧ ∀ p ∈ s.aD, (0 : Int) ≤ p) (fun n out i => bJ.l1 l n out (i : Int)) ?_ ?_ (fuel := 2000) [] (by omega) ⟨rfl, by simp⟩
 ·rintro n out ⟨ho, hp⟩
  simp only [bJ.l1]
  rw [show decide (((12 : Nat) : Int) < 12) = false by simp, Bool.and_false, cdF]
  exact ⟨out, rfl, by omega, hp⟩
 ·rintro n i out hi ⟨ho, hp⟩ hk
  simp only [bJ.l1]
  rw [show decide ((i : Int) < 12) = true by simp; omega, Bool.and_true]
  by_cases hlt : i < l.length
  ·rw [dz hlt, cdT, aW hlt, bS]
   have hpos := h0 _ (List.getElem_mem hlt)
   generalize l[i] = s at hpos ⊢
   obtain ⟨m, hm, hm1, hm2⟩ := pt s.aD.length 20
   rw [show gL (s.aD.length : Int) 20 = (m : Int) from hm, jn hm1, bS]
   have htl : (s.aD.take m).length ≤ 20 := by rw [List.length_take]; omega
   have hol : (out ++ [(⟨s.bd, s.bV, s.aD.take m⟩ : ag)]).length = i + 1 := by rw [List.length_append, ho]; rfl
   rw [cO (by omega) (by omega), bS, cO (by omega) (by omega), bS, aU (by omega)]
   refine hk _ ⟨hol, fun q hq => ?_⟩
   rw [List.mem_append, List.mem_singleton] at hq
   rcases hq with hq | rfl
   ·exact hp q hq
   ·exact ⟨htl, fun p hp => hpos p (List.mem_of_mem_take hp)⟩
  ·rw [dO (by omega), cdF]
   exact ⟨out, rfl, by omega, hp⟩
structure ji (g : ah) : Prop where
 mT : g.aX.length ≤ 5
 uA : ∀ p ∈ g.aX, p.cS.length ≤ 12
 Dz : g.bt.length ≤ 5
 wM : g.cm.length ≤ 12
 mU : ∀ s ∈ g.cm, s.aD.length ≤ 20
 pT : g.a7.length ≤ 8
 ED : ∀ x ∈ g.a7, 0 ≤ x.To.Ip ∧ x.To.Ip ≤ 4294967295
 ip : 0 ≤ g.Ip
 E3 : 0 ≤ g.aO.bx ∧ g.aO.bx ≤ 18446744073709551615
 pos : ∀ s ∈ g.cm, ∀ p ∈ s.aD, (0 : Int) ≤ p
structure Ez (g : ah) : Prop where
 ED : ∀ x ∈ g.a7, 0 ≤ x.To.Ip ∧ x.To.Ip ≤ 4294967295
 ip : 0 ≤ g.Ip
 E3 : 0 ≤ g.aO.bx ∧ g.aO.bx ≤ 18446744073709551615
 pos : ∀ s ∈ g.cm, ∀ p ∈ s.aD, (0 : Int) ≤ p
theorem sR (a : Bool) (b : Int) (l : List Int) : ∃ p, eJ.f a b l = some p ∧ p.cS.length ≤ 12 := by
 unfold eJ.f
 obtain ⟨m, hm, hm1, hm2⟩ := pt l.length 12
 rw [show gL (l.length : Int) 12 = (m : Int) from hm, jn hm1, bS]
 have htl : (l.take m).length ≤ 12 := by rw [List.length_take]; omega
 rw [cO (by omega) (by omega), bS]
 exact ⟨_, rfl, htl⟩
theorem yF (n m : Nat) : decide ((m : Int) < (n : Int)) = decide (m < n) := by
 by_cases h : m < n
 ·rw [decide_eq_true h]; exact dz h
 ·rw [decide_eq_false h]; exact dO (by omega)
theorem sP (g : ah) (h9 : Ez g) : ∃ r, bF.f 2000 g.aK g.bx g.Ip g.aX g.bt g.bz g.aO g.cj g.cm g.a7 g.cT g.bu = some r ∧ ji r := by
 unfold bF.f
 have hel : ∀ (ps : List aa) (n : Nat) (i : Int), ps.length ≤ 5 → (∀ p ∈ ps, p.cS.length ≤ 12) → ((decide (i < (g.aX.length : Int))) && (decide (i < 5))) = false → ∃ r, bF.l1 g.aX g.bt 2000 g.cm g.a7 g.aK g.bx g.Ip g.bz g.aO g.cj g.cT g.bu (n + 1) i ps = some r ∧ ji r := fun ps n i h1 h2 hc => by
  simp only [bF.l1]
  rw [hc, cdF]
  obtain ⟨m, hm, hm1, hm2⟩ := pt g.bt.length 5
  rw [show gL (g.bt.length : Int) 5 = (m : Int) from hm, jn hm1, bS]
  have htl : (g.bt.take m).length ≤ 5 := by rw [List.length_take]; omega
  rw [cO (by omega) (by omega), bS]
  obtain ⟨ss, hs, hs1, hs2⟩ := sQ g.cm h9.pos
  rw [hs, bS]
  obtain ⟨n, hn, hn1, hn2⟩ := pt g.a7.length 8
  rw [show gL (g.a7.length : Int) 8 = (n : Int) from hn, jn hn1, bS]
  have htn : (g.a7.take n).length ≤ 8 := by rw [List.length_take]; omega
  rw [cO (by omega) (by omega), bS]
  exact ⟨_, rfl, ⟨h1, h2, htl, hs1, fun s h => (hs2 s h).1, htn, fun x hx => h9.ED x (List.mem_of_mem_take hx), h9.ip, h9.E3, fun s h => (hs2 s h).2⟩⟩
 refine cq (P := ji) 5 (fun i (st : List aa) => st.length = i ∧ ∀ p ∈ st, p.cS.length ≤ 12) (fun n st i => bF.l1 g.aX g.bt 2000 g.cm g.a7 g.aK g.bx g.Ip g.bz g.aO g.cj g.cT g.bu n (i : Int) st) (fun n st hst => hel st n _ (by omega) hst.2 (by simp)) (fun n i st hi hst hk => ?_) (fuel := 2000) [] (by omega) ⟨rfl, by simp⟩
 by_cases hlt : i < g.aX.length
 ·simp only [bF.l1]
  rw [dz hlt, show decide ((i : Int) < 5) = true by simp; omega, Bool.and_true, cdT, aW hlt, bS]
  obtain ⟨q, hq, hv⟩ := sR g.aX[i].bT g.aX[i].cU g.aX[i].cS
  rw [hq, bS, cO (by simp; omega) (by simp; omega), bS, aU (by omega)]
  refine hk _ ⟨by simp [hst.1], fun p hp => ?_⟩
  rcases List.mem_append.1 hp with hp | hp
  ·exact hst.2 p hp
  ·rw [List.mem_singleton] at hp; subst hp; exact hv
 ·exact hel st n _ (by omega) hst.2 (by rw [dO (by omega)]; rfl)
def nD (l : List ah) : Prop := l.length ≤ 3 ∧ ∀ g ∈ l, ji g
def Bz (l : List ah) : Prop := ∀ g ∈ l, Ez g
theorem sO (l : List ah) (h9 : Bz l) : ∃ r, bq.f 2000 l = some r ∧ nD r := by
 unfold bq.f
 refine cq (P := nD) 3 (fun i (out : List ah) => out.length = i ∧ ∀ s ∈ out, ji s) (fun n out i => bq.l1 l 2000 n out (i : Int)) ?_ ?_ (fuel := 2000) [] (by omega) ⟨rfl, by simp⟩
 ·rintro n out ⟨ho, hp⟩
  simp only [bq.l1]
  rw [show decide (((3 : Nat) : Int) < 3) = false by simp, Bool.and_false, cdF]
  exact ⟨out, rfl, by omega, hp⟩
 ·rintro n i out hi ⟨ho, hp⟩ hk
  simp only [bq.l1]
  rw [show decide ((i : Int) < 3) = true by simp; omega, Bool.and_true]
  by_cases hlt : i < l.length
  ·rw [dz hlt, cdT, aW hlt, bS]
   obtain ⟨r, hr, hr2⟩ := sP l[i] (h9 _ (List.getElem_mem hlt))
   rw [hr, bS]
   have hol : (out ++ [r]).length = i + 1 := by rw [List.length_append, ho]; rfl
   rw [cO (by omega) (by omega), bS, aU (by omega)]
   refine hk _ ⟨hol, fun q hq => ?_⟩
   rw [List.mem_append, List.mem_singleton] at hq
   rcases hq with hq | rfl
   ·exact hp q hq
   ·exact hr2
  ·rw [dO (by omega), cdF]
   exact ⟨out, rfl, by omega, hp⟩
theorem oy (l : List Int) (a : Int) (h : l.length ≤ 1000) : bI.f 2000 l a = some (decide (a ∈ l)) := by
 unfold bI.f
 have key : ∀ (r pre : List Int) (fuel : Nat), l = pre ++ r → r.length < fuel → bI.l1 l a fuel false (pre.length : Int) = some (decide (a ∈ r)) := by
  intro r
  induction r with
  | nil =>
   intro pre fuel e hf
   obtain ⟨fuel, rfl⟩ : ∃ q, fuel = q + 1 := ⟨fuel - 1, by omega⟩
   subst e
   simp [bI.l1]
  | cons x r ih =>
   intro pre fuel e hf
   obtain ⟨fuel, rfl⟩ : ∃ q, fuel = q + 1 := ⟨fuel - 1, by omega⟩
   have hlen : l.length = pre.length + (r.length + 1) := by rw [e]; simp
   simp only [bI.l1]
   rw [dz (by omega), cdT, aW (by omega), bS]
   have hx : l[pre.length]'(by omega) = x := by simp [e]
   rw [hx]
   cases hv : (x == a)
   ·rw [cdF, aU (by omega)]
    have := ih (pre ++ [x]) fuel (by rw [e]; simp) (by simp at hf; omega)
    rw [List.length_append, List.length_singleton] at this
    rw [this]
    have : a ≠ x := fun e => by simp [e] at hv
    simp [this]
   ·rw [cdT]
    have : x = a := by simpa using hv
    simp [this]
 exact key l [] 2000 rfl (by omega)
theorem oE (a : Bool) (b : Int) (l : List Int) (h : l.length ≤ 100) : ∃ r, ay.f 2000 a b l = some r := by
 unfold ay.f
 cases a
 ·exact ⟨_, rfl⟩
 ·simp only [Bool.not_true, cdF]
  obtain ⟨r, hr, _⟩ := cq (P := fun _ => True) l.length (fun i (st : Int) => True) (fun n st i => ay.l2 l b 2000 n false st (i : Int)) (fun n st _ => by
   simp only [ay.l2]
   rw [dO (Nat.le_refl _), cdF]
   cases (b == 0)
   ·rw [cdF, oy l b (by omega), bS]; exact ⟨_, rfl, trivial⟩
   ·exact ⟨_, rfl, trivial⟩) (fun n i st hi _ hk => by
   have hk1 : ∀ a b', ∃ r, ay.k1 l (i : Int) false (ay.l2 l b 2000 n) a b' = some r ∧ True := fun a b' => by
    simp only [ay.k1]
    cases b'
    ·rw [cdF, aW hi, bS, aU (by omega)]
     exact hk _ trivial
    ·exact ⟨_, rfl, trivial⟩
   simp only [ay.l2]
   rw [dz hi, cdT, aW hi, bS, bS]
   cases decide (l[i] ≤ st)
   ·rw [cdF]; exact hk1 _ _
   ·rw [cdT]; exact hk1 _ _) (fuel := 2000) 0 (by omega) trivial
  exact ⟨r, hr⟩
theorem rB (a b : Int) : ∃ r, eC.f a b = some r := by
 unfold eC.f
 cases (((decide (a < 1)) || (decide (a > 4096))) || (decide (b < 1))) || (decide (b > 1099511627776)) <;> exact ⟨_, rfl⟩
theorem nZ (a b : Int) : ∃ r, eB.f a b = some r := by
 unfold eB.f
 cases (((decide (a < 1)) || (decide (a > 4096))) || (decide (b < 1))) || (decide (b > 1099511627776)) <;> exact ⟨_, rfl⟩
theorem rA (a : ba) : ∃ r, dJ.f a = some r := by
 unfold dJ.f
 obtain ⟨r, hr⟩ := rB a.Room a.aY
 rw [hr, bS]
 cases (((((r != 0) || (decide (a.a8 < 0))) || (decide (a.a8 > 64))) || (decide (a.aR < 1))) || (decide (a.aR > 1099511627776))) <;> exact ⟨_, rfl⟩
theorem zQ (a : Int) : ∃ r, bM.f a = some r := by
 unfold bM.f
 cases ((decide (a > 0)) && (decide (a < 281474976710656))) <;> exact ⟨_, rfl⟩
theorem nY (a : bj) : ∃ r, aF.f a = some r := by
 unfold aF.f
 obtain ⟨r, hr⟩ := rB a.Room a.aY
 have h1 : ∀ b, ∃ r, aF.k1 b = some r := fun b => by cases b <;> exact ⟨_, rfl⟩
 have h2 : ∀ b, ∃ r, aF.k2 a b = some r := fun b => by
  unfold aF.k2 dq.f
  cases b
  ·rw [cdF, bS]; exact h1 _
  ·rw [cdT]; exact h1 _
 have h3 : ∀ b, ∃ r, aF.k3 a b = some r := fun b => by
  unfold aF.k3 dq.f
  cases b
  ·rw [cdF, bS]; exact h2 _
  ·rw [cdT]; exact h2 _
 have h4 : ∀ b, ∃ r, aF.k4 a b = some r := fun b => by
  unfold aF.k4 dq.f
  cases (b || (a.Ip == 0))
  ·rw [cdF, bS]; exact h3 _
  ·rw [cdT]; exact h3 _
 rw [hr, bS]
 obtain ⟨q, hq⟩ := zQ a.bx
 cases (r != 0)
 ·rw [cdF, hq, bS]; exact h4 _
 ·rw [cdT]; exact h4 _
theorem ry (l : List aa) (a : ba) (h : l.length ≤ 5) (hv : ∀ p ∈ l, p.cS.length ≤ 12) : ∃ r, aV.f 2000 l a = some r := by
 unfold aV.f
 rw [show decide ((l.length : Int) > 64) = false by simp; omega, cdF]
 obtain ⟨r, hr, _⟩ := cq (P := fun _ => True) l.length (fun i (st : Unit) => True) (fun n st i => aV.l1 l 2000 a n 0 (i : Int)) (fun n st _ => by
   simp only [aV.l1]
   rw [dO (Nat.le_refl _), cdF]
   obtain ⟨r, hr⟩ := rA a
   rw [hr, bS]
   cases (r != 0)
   ·rw [cdF, cO (by omega) (by omega), bS]
    have : jW 8 (l.length : Int) = some l.length := by unfold jW; rw [if_pos (by omega)]; simp
    rw [this]; exact ⟨_, rfl, trivial⟩
   ·exact ⟨_, rfl, trivial⟩) (fun n i st hi _ hk => by
   simp only [aV.l1]
   rw [dz hi, cdT, aW hi, bS]
   obtain ⟨r, hr⟩ := oE l[i].bT l[i].cU l[i].cS (by have := hv l[i] (List.getElem_mem hi); omega)
   rw [hr, bS, aU (by omega)]
   cases r
   ·exact ⟨_, rfl, trivial⟩
   ·exact hk () trivial) (fuel := 2000) () (by omega) trivial
 exact ⟨r, hr⟩
theorem rz (a : Int) (l : List Int) (e : List Bool) (h : l.length ≤ 5) : ∃ r, aM.f 2000 a l e = some r := by
 unfold aM.f
 by_cases he : l.length = e.length
 ·rw [show ((l.length : Int) != (e.length : Int)) = false by simp; omega, Bool.or_false, show decide ((l.length : Int) > 64) = false by simp; omega, cdF]
  obtain ⟨r, hr, _⟩ := cq (P := fun _ => True) l.length (fun i (st : List an) => st.length = i) (fun n st i => aM.l3 l e a n 0 (i : Int) st) (fun n st _ => by
    simp only [aM.l3]
    rw [dO (Nat.le_refl _), cdF]
    exact ⟨_, rfl, trivial⟩) (fun n i st hi hst hk => by
    have hk2 : ∀ a' b', ∃ r, aM.k2 e (i : Int) l st 0 (aM.l3 l e a n) a' b' = some r ∧ True := fun a' b' => by
     simp only [aM.k2]
     cases b'
     ·rw [cdF, aW (by omega), bS, aW hi, bS, cO (by simp; omega) (by simp; omega), bS, aU (by omega)]
      exact hk _ (by simp [hst])
     ·exact ⟨_, rfl, trivial⟩
    simp only [aM.l3]
    rw [dz hi, cdT, aW hi, bS, bS]
    cases decide (l[i] < 1)
    ·rw [cdF]; exact hk2 _ _
    ·rw [cdT]; exact hk2 _ _) (fuel := 2000) [] (by omega) rfl
  exact ⟨r, hr⟩
 ·rw [show ((l.length : Int) != (e.length : Int)) = true by simp; omega, Bool.or_true, cdT]
  exact ⟨_, rfl⟩
theorem uM (n : bA) (h : 0 ≤ n.cL ∧ n.cL ≤ 32) : ∃ r, bY.f 2000 n = some r ∧ r ≠ 0 := by
 unfold bY.f
 obtain ⟨b, hb⟩ : ∃ b : Nat, n.cL = b := ⟨n.cL.toNat, by omega⟩
 rw [hb]
 have key : ∀ (j b fuel x : Nat), b + j = 32 → j < fuel → 0 < x → x ≤ 2 ^ b → ∃ r, bY.l1 fuel (x : Int) (b : Int) = some r ∧ r ≠ 0 := by
  intro j
  induction j with
  | zero =>
   intro b fuel x e hf h0 h1
   obtain ⟨fuel, rfl⟩ : ∃ q, fuel = q + 1 := ⟨fuel - 1, by omega⟩
   obtain rfl : b = 32 := by omega
   exact ⟨x, rfl, by omega⟩
  | succ j ih =>
   intro b fuel x e hf h0 h1
   obtain ⟨fuel, rfl⟩ : ∃ q, fuel = q + 1 := ⟨fuel - 1, by omega⟩
   simp only [bY.l1]
   have hp : (2 : Nat) ^ b ≤ 2 ^ 32 := Nat.pow_le_pow_right (by omega) (by omega)
   rw [show decide ((b : Int) < 32) = true by simp; omega, cdT, aU (by omega), pz (n := 2 * (x : Int)) (by omega)]
   have := ih (b + 1) fuel (2 * x) (by omega) (by omega) (by omega) (by rw [Nat.pow_succ]; omega)
   simpa using this
 exact key (32 - b) b 2000 1 (by omega) (by omega) (by omega) (Nat.one_le_two_pow)
theorem n0 (n : bA) : ∃ r, bl.f 2000 n = some r := by
 unfold bl.f
 by_cases h : 0 ≤ n.cL ∧ n.cL ≤ 32
 ·rw [show ((decide (n.cL ≥ 0)) && (decide (n.cL ≤ 32))) = true by simp; exact h, cdT]
  obtain ⟨r, hr, h0⟩ := uM n h
  rw [hr, bS]
  unfold o3
  rw [if_neg h0]
  exact ⟨_, rfl⟩
 ·rw [show ((decide (n.cL ≥ 0)) && (decide (n.cL ≤ 32))) = false by simp; omega, cdF]
  exact ⟨_, rfl⟩
theorem oG (l : List aj) (n : bA) (h : l.length ≤ 100) : ∃ r, bc.f 2000 l n = some r ∧ (r = -1 ∨ (0 ≤ r ∧ r < l.length)) := by
 unfold bc.f
 refine cq (P := fun r : Int => r = -1 ∨ (0 ≤ r ∧ r < l.length)) l.length (fun i (st : Unit) => True) (fun k st i => bc.l1 l n k 0 (i : Int)) (fun k st _ => ?_) (fun k i st hi _ hk => ?_) (fuel := 2000) () (by omega) trivial
 ·simp only [bc.l1]
  rw [dO (Nat.le_refl _), cdF]
  exact ⟨_, rfl, .inl rfl⟩
 ·simp only [bc.l1]
  rw [dz hi, cdT, aW hi, bS, aU (by omega)]
  cases ((l[i].To.Ip == n.Ip) && ((l[i].To.cL == n.cL) && true))
  ·exact hk () trivial
  ·exact ⟨_, rfl, .inr (by omega)⟩
theorem wV (l : List aj) (a : aj) (h : l.length ≤ 100) : ∃ c r, cn.f 2000 l a = some (c, r) ∧ r.length ≤ l.length + 1 := by
 unfold cn.f
 obtain ⟨q, hq⟩ := n0 a.To
 rw [hq, bS]
 cases q
 ·exact ⟨_, _, rfl, by omega⟩
 ·simp only [Bool.not_true, cdF]
  obtain ⟨p, hp, h1⟩ := oG l a.To h
  rw [hp, bS]
  rcases h1 with rfl | h1
  ·rw [show decide ((-1 : Int) ≥ 0) = false by decide, cdF, show decide ((l.length : Int) ≥ 256) = false by simp; omega, cdF, cO (by simp; omega) (by simp; omega), bS]
   exact ⟨_, _, rfl, by simp⟩
  ·obtain ⟨i, rfl⟩ : ∃ i : Nat, p = i := ⟨p.toNat, by omega⟩
   rw [show decide ((i : Int) ≥ 0) = true by simp, cdT, aW (by omega), bS]
   exact ⟨_, _, rfl, by simp⟩
theorem te (l : List aj) (h : l.length ≤ 8) : ∃ r, a6.f 2000 l = some r := by
 unfold a6.f
 obtain ⟨r, hr, _⟩ := cq (P := fun _ => True) l.length (fun i (st : List aj) => st.length ≤ i) (fun n st i => a6.l1 l 2000 n false (i : Int) st) (fun n st _ => by
   simp only [a6.l1]
   rw [dO (Nat.le_refl _), cdF]
   exact ⟨_, rfl, trivial⟩) (fun n i st hi hst hk => by
   simp only [a6.l1]
   rw [dz hi, cdT, aW hi, bS]
   obtain ⟨c, r, hr, hl⟩ := wV st l[i] (by omega)
   rw [hr, bS, aU (by omega)]
   cases (c != 0)
   ·exact hk r (by omega)
   ·exact ⟨_, rfl, trivial⟩) (fuel := 2000) [] (by omega) (by simp)
 exact ⟨r, hr⟩
theorem wZ (l : List Int) (a : Int) (h : l.length ≤ 100) : ∃ r, aL.f 2000 l a = some r := by
 unfold aL.f
 obtain ⟨r, hr, _⟩ := cq (P := fun _ => True) l.length (fun i (st : Nat) => st ≤ i) (fun n st i => aL.l2 l a n (st : Int) (i : Int)) (fun n st _ => by
   simp only [aL.l2]
   rw [dO (Nat.le_refl _), cdF]
   exact ⟨_, rfl, trivial⟩) (fun n i st hi hst hk => by
   simp only [aL.l2, aL.k1]
   rw [dz hi, cdT, aW hi, bS, aU (i := i) (by omega), aU (i := st) (by omega)]
   cases (l[i] == a)
   ·rw [cdF]; exact hk _ (by omega)
   ·rw [cdT]; exact hk _ (by omega)) (fuel := 2000) 0 (by omega) (by simp)
 exact ⟨r, hr⟩
theorem vd (t : ag) (a x9 : Int) (rec : Bool → Int → Option Int) (hrec : ∀ b, ∃ r, rec b (i64 (x9 + 1)) = some r) (h : t.aD.length ≤ 20) (b : Bool) : ∃ r, ab.l8 t 2000 a x9 rec 2000 b 0 = some r := by
 obtain ⟨r, hr, _⟩ := cq (P := fun _ => True) t.aD.length (fun i (st : Bool) => True) (fun n st i => ab.l8 t 2000 a x9 rec n st (i : Int)) (fun n st _ => by
   simp only [ab.l8]
   rw [dO (Nat.le_refl _), cdF]
   obtain ⟨r, hr⟩ := hrec st
   exact ⟨r, hr, trivial⟩) (fun n i st hi _ hk => by
   have h5 : ∀ c d, ∃ r, ab.k5 (i : Int) (ab.l8 t 2000 a x9 rec n) c d = some r ∧ True := fun c d => by
    unfold ab.k5
    rw [aU (by omega)]; exact hk _ trivial
   have h6 : ∀ c d, ∃ r, ab.k6 t (i : Int) 2000 (ab.l8 t 2000 a x9 rec n) c d = some r ∧ True := fun c d => by
    unfold ab.k6
    cases d
    ·rw [cdF]; exact h5 _ _
    ·obtain ⟨q, hq⟩ := wZ t.aD t.aD[i] (by omega)
     rw [cdT, aW hi, bS, hq, bS]; exact h5 _ _
   have h7 : ∀ c d, ∃ r, ab.k7 t (i : Int) 2000 a (ab.l8 t 2000 a x9 rec n) c d = some r ∧ True := fun c d => by
    unfold ab.k7
    cases d
    ·rw [cdF]; exact h6 _ _
    ·rw [cdT, aW hi, bS]; exact h6 _ _
   simp only [ab.l8]
   rw [dz hi, cdT]
   cases st
   ·rw [cdF]; exact h7 _ _
   ·rw [cdT, aW hi, bS]; exact h7 _ _) (fuel := 2000) b (by omega) trivial
 exact ⟨r, hr⟩
theorem ve (i9 : Nat) (l : List ag) (h9 : i9 < l.length) (hl : l.length ≤ 12) (t : ag) (a : Int) (rec : Bool → Int → Option Int) (hrec : ∀ b, ∃ r, rec b (i64 ((i9 : Int) + 1)) = some r) (h : t.aD.length ≤ 20) (b : Bool) : ∃ r, ab.l4 (i9 : Int) l t 2000 a rec 2000 b 0 = some r := by
 obtain ⟨r, hr, _⟩ := cq (P := fun _ => True) i9 (fun i (st : Bool) => True) (fun n st i => ab.l4 (i9 : Int) l t 2000 a rec n st (i : Int)) (fun n st _ => by
   simp only [ab.l4]
   rw [dO (Nat.le_refl _), cdF]
   obtain ⟨r, hr⟩ := vd t a i9 rec hrec h st
   exact ⟨r, hr, trivial⟩) (fun n i st hi _ hk => by
   have h2 : ∀ c d, ∃ r, ab.k2 (i : Int) (ab.l4 (i9 : Int) l t 2000 a rec n) c d = some r ∧ True := fun c d => by
    unfold ab.k2
    rw [aU (by omega)]; exact hk _ trivial
   have h3 : ∀ c d, ∃ r, ab.k3 l (i : Int) t (ab.l4 (i9 : Int) l t 2000 a rec n) c d = some r ∧ True := fun c d => by
    unfold ab.k3
    cases d
    ·rw [cdF]; exact h2 _ _
    ·rw [cdT, aW (by omega), bS]; exact h2 _ _
   simp only [ab.l4]
   rw [dz hi, cdT]
   cases st
   ·rw [cdF]; exact h3 _ _
   ·rw [cdT, aW (by omega), bS]; exact h3 _ _) (fuel := 2000) b (by omega) trivial
 exact ⟨r, hr⟩
theorem oQ (a : Int) (l : List ag) (hl : l.length ≤ 12) (hp : ∀ s ∈ l, s.aD.length ≤ 20) : ∃ r, ab.f 2000 a l = some r := by
 unfold ab.f
 have h9 : ∀ b, ∃ r, ab.l9 l 2000 a 2000 b 0 = some r := fun b => by
  obtain ⟨r, hr, _⟩ := cq (P := fun _ => True) l.length (fun i (st : Bool) => True) (fun n st i => ab.l9 l 2000 a n st (i : Int)) (fun n st _ => by
    simp only [ab.l9]
    rw [dO (Nat.le_refl _), cdF]
    cases st <;> exact ⟨_, rfl, trivial⟩) (fun n i st hi _ hk => by
    simp only [ab.l9]
    rw [dz hi, cdT, aW hi, bS]
    obtain ⟨r, hr⟩ := ve i l hi hl l[i] a (ab.l9 l 2000 a n) (fun b => by
     rw [aU (by omega)]
     obtain ⟨r, hr, _⟩ := hk b trivial
     exact ⟨r, hr⟩) (hp _ (List.getElem_mem hi)) ((((st && (decide (l[i].bd > 0))) && (decide (l[i].bd < 4095))) && (decide (l[i].bV ≥ 0))) && (decide (l[i].bV < 16777216)))
    exact ⟨r, hr, trivial⟩) (fuel := 2000) b (by omega) trivial
  exact ⟨r, hr⟩
 obtain ⟨r, hr, _⟩ := cq (P := fun _ => True) l.length (fun i (st : Unit) => True) (fun n st i => ab.l1 l 2000 a n 0 (i : Int)) (fun n st _ => by
   simp only [ab.l1]
   rw [dO (Nat.le_refl _), cdF, show decide ((l.length : Int) > 256) = false by simp; omega, cdF]
   obtain ⟨r, hr⟩ := h9 (decide (a > 0))
   exact ⟨r, hr, trivial⟩) (fun n i st hi _ hk => by
   simp only [ab.l1]
   rw [dz hi, cdT, aW hi, bS, aU (by omega)]
   cases decide ((l[i].aD.length : Int) > 16)
   ·rw [cdF]; exact hk () trivial
   ·exact ⟨_, rfl, trivial⟩) (fuel := 2000) () (by omega) trivial
 exact ⟨r, hr⟩
theorem rv (g : ah) (h : ji g) : ∃ r, aB.f 2000 g.aK g.bx g.Ip g.aX g.bt g.bz g.aO g.cj g.cm g.a7 g.cT g.bu = some r := by
 unfold aB.f
 have hk2 : ∀ b, ∃ r, aB.k2 g.aO g.bx g.Ip g.aK g.cT b = some r := fun b => by
  unfold aB.k2
  cases ((((((!b) || (g.aO.bx != g.bx)) || (g.aO.Ip != g.Ip)) || (g.aK == 0)) || (decide (g.cT < 68))) || (decide (g.cT > 65535))) <;> exact ⟨_, rfl⟩
 obtain ⟨r, hr, _⟩ := cq (P := fun _ => True) g.aX.length (fun i (st : List Int) => st.length = i) (fun n st i => aB.l1 g.aX 2000 g.bz g.aK g.bt g.cj g.aO g.a7 g.Ip g.cm g.bx g.cT n st (i : Int)) (fun n st hst => by
   simp only [aB.l1]
   have := h.mT
   obtain ⟨r1, e1⟩ := ry g.aX g.bz h.mT h.uA
   obtain ⟨⟨r2, r2'⟩, e2⟩ := rz g.aK st g.bt (by omega)
   obtain ⟨r3, e3⟩ := nZ g.bz.Room g.cj
   obtain ⟨r4, e4⟩ := nY g.aO
   obtain ⟨r5, e5⟩ := te g.a7 h.pT
   obtain ⟨r6, e6⟩ := oQ g.Ip g.cm h.wM h.mU
   rw [dO (Nat.le_refl _), cdF, e1, bS, e2, bS, e3, bS, e4, bS, e5, bS, e6]
   simp only [bS]
   cases (((((r1 == 0) && (r2' == 0)) && (r3 == 0)) && (r4 == 0)) && r5)
   ·rw [cdF]; obtain ⟨r, hr⟩ := hk2 false; exact ⟨r, hr, trivial⟩
   ·rw [cdT]; obtain ⟨r, hr⟩ := hk2 (r6 == 0); exact ⟨r, hr, trivial⟩) (fun n i st hi hst hk => by
   simp only [aB.l1]
   have := h.mT
   rw [dz hi, cdT, cO (by simp; omega) (by simp; omega), bS, aU (by omega)]
   exact hk _ (by simp [hst])) (fuel := 2000) [] (by have := h.mT; omega) rfl
 exact ⟨r, hr⟩
theorem qn (l : List Int) (a : Int) (h : l.length ≤ 1000) : dn.f 2000 l a = some (decide (a ∈ l)) := by
 unfold dn.f bG.f
 have key : ∀ (r pre : List Int) (fuel : Nat), l = pre ++ r → r.length < fuel → ∃ v, bG.l1 l a fuel 0 (pre.length : Int) = some v ∧ decide (v ≥ 0) = decide (a ∈ r) := by
  intro r
  induction r with
  | nil =>
   intro pre fuel e hf
   obtain ⟨fuel, rfl⟩ : ∃ q, fuel = q + 1 := ⟨fuel - 1, by omega⟩
   subst e
   exact ⟨-1, by simp [bG.l1], by simp⟩
  | cons x r ih =>
   intro pre fuel e hf
   obtain ⟨fuel, rfl⟩ : ∃ q, fuel = q + 1 := ⟨fuel - 1, by omega⟩
   have hlen : l.length = pre.length + (r.length + 1) := by rw [e]; simp
   simp only [bG.l1]
   rw [dz (by omega), cdT, aW (by omega), bS]
   have hx : l[pre.length]'(by omega) = x := by simp [e]
   rw [hx]
   cases hv : (a == x)
   ·rw [cdF, aU (by omega)]
    have := ih (pre ++ [x]) fuel (by rw [e]; simp) (by simp at hf; omega)
    rw [List.length_append, List.length_singleton] at this
    obtain ⟨v, h1, h2⟩ := this
    refine ⟨v, h1, h2.trans ?_⟩
    have : a ≠ x := fun e => by simp [e] at hv
    simp [this]
   ·rw [cdT]
    have : a = x := by simpa using hv
    exact ⟨_, rfl, by simp [this]⟩
 obtain ⟨v, h1, h2⟩ := key l [] 2000 rfl (by omega)
 rw [show (([] : List Int).length : Int) = 0 from rfl] at h1
 rw [h1, bS, h2]
def gG (m : aS Bool) (s : List Int) : Prop := m.es.map (fun e => (e.1, e.2.1)) = s.map fun k => (k, true)
theorem rD {k : Int} : ∀ {es : List (Int × Bool × Nat)} {s : List Int}, es.map (fun e => (e.1, e.2.1)) = s.map (fun k => (k, true)) → ((es.find? fun e => k == e.1).map (·.2.1)).getD false = decide (k ∈ s)
 | [], [], _ => by simp
 | [], x :: s, h => by simp at h
 | e :: es, [], h => by simp at h
 | e :: es, x :: s, h => by
  simp only [List.map_cons, List.cons.injEq, Prod.mk.injEq] at h
  obtain ⟨⟨h1, h2⟩, h3⟩ := h
  have ih := rD (k := k) h3
  rw [List.find?_cons]
  by_cases hk : k = x
  ·subst hk
   simp [h1, h2]
  ·have hb : (k == e.1) = false := by rw [h1]; simpa using hk
   rw [hb]
   simp only
   rw [ih]
   simp [hk]
theorem rC {k : Int} : ∀ {es : List (Int × Bool × Nat)} {s : List Int}, es.map (fun e => (e.1, e.2.1)) = s.map (fun k => (k, true)) → k ∉ s → lg k true es = none
 | [], _, _, _ => rfl
 | e :: es, [], h, _ => by simp at h
 | e :: es, x :: s, h, hk => by
  simp only [List.map_cons, List.cons.injEq, Prod.mk.injEq] at h
  obtain ⟨⟨h1, h2⟩, h3⟩ := h
  have hb : (k == e.1) = false := by rw [h1]; simp only [beq_eq_false_iff_ne]; intro he; exact hk (he ▸ List.mem_cons_self ..)
  unfold lg
  rw [hb, cdF, rC h3 (fun h => hk (List.mem_cons_of_mem _ h))]
  rfl
theorem gG.get {m : aS Bool} {s : List Int} (h : gG m s) (k : Int) : (m.get k).getD false = decide (k ∈ s) := rD h
theorem gG.set {m : aS Bool} {s : List Int} (h : gG m s) {k : Int} (hk : k ∉ s) : gG (m.set k true) (s ++ [k]) := by
 unfold aS.set
 rw [rC h hk]
 unfold gG
 simp only [List.map_append, List.map_cons, List.map_nil]
 rw [h]
theorem gG.len {m : aS Bool} {s : List Int} (h : gG m s) : m.len = s.length := by
 have := congrArg List.length h
 simp only [List.length_map] at this
 unfold aS.len
 rw [this]
theorem gG.nil : gG (aS.nil : aS Bool) [] := rfl
theorem th (l : List Int) (hl : l.length ≤ 1000) (h : l.Nodup) : bD.f 2000 l = some false := by
 unfold bD.f
 have key : ∀ (r pre : List Int) (fuel : Nat) (m : aS Bool), l = pre ++ r → r.length < fuel → gG m pre → bD.l1 l fuel false (pre.length : Int) m = some false := by
  intro r
  induction r with
  | nil =>
   intro pre fuel m e hf hm
   obtain ⟨fuel, rfl⟩ : ∃ q, fuel = q + 1 := ⟨fuel - 1, by omega⟩
   subst e
   simp only [bD.l1]
   rw [dO (by simp), cdF]
  | cons x r ih =>
   intro pre fuel m e hf hm
   obtain ⟨fuel, rfl⟩ : ∃ q, fuel = q + 1 := ⟨fuel - 1, by omega⟩
   have hlen : l.length = pre.length + (r.length + 1) := by rw [e]; simp
   simp only [bD.l1]
   have hx : l[pre.length]'(by omega) = x := by simp [e]
   have hn : x ∉ pre := fun hm => by
    rw [e, List.nodup_append] at h
    exact h.2.2 x hm x (List.mem_cons_self ..) rfl
   rw [dz (by omega), cdT, aW (by omega), bS, hx, hm.get, decide_eq_false hn, cdF, aU (by omega)]
   have := ih (pre ++ [x]) fuel (m.set x true) (by rw [e]; simp) (by simp at hf; omega) (hm.set hn)
   rw [List.length_append, List.length_singleton] at this
   exact this
 exact key l [] 2000 aS.nil rfl (by omega) gG.nil
theorem uD (l : List Int) (hl : l.length ≤ 1000) (h : l.Nodup) : bB.f 2000 l = some false := by
 unfold bB.f
 have key : ∀ (r pre : List Int) (fuel : Nat) (m : aS Bool), l = pre ++ r → r.length < fuel → gG m pre → bB.l1 l fuel false (pre.length : Int) m = some false := by
  intro r
  induction r with
  | nil =>
   intro pre fuel m e hf hm
   obtain ⟨fuel, rfl⟩ : ∃ q, fuel = q + 1 := ⟨fuel - 1, by omega⟩
   subst e
   simp only [bB.l1]
   rw [dO (by simp), cdF]
  | cons x r ih =>
   intro pre fuel m e hf hm
   obtain ⟨fuel, rfl⟩ : ∃ q, fuel = q + 1 := ⟨fuel - 1, by omega⟩
   have hlen : l.length = pre.length + (r.length + 1) := by rw [e]; simp
   simp only [bB.l1]
   have hx : l[pre.length]'(by omega) = x := by simp [e]
   have hn : x ∉ pre := fun hm => by
    rw [e, List.nodup_append] at h
    exact h.2.2 x hm x (List.mem_cons_self ..) rfl
   rw [dz (by omega), cdT, aW (by omega), bS, hx, hm.get, decide_eq_false hn, cdF, aU (by omega)]
   have := ih (pre ++ [x]) fuel (m.set x true) (by rw [e]; simp) (by simp at hf; omega) (hm.set hn)
   rw [List.length_append, List.length_singleton] at this
   exact this
 exact key l [] 2000 aS.nil rfl (by omega) gG.nil
theorem oP (g : ah) (hg : ji g) : bP.f 2000 g.aK g.bx g.Ip g.aX g.bt g.bz g.aO g.cj g.cm g.a7 g.cT g.bu = some g := by
 have h1 := hg.mT; have h2 := hg.Dz; have h3 := hg.wM; have h4 := hg.pT
 unfold bP.f gY.f ei.f
 rw [cO (by omega) (by omega), bS, bS, cO (by omega) (by omega), bS, bS]
 have l2 : ∃ r, bP.l2 g.cm g.aK g.bx g.Ip g.aX g.bt g.bz g.aO g.cj g.a7 g.cT g.bu 2000 0 g.cm = some r ∧ r = g := by
  refine cq (P := fun r => r = g) g.cm.length (fun i (st : List ag) => st = g.cm) (fun n st i => bP.l2 g.cm g.aK g.bx g.Ip g.aX g.bt g.bz g.aO g.cj g.a7 g.cT g.bu n (i : Int) st) ?_ ?_ (fuel := 2000) g.cm (by omega) rfl
  ·rintro n st rfl
   simp only [bP.l2]
   rw [dO (Nat.le_refl _), cdF]
   exact ⟨_, rfl, rfl⟩
  ·rintro n i st hi rfl hk
   have := hg.mU _ (List.getElem_mem hi)
   simp only [bP.l2]
   rw [dz hi, cdT, aW hi, bS]
   unfold du.f
   rw [cO (by omega) (by omega), bS, bS, bS, aU (by omega)]
   exact hk _ (by rw [Int.toNat_natCast]; exact List.set_getElem_self hi)
 have l1 : ∃ r, bP.l1 g.aX g.a7 g.cm 2000 g.aK g.bx g.Ip g.bt g.bz g.aO g.cj g.cT g.bu 2000 0 g.aX = some r ∧ r = g := by
  refine cq (P := fun r => r = g) g.aX.length (fun i (st : List aa) => st = g.aX) (fun n st i => bP.l1 g.aX g.a7 g.cm 2000 g.aK g.bx g.Ip g.bt g.bz g.aO g.cj g.cT g.bu n (i : Int) st) ?_ ?_ (fuel := 2000) g.aX (by omega) rfl
  ·rintro n st rfl
   simp only [bP.l1]
   rw [dO (Nat.le_refl _), cdF]
   unfold aj.f ag.f
   rw [cO (by omega) (by omega), bS, bS, cO (by omega) (by omega), bS, bS]
   exact l2
  ·rintro n i st hi rfl hk
   have := hg.uA _ (List.getElem_mem hi)
   simp only [bP.l1]
   rw [dz hi, cdT, aW hi, bS]
   unfold dp.f
   rw [cO (by omega) (by omega), bS, bS, bS, aU (by omega)]
   exact hk _ (by rw [Int.toNat_natCast]; exact List.set_getElem_self hi)
 obtain ⟨r, hr, rfl⟩ := l1
 exact hr
theorem oF : ∀ n : Nat, n ≤ 5 → ck.f 2000 ([1] : List Int) (n : Int) = some (List.replicate n 1)
 | 0, _ => by kernel_rfl
 | 1, _ => by kernel_rfl
 | 2, _ => by kernel_rfl
 | 3, _ => by kernel_rfl
 | 4, _ => by kernel_rfl
 | 5, _ => by kernel_rfl
 | n + 6, h => by omega
theorem Ay (x n : Nat) : x &&& 2 ^ n = (x / 2 ^ n % 2) * 2 ^ n := by
 refine Nat.eq_of_testBit_eq fun i => ?_
 rw [Nat.testBit_and, Nat.testBit_two_pow, Nat.testBit_mul_two_pow]
 by_cases h : n = i
 ·subst h
  rw [Nat.testBit_eq_decide_div_mod_eq, Nat.testBit_eq_decide_div_mod_eq]
  simp
 ·by_cases h2 : n ≤ i
  ·have : (x / 2 ^ n % 2).testBit (i - n) = false := Nat.testBit_lt_two_pow (Nat.lt_of_lt_of_le (Nat.mod_lt _ (by decide)) (by
    have : 2 ^ 1 ≤ 2 ^ (i - n) := Nat.pow_le_pow_right (by decide) (by omega)
    omega))
   simp [h, this]
  ·simp [h, h2]
theorem xq {x y : Nat} (hx : x < 2 ^ 64) (hy : y < 2 ^ 64) : eu .u64 x y = ((x &&& y : Nat) : Int) := by
 have h : x &&& y < 2 ^ 64 := Nat.and_lt_two_pow x hy
 show IntKind.u64.wrap ((BitVec.ofInt 64 x &&& BitVec.ofInt 64 y).toNat : Int) = _
 rw [BitVec.toNat_and, BitVec.ofInt_natCast, BitVec.ofInt_natCast, BitVec.toNat_ofNat, BitVec.toNat_ofNat]
 rw [Nat.mod_eq_of_lt (by omega), Nat.mod_eq_of_lt (by omega)]
 exact pz (by omega)
def zS (v : Nat) : Bool := (decide (0 < v) && decide (v < 281474976710656)) && (v / 1099511627776 % 2 == 0)
theorem tK (v : Nat) (h : v < 2 ^ 64) : eE.f (v : Int) = some (zS v) := by
 unfold eE.f eE.k1 jw.f zS
 have e0 : ((v : Int) != 0) = decide (0 < v) := by
  by_cases h : v = 0
  ·subst h; rfl
  ·rw [decide_eq_true (by omega)]; simp; omega
 have e1 : decide ((v : Int) < 281474976710656) = decide (v < 281474976710656) := yF 281474976710656 v
 have e2 : eu .u64 (v : Int) 1099511627776 = (((v / 1099511627776 % 2) * 1099511627776 : Nat) : Int) := by
  have := xq (x := v) (y := 2 ^ 40) h (by decide)
  rw [Ay] at this
  exact this
 rw [e0, e1, e2]
 cases (decide (0 < v) && decide (v < 281474976710656))
 ·rfl
 ·rw [cdT, bS]
  simp only [Bool.true_and]
  rcases Nat.mod_two_eq_zero_or_one (v / 1099511627776) with h | h <;> rw [h] <;> rfl
theorem rj (v : Nat) (h : v < 2 ^ 64) : bM.f (v : Int) = some (zS v) := by
 unfold bM.f bM.k1 fe.f zS
 have e0 : decide ((v : Int) > 0) = decide (0 < v) := by
  by_cases h : 0 < v
  ·rw [decide_eq_true h]; simp; omega
  ·rw [decide_eq_false h]; simp; omega
 have e1 : decide ((v : Int) < 281474976710656) = decide (v < 281474976710656) := yF 281474976710656 v
 have e2 : Int.tmod (u64 (Int.tdiv (v : Int) 1099511627776)) 2 = ((v / 1099511627776 % 2 : Nat) : Int) := by
  rw [show Int.tdiv (v : Int) 1099511627776 = ((v / 1099511627776 : Nat) : Int) from rfl, pz (by omega)]
  rfl
 rw [e0, e1, e2]
 cases (decide (0 < v) && decide (v < 281474976710656))
 ·rfl
 ·rw [cdT, bS]
  simp only [Bool.true_and]
  rcases Nat.mod_two_eq_zero_or_one (v / 1099511627776) with h | h <;> rw [h] <;> rfl
theorem wS (a : Bool) (b : Int) (l : List Int) (hl : l.length ≤ 100) (h : ay.f 2000 a b l = some true) : aP.f 2000 a b l = some true := by
 unfold ay.f at h
 unfold aP.f
 cases a
 ·simp only [Bool.not_false, cdT, fW.f, bS] at h ⊢
  exact h
 ·simp only [Bool.not_true, cdF] at h ⊢
  have key : ∀ (r pre : List Int) (f1 f2 : Nat) (prev : Int), l = pre ++ r → r.length < f1 → r.length < f2 → ((pre = [] ∧ prev = 0) ∨ ∃ p0, pre = p0 ++ [prev]) → 0 ≤ prev → ay.l2 l b 2000 f1 false prev (pre.length : Int) = some true → aP.l3 l b 2000 f2 false (pre.length : Int) = some true := by
   intro r
   induction r with
   | nil =>
    intro pre f1 f2 prev e hf1 hf2 hp h0 hr
    obtain ⟨f1, rfl⟩ : ∃ q, f1 = q + 1 := ⟨f1 - 1, by omega⟩
    obtain ⟨f2, rfl⟩ : ∃ q, f2 = q + 1 := ⟨f2 - 1, by omega⟩
    have hlen : l.length = pre.length := by rw [e]; simp
    simp only [ay.l2, aP.l3] at hr ⊢
    rw [dO (by omega), cdF] at hr ⊢
    cases hb : (b == 0)
    ·rw [hb, cdF, oy l b (by omega), bS] at hr
     rw [cdF, qn l b (by omega), bS]
     exact hr
    ·rw [cdT]; rfl
   | cons x r ih =>
    intro pre f1 f2 prev e hf1 hf2 hp h0 hr
    obtain ⟨f1, rfl⟩ : ∃ q, f1 = q + 1 := ⟨f1 - 1, by omega⟩
    obtain ⟨f2, rfl⟩ : ∃ q, f2 = q + 1 := ⟨f2 - 1, by omega⟩
    have hlen : l.length = pre.length + (r.length + 1) := by rw [e]; simp
    have hx : l[pre.length]'(by omega) = x := by simp [e]
    simp only [ay.l2, aP.l3] at hr ⊢
    rw [dz (by omega), cdT, aW (by omega), bS, hx] at hr ⊢
    by_cases h1 : x ≤ prev
    ·rw [decide_eq_true h1, cdT] at hr
     cases hr
    ·rw [decide_eq_false h1, cdF, bS] at hr
     by_cases h2 : x > 4094
     ·rw [decide_eq_true h2] at hr
      cases hr
     ·rw [decide_eq_false h2] at hr
      unfold ay.k1 at hr
      rw [cdF, aW (by omega), bS, hx, aU (by omega)] at hr
      have hv : ((decide (x ≥ 1)) && (decide (x ≤ 4094))) = true := by
       rw [decide_eq_true (by omega), decide_eq_true (by omega)]; rfl
      have hn := ih (pre ++ [x]) f1 f2 x (by rw [e]; simp) (by simp at hf1; omega) (by simp at hf2; omega) (.inr ⟨pre, rfl⟩) (by omega) (by rw [List.length_append, List.length_singleton]; exact hr)
      rw [List.length_append, List.length_singleton] at hn
      unfold fW.f
      rw [bS, hv, Bool.not_true, cdF]
      rcases hp with ⟨rfl, rfl⟩ | ⟨p0, rfl⟩
      ·rw [show decide ((([] : List Int).length : Int) > 0) = false by decide, cdF]
       unfold aP.k1 aP.k2
       rw [cdF, aU (by simp)]
       exact hn
      ·have hpl : (p0 ++ [prev]).length = p0.length + 1 := by simp
       have hg : cI l.length l (i64 (((p0 ++ [prev]).length : Int) - 1)) = some prev := by
        rw [lA (by omega), show ((p0 ++ [prev]).length : Int) - 1 = (p0.length : Int) by omega, aW (by omega)]
        simp [e]
       rw [show decide (((p0 ++ [prev]).length : Int) > 0) = true by rw [hpl]; simp, cdT, hg, bS, decide_eq_false h1]
       unfold aP.k1 aP.k2
       rw [cdF, aU (by omega)]
       exact hn
  exact key l [] 2000 2000 0 rfl (by omega) (by omega) (.inl ⟨rfl, rfl⟩) (by omega) h
theorem yx (l : List aa) (a : ba) (hl : l.length ≤ 5) (h : aV.f 2000 l a = some 0) : (∀ (i : Nat) (hi : i < l.length), ay.f 2000 l[i].bT l[i].cU l[i].cS = some true) ∧ dJ.f a = some 0 := by
 unfold aV.f at h
 rw [show decide ((l.length : Int) > 64) = false by simp; omega, cdF] at h
 have key : ∀ (fuel i : Nat), i ≤ l.length → aV.l1 l 2000 a fuel 0 (i : Int) = some 0 → (∀ (k : Nat) (hk : k < l.length), i ≤ k → ay.f 2000 l[k].bT l[k].cU l[k].cS = some true) ∧ dJ.f a = some 0 := by
  intro fuel
  induction fuel with
  | zero => intro i _ h; cases h
  | succ fuel ih =>
   intro i hi h
   simp only [aV.l1] at h
   by_cases hlt : i < l.length
   ·rw [dz hlt, cdT, aW hlt, bS] at h
    obtain ⟨r, hr, h⟩ := bind_some h
    cases r
    ·rw [Bool.not_false, cdT] at h; cases h
    ·rw [Bool.not_true, cdF, aU (by omega)] at h
     obtain ⟨h1, h2⟩ := ih (i + 1) (by omega) h
     refine ⟨fun k hk hik => ?_, h2⟩
     by_cases e : k = i
     ·subst e; exact hr
     ·exact h1 k hk (by omega)
   ·rw [dO (by omega), cdF] at h
    obtain ⟨r, hr, h⟩ := bind_some h
    refine ⟨fun k hk hik => by omega, ?_⟩
    by_cases e : r = 0
    ·subst e; exact hr
    ·rw [show (r != 0) = true by simp [e], cdT] at h
     rw [hr, h]
 obtain ⟨h1, h2⟩ := key 2000 0 (by omega) h
 exact ⟨fun i hi => h1 i hi (by omega), h2⟩
theorem uV (l : List aa) (hl : l.length ≤ 100) (h : ∀ (i : Nat) (hi : i < l.length), aP.f 2000 l[i].bT l[i].cU l[i].cS = some true) : eR.f 2000 l = some false := by
 unfold eR.f bU.f
 have key : ∀ (j i fuel : Nat), i + j = l.length → j < fuel → bU.l1 l 2000 fuel 0 (i : Int) = some (-1) := by
  intro j
  induction j with
  | zero =>
   intro i fuel e hf
   obtain ⟨fuel, rfl⟩ : ∃ q, fuel = q + 1 := ⟨fuel - 1, by omega⟩
   simp only [bU.l1]
   rw [dO (by omega), cdF]
  | succ j ih =>
   intro i fuel e hf
   obtain ⟨fuel, rfl⟩ : ∃ q, fuel = q + 1 := ⟨fuel - 1, by omega⟩
   simp only [bU.l1, gA.f]
   rw [dz (by omega), cdT, aW (by omega), bS, h i (by omega), bS, bS, Bool.not_true, cdF, aU (by omega)]
   exact ih (i + 1) fuel (by omega) (by omega)
 rw [show bU.l1 l 2000 2000 0 0 = some (-1) from key l.length 0 2000 (by omega) (by omega), bS]
 rfl
theorem rV (l : List aa) (a : ba) (hl : l.length ≤ 5) (hv : ∀ p ∈ l, p.cS.length ≤ 12) (h : aV.f 2000 l a = some 0) : cc.f 2000 l a = some 0 := by
 obtain ⟨h1, h2⟩ := yx l a hl h
 unfold cc.f
 rw [show decide ((l.length : Int) > 64) = false by simp; omega, cdF, uV l (by omega) (fun i hi => wS _ _ _ (by have := hv _ (List.getElem_mem hi); omega) (h1 i hi)), bS]
 unfold cc.k1
 rw [cdF, show lQ.f a = some 0 from h2, bS, show ((0 : Int) != 0) = false by rfl, cdF]
 obtain ⟨r, hr, rfl⟩ := cq (P := fun r : Int => r = 0) l.length (fun i (st : List aa) => st.length = i) (fun n st i => cc.l2 l n (i : Int) st) (fun n st hst => by
   simp only [cc.l2]
   rw [dO (Nat.le_refl _), cdF]
   exact ⟨_, rfl, rfl⟩) (fun n i st hi hst hk => by
   have := hv _ (List.getElem_mem hi)
   simp only [cc.l2]
   unfold dp.f
   rw [dz hi, cdT, aW hi, bS, cO (by omega) (by omega), bS, bS, cO (by simp; omega) (by simp; omega), bS, aU (by omega)]
   exact hk _ (by simp [hst])) (fuel := 2000) [] (by omega) rfl
 exact hr
theorem yz (b : Int) (n : Nat) (e : List Bool) (r : dT) (hn : n ≤ 5) (h : aM.f 2000 b (List.replicate n 1) e = some (r, 0)) : e.length = n := by
 unfold aM.f at h
 apply Classical.byContradiction
 intro hne
 rw [List.length_replicate, show (((n : Nat) : Int) != (e.length : Int)) = true by simp; omega, Bool.or_true, cdT] at h
 cases h
theorem vF (b : Int) (n : Nat) (e : List Bool) (hn : n ≤ 5) (he : e.length = n) : ∃ s, cW.f 2000 b (List.replicate n 1) e = some (s, 0) := by
 unfold cW.f
 rw [List.length_replicate, show decide (((n : Nat) : Int) > 64) = false by simp; omega, he, show (((n : Nat) : Int) != (n : Int)) = false by simp, Bool.or_false, cdF]
 have hl : (List.replicate n (1 : Int)).length = n := List.length_replicate
 have hc : cV.f 2000 (List.replicate n 1) = some false := by
  unfold cV.f bk.f
  have key : ∀ (j i fuel : Nat), i + j = n → j < fuel → bk.l1 (List.replicate n 1) fuel 0 (i : Int) = some (-1) := by
   intro j
   induction j with
   | zero =>
    intro i fuel e hf
    obtain ⟨fuel, rfl⟩ : ∃ q, fuel = q + 1 := ⟨fuel - 1, by omega⟩
    simp only [bk.l1]
    rw [dO (by omega), cdF]
   | succ j ih =>
    intro i fuel e hf
    obtain ⟨fuel, rfl⟩ : ∃ q, fuel = q + 1 := ⟨fuel - 1, by omega⟩
    simp only [bk.l1]
    rw [dz (by omega), cdT, aW (by omega), bS, List.getElem_replicate, show ki.f 1 = some false from rfl, bS, cdF, aU (by omega)]
    exact ih (i + 1) fuel (by omega) (by omega)
  rw [show bk.l1 (List.replicate n 1) 2000 0 0 = some (-1) from key n 0 2000 (by omega) (by omega), bS]
  rfl
 rw [hc, bS]
 unfold cW.k1
 rw [cdF]
 obtain ⟨r, hr, h0⟩ := cq (P := fun r : dT × Int => r.2 = 0) n (fun i (st : List an) => st.length = i) (fun q st i => cW.l2 (List.replicate n 1) e b q (i : Int) st) (fun q st hst => by
   simp only [cW.l2]
   rw [dO (by omega), cdF]
   exact ⟨_, rfl, rfl⟩) (fun q i st hi hst hk => by
   simp only [cW.l2]
   rw [dz (by omega), cdT, aW (by omega), bS, aW (by omega), bS, cO (by simp; omega) (by simp; omega), bS, aU (by omega)]
   exact hk _ (by simp [hst])) (fuel := 2000) [] (by omega) rfl
 obtain ⟨s, c⟩ := r
 obtain rfl : c = 0 := h0
 exact ⟨s, hr⟩
theorem vi (a b : Int) (h : eB.f a b = some 0) : fE.f a b = some 0 := by
 unfold fE.f
 rw [show ir.f a b = some 0 from h, bS]
 rfl
theorem zR (m : Int) (h : bM.f m = some true) : eE.f m = some true := by
 have hb : 0 < m ∧ m < 281474976710656 := by
  unfold bM.f at h
  by_cases h1 : 0 < m ∧ m < 281474976710656
  ·exact h1
  ·exfalso
   have : ((decide (m > 0)) && (decide (m < 281474976710656))) = false := by
    rw [Bool.eq_false_iff]
    intro hh
    rw [Bool.and_eq_true, decide_eq_true_eq, decide_eq_true_eq] at hh
    exact h1 hh
   rw [this, cdF] at h
   cases h
 obtain ⟨v, rfl⟩ : ∃ v : Nat, m = v := ⟨m.toNat, by omega⟩
 rw [rj v (by omega)] at h
 rw [tK v (by omega)]
 exact h
theorem yA (a : bj) (h : aF.f a = some 0) : bZ.f a = some 0 := by
 unfold aF.f at h
 unfold bZ.f
 obtain ⟨r, hr, h⟩ := bind_some h
 rw [show ir.f a.Room a.aY = some r from hr, bS]
 cases h0 : (r != 0)
 ·rw [h0, cdF] at h
  rw [cdF]
  obtain ⟨q, hq, h⟩ := bind_some h
  cases q
  ·exfalso
   unfold aF.k4 aF.k3 aF.k2 aF.k1 at h
   simp at h
  ·rw [zR _ hq, bS]
   exact h
 ·rw [h0, cdT] at h
  rw [cdT]
  exact h
theorem rk (ip : Int) : ∀ b : Nat, b ≤ 32 → eS.f 2000 ⟨ip, (b : Int)⟩ = some ((2 ^ (32 - b) - 1 : Nat) : Int)
 | 0, _ => by kernel_rfl
 | 1, _ => by kernel_rfl
 | 2, _ => by kernel_rfl
 | 3, _ => by kernel_rfl
 | 4, _ => by kernel_rfl
 | 5, _ => by kernel_rfl
 | 6, _ => by kernel_rfl
 | 7, _ => by kernel_rfl
 | 8, _ => by kernel_rfl
 | 9, _ => by kernel_rfl
 | 10, _ => by kernel_rfl
 | 11, _ => by kernel_rfl
 | 12, _ => by kernel_rfl
 | 13, _ => by kernel_rfl
 | 14, _ => by kernel_rfl
 | 15, _ => by kernel_rfl
 | 16, _ => by kernel_rfl
 | 17, _ => by kernel_rfl
 | 18, _ => by kernel_rfl
 | 19, _ => by kernel_rfl
 | 20, _ => by kernel_rfl
 | 21, _ => by kernel_rfl
 | 22, _ => by kernel_rfl
 | 23, _ => by kernel_rfl
 | 24, _ => by kernel_rfl
 | 25, _ => by kernel_rfl
 | 26, _ => by kernel_rfl
 | 27, _ => by kernel_rfl
 | 28, _ => by kernel_rfl
 | 29, _ => by kernel_rfl
 | 30, _ => by kernel_rfl
 | 31, _ => by kernel_rfl
 | 32, _ => by kernel_rfl
 | n + 33, h => by omega
theorem qc (ip : Int) : ∀ b : Nat, b ≤ 32 → bY.f 2000 ⟨ip, (b : Int)⟩ = some ((2 ^ (32 - b) : Nat) : Int)
 | 0, _ => by kernel_rfl
 | 1, _ => by kernel_rfl
 | 2, _ => by kernel_rfl
 | 3, _ => by kernel_rfl
 | 4, _ => by kernel_rfl
 | 5, _ => by kernel_rfl
 | 6, _ => by kernel_rfl
 | 7, _ => by kernel_rfl
 | 8, _ => by kernel_rfl
 | 9, _ => by kernel_rfl
 | 10, _ => by kernel_rfl
 | 11, _ => by kernel_rfl
 | 12, _ => by kernel_rfl
 | 13, _ => by kernel_rfl
 | 14, _ => by kernel_rfl
 | 15, _ => by kernel_rfl
 | 16, _ => by kernel_rfl
 | 17, _ => by kernel_rfl
 | 18, _ => by kernel_rfl
 | 19, _ => by kernel_rfl
 | 20, _ => by kernel_rfl
 | 21, _ => by kernel_rfl
 | 22, _ => by kernel_rfl
 | 23, _ => by kernel_rfl
 | 24, _ => by kernel_rfl
 | 25, _ => by kernel_rfl
 | 26, _ => by kernel_rfl
 | 27, _ => by kernel_rfl
 | 28, _ => by kernel_rfl
 | 29, _ => by kernel_rfl
 | 30, _ => by kernel_rfl
 | 31, _ => by kernel_rfl
 | 32, _ => by kernel_rfl
 | n + 33, h => by omega
theorem uo {x y : Nat} (hx : x < 2 ^ 32) (hy : y < 2 ^ 32) : eu .u32 x y = ((x &&& y : Nat) : Int) := by
 have h : x &&& y < 2 ^ 32 := Nat.and_lt_two_pow x hy
 show IntKind.u32.wrap ((BitVec.ofInt 32 x &&& BitVec.ofInt 32 y).toNat : Int) = _
 rw [BitVec.toNat_and, BitVec.ofInt_natCast, BitVec.ofInt_natCast, BitVec.toNat_ofNat, BitVec.toNat_ofNat]
 rw [Nat.mod_eq_of_lt (by omega), Nat.mod_eq_of_lt (by omega)]
 simp [IntKind.wrap, IntKind.bits, IntKind.signed]; omega
theorem su (n : bA) (hi : 0 ≤ n.Ip ∧ n.Ip ≤ 4294967295) (h : bl.f 2000 n = some true) : (0 ≤ n.cL ∧ n.cL ≤ 32) ∧ dL.f 2000 n = some true := by
 obtain ⟨ip, bits⟩ := n
 dsimp only at hi
 unfold bl.f at h
 dsimp only at h
 have hb : 0 ≤ bits ∧ bits ≤ 32 := by
  apply Classical.byContradiction
  intro hh
  have : ((decide (bits ≥ 0)) && (decide (bits ≤ 32))) = false := by
   rw [Bool.eq_false_iff]; intro h2
   rw [Bool.and_eq_true, decide_eq_true_eq, decide_eq_true_eq] at h2
   exact hh h2
  rw [this, cdF] at h
  cases h
 refine ⟨hb, ?_⟩
 have hc : ((decide (bits ≥ 0)) && (decide (bits ≤ 32))) = true := by
  rw [decide_eq_true hb.1, decide_eq_true hb.2]; rfl
 obtain ⟨b, rfl⟩ : ∃ b : Nat, bits = b := ⟨bits.toNat, by omega⟩
 obtain ⟨v, rfl⟩ : ∃ v : Nat, ip = v := ⟨ip.toNat, by omega⟩
 have hbl : b ≤ 32 := by omega
 have hp : (2 : Nat) ^ (32 - b) ≤ 2 ^ 32 := Nat.pow_le_pow_right (by omega) (by omega)
 have hp0 : 0 < (2 : Nat) ^ (32 - b) := Nat.pow_pos (by omega)
 rw [hc, cdT, qc _ b hbl, bS, pz (by omega)] at h
 unfold dL.f
 dsimp only
 rw [hc, cdT, rk _ b hbl, bS]
 unfold o3 at h
 rw [if_neg (by omega), bS, show Int.tmod (v : Int) ((2 ^ (32 - b) : Nat) : Int) = ((v % 2 ^ (32 - b) : Nat) : Int) from rfl] at h
 rw [uo (by omega) (by omega), Nat.and_two_pow_sub_one_eq_mod]
 exact h
theorem zy (l : List aj) (hl : l.length ≤ 8) (h : a6.f 2000 l = some true) : ∀ (i : Nat) (hi : i < l.length), bl.f 2000 l[i].To = some true := by
 unfold a6.f at h
 have key : ∀ (fuel i : Nat) (st : List aj), i ≤ l.length → a6.l1 l 2000 fuel false (i : Int) st = some true → ∀ (k : Nat) (hk : k < l.length), i ≤ k → bl.f 2000 l[k].To = some true := by
  intro fuel
  induction fuel with
  | zero => intro i st _ h; cases h
  | succ fuel ih =>
   intro i st hi h k hk hik
   simp only [a6.l1] at h
   by_cases hlt : i < l.length
   ·rw [dz hlt, cdT, aW hlt, bS] at h
    obtain ⟨⟨c, r⟩, hr, h⟩ := bind_some h
    dsimp only at h
    by_cases hc : c = 0
    ·subst hc
     rw [show ((0 : Int) != 0) = false by rfl, cdF, aU (by omega)] at h
     by_cases e : k = i
     ·subst e
      unfold cn.f at hr
      obtain ⟨q, hq, hr⟩ := bind_some hr
      cases q
      ·rw [Bool.not_false, cdT] at hr
       cases hr
      ·exact hq
     ·exact ih (i + 1) r (by omega) h k hk (by omega)
    ·rw [show (c != 0) = true by simp [hc], cdT] at h
     cases h
   ·omega
 exact fun i hi => key 2000 0 [] (by omega) h i hi (by omega)
def total (ms : List (aS Int)) : Nat := (ms.map fun m => m.es.length).sum
theorem tB {k v : Int} : ∀ {es es' : List (Int × Int × Nat)}, lg k v es = some es' → es'.length = es.length
 | [], _, h => by cases h
 | e :: es, es', h => by
  unfold lg at h
  cases hb : (k == e.1)
  ·rw [hb, cdF] at h
   obtain ⟨q, hq, rfl⟩ := Option.map_eq_some_iff.1 h
   simp [tB hq]
  ·rw [hb, cdT] at h
   obtain rfl := oI h
   simp
theorem zG (m : aS Int) (k v : Int) : (m.set k v).es.length ≤ m.es.length + 1 := by
 unfold aS.set
 cases h : lg k v m.es with
 | none => simp
 | some es => simp [tB h]
theorem rb : ∀ (ms : List (aS Int)) (i : Nat) (h : i < ms.length) (m : aS Int), m.es.length ≤ ms[i].es.length + 1 → total (ms.set i m) ≤ total ms + 1
 | [], i, h, m, _ => by simp at h
 | x :: ms, 0, h, m, hm => by
  simp only [total, List.set_cons_zero, List.map_cons, List.sum_cons, List.getElem_cons_zero] at hm ⊢
  omega
 | x :: ms, i + 1, h, m, hm => by
  have ih := rb ms i (by simpa using h) m (by simpa using hm)
  simp only [total, List.set_cons_succ, List.map_cons, List.sum_cons] at ih ⊢
  omega
theorem uE (ms : List (aS Int)) (i : Nat) (h : i < ms.length) : total (ms.take (i + 1)) = total (ms.take i) + ms[i].es.length := by
 unfold total
 rw [List.take_succ_eq_append_getElem h, List.map_append, List.sum_append, List.map_cons, List.map_nil, List.sum_cons, List.sum_nil, Nat.add_zero]
theorem xF (ms : List (aS Int)) (i : Nat) : total (ms.take i) ≤ total ms := by
 have h := List.take_append_drop i ms
 have : total ms = total (ms.take i) + total (ms.drop i) := by
  conv => lhs; rw [← h]
  unfold total
  rw [List.map_append, List.sum_append]
 omega
theorem uZ {ms : List (aS Int)} (hl : ms.length = 33) {i : Nat} (h : i < 33) : cI 33 ms (i : Int) = some (ms[i]'(by omega)) := by
 unfold cI
 rw [if_pos ⟨by omega, by omega⟩, Int.toNat_natCast, List.getElem?_eq_getElem (by omega)]
theorem BK (ms : List (aS Int)) (hl : ms.length = 33) (ht : total ms ≤ 1000) : bW.f 2000 ms = some (total ms : Int) := by
 unfold bW.f
 obtain ⟨r, hr, rfl⟩ := cq (P := fun r : Int => r = (total ms : Int)) 33 (fun i (st : Int) => st = (total (ms.take i) : Int)) (fun n st i => bW.l1 ms n st (i : Int)) (fun n st hst => by
   simp only [bW.l1]
   rw [show decide (((33 : Nat) : Int) < 33) = false by simp, cdF]
   rw [List.take_of_length_le (by omega)] at hst
   exact ⟨_, rfl, hst⟩) (fun n i st hi hst hk => by
   subst hst
   simp only [bW.l1]
   have h1 := uE ms i (by omega)
   have h2 := xF ms (i + 1)
   rw [show decide ((i : Int) < 33) = true by simp; omega, cdT, uZ hl hi, bS, aU (by omega)]
   refine hk _ ?_
   unfold aS.len
   rw [lA (by omega), h1]
   omega) (fuel := 2000) 0 (by omega) (by rfl)
 exact hr
theorem Bd (ms : List (aS Int)) (r : aj) (hl : ms.length = 33) (ht : total ms ≤ 100) (hb : 0 ≤ r.To.cL ∧ r.To.cL ≤ 32) (hn : dL.f 2000 r.To = some true) : ∃ ms', cf.f 2000 ms r = some (0, ms') ∧ ms'.length = 33 ∧ total ms' ≤ total ms + 1 := by
 unfold cf.f
 obtain ⟨b, hb'⟩ : ∃ b : Nat, r.To.cL = b := ⟨r.To.cL.toNat, by omega⟩
 have hbl : b < 33 := by omega
 rw [hn, bS, Bool.not_true, cdF, hb', uZ hl hbl, bS]
 have hk1 : ∃ ms', cf.k1 ms r false = some (0, ms') ∧ ms'.length = 33 ∧ total ms' ≤ total ms + 1 := by
  unfold cf.k1
  rw [cdF, hb', uZ hl hbl, bS, Int.toNat_natCast]
  exact ⟨_, rfl, by rw [List.length_set]; exact hl, rb ms b (by omega) _ (zG _ _ _)⟩
 cases ((aS.get (ms[b]'(by omega)) r.To.Ip).isSome)
 ·rw [Bool.not_false, cdT, BK ms hl (by omega), bS, show decide ((total ms : Int) ≥ 256) = false by simp; omega]
  exact hk1
 ·rw [Bool.not_true, cdF]
  exact hk1
theorem z8 (l : List aj) (hl : l.length ≤ 8) (hi : ∀ x ∈ l, 0 ≤ x.To.Ip ∧ x.To.Ip ≤ 4294967295) (h : a6.f 2000 l = some true) : da.f 2000 l = some true := by
 have hn := zy l hl h
 unfold da.f ee.f
 rw [if_pos (by omega), bS]
 obtain ⟨r, hr, rfl⟩ := cq (P := fun r : Bool => r = true) l.length (fun i (st : List (aS Int)) => st.length = 33 ∧ total st ≤ i) (fun n st i => da.l1 l 2000 n false (i : Int) st) (fun n st hst => by
   simp only [da.l1]
   rw [dO (Nat.le_refl _), cdF]
   exact ⟨_, rfl, rfl⟩) (fun n i st hi2 hst hk => by
   simp only [da.l1]
   obtain ⟨hb, hn2⟩ := su l[i].To (hi _ (List.getElem_mem hi2)) (hn i hi2)
   obtain ⟨ms', hp, h1, h2⟩ := Bd st l[i] hst.1 (by omega) hb hn2
   rw [dz hi2, cdT, aW hi2, bS, hp, bS]
   dsimp only
   rw [show ((0 : Int) != 0) = false by rfl, cdF, aU (by omega)]
   exact hk _ ⟨h1, by omega⟩) (fuel := 2000) (List.replicate 33 (aS.nil : aS Int)) (by omega) ⟨rfl, by decide⟩
 exact hr
theorem qt {α : Type} {xs : List α} {i : Nat} {x : α} (h : xs[i]? = some x) : cI xs.length xs (i : Int) = some x := by
 have hlt : i < xs.length := by
  rcases Nat.lt_or_ge i xs.length with h1 | h1
  ·exact h1
  ·rw [List.getElem?_eq_none h1] at h; cases h
 unfold cI
 rw [if_pos (by omega), Int.toNat_natCast, h]
theorem v8 (l : List Int) (a : Int) (hl : l.length ≤ 1000) : ∀ (r pre : List Int) (fuel : Nat), l = pre ++ r → r.length < fuel →
  ∃ v, bb.l1 l a fuel 0 (pre.length : Int) = some v ∧ (v ≥ 0 ↔ a ∈ r)
 | r, pre, 0, _, h => by omega
 | [], pre, fuel + 1, e, h => by
  subst e
  simp only [bb.l1]
  exact ⟨-1, by simp, by simp⟩
 | s :: r, pre, fuel + 1, e, h => by
  have hlen : l.length = pre.length + (r.length + 1) := by rw [e]; simp
  have hget : l[pre.length]? = some s := by rw [e]; simp
  simp only [bb.l1]
  rw [show decide ((pre.length : Int) < (l.length : Int)) = true by simp; omega, cdT, qt hget, bS]
  cases hv : (a == s)
  ·rw [cdF, lA (by omega)]
   have := v8 l a hl r (pre ++ [s]) fuel (by rw [e]; simp) (by simp at h; omega)
   rw [List.length_append, List.length_singleton] at this
   obtain ⟨v, h1, h2⟩ := this
   refine ⟨v, h1, ?_⟩
   have hne : a ≠ s := by simpa using hv
   rw [h2]; simp [hne]
  ·rw [cdT]
   have he : a = s := by simpa using hv
   exact ⟨_, rfl, by simp [he]⟩
theorem gW (l : List Int) (a : Int) (hl : l.length ≤ 1000) : cx.f 2000 l a = some (decide (a ∈ l)) := by
 unfold cx.f bb.f
 obtain ⟨v, h1, h2⟩ := v8 l a hl l [] 2000 rfl (by omega)
 have h1' : bb.l1 l a 2000 0 0 = some v := h1
 rw [h1', bS]
 congr 1
 exact decide_eq_decide.2 h2
theorem qa (l : List Int) (a : Int) (hl : l.length ≤ 1000) : ∀ (r pre : List Int) (fuel c : Nat), l = pre ++ r → r.length < fuel → c ≤ pre.length →
  aL.l2 l a fuel (c : Int) (pre.length : Int) = some ((c + r.count a : Nat) : Int)
 | r, pre, 0, c, _, h, _ => by omega
 | [], pre, fuel + 1, c, e, h, hc => by
  subst e
  simp only [aL.l2]
  simp
 | s :: r, pre, fuel + 1, c, e, h, hc => by
  have hlen : l.length = pre.length + (r.length + 1) := by rw [e]; simp
  have hget : l[pre.length]? = some s := by rw [e]; simp
  simp only [aL.l2, aL.k1]
  rw [show decide ((pre.length : Int) < (l.length : Int)) = true by simp; omega, cdT, qt hget, bS, lA (n := (pre.length : Int) + 1) (by omega), show ((pre.length : Int) + 1) = ((pre.length + 1 : Nat) : Int) by omega]
  have ih := fun c' hc' => qa l a hl r (pre ++ [s]) fuel c' (by rw [e]; simp) (by simp at h; omega) hc'
  rw [List.length_append, List.length_singleton] at ih
  cases hv : (s == a)
  ·rw [cdF, ih c (by omega), List.count_cons, hv]
   simp
  ·rw [cdT, lA (by omega), show ((c : Int) + 1) = ((c + 1 : Nat) : Int) by omega, ih (c + 1) (by omega), List.count_cons, hv]
   congr 2
   simp
   omega
theorem pZ (l : List Int) (a : Int) (hl : l.length ≤ 1000) : aL.f 2000 l a = some ((l.count a : Nat) : Int) := by
 unfold aL.f
 have := qa l a hl l [] 2000 0 rfl (by omega) (by omega)
 rw [Nat.zero_add] at this
 exact this
def nA (t : ag) (a p : Int) : Prop := p > 0 ∧ p ≠ a ∧ t.aD.count p = 1
theorem vS (t : ag) (a x9 : Int) (rec : Bool → Int → Option Int) (hl : t.aD.length ≤ 100) : ∀ (j' j fuel : Nat) (b : Bool), j + j' = t.aD.length → j' < fuel →
  ∃ c : Bool, ab.l8 t 2000 a x9 rec fuel b (j : Int) = rec (b && c) (i64 (x9 + 1)) ∧ (c = true → ∀ (q : Nat) (hq : q < t.aD.length), j ≤ q → nA t a t.aD[q])
 | _, _, 0, _, _, h => by omega
 | 0, j, fuel + 1, b, e, h => by
  refine ⟨true, ?_, fun _ q hq hj => by omega⟩
  simp only [ab.l8]
  rw [dO (by omega), cdF, Bool.and_true]
 | j' + 1, j, fuel + 1, b, e, h => by
  have hlt : j < t.aD.length := by omega
  have ih := fun b => vS t a x9 rec hl j' (j + 1) fuel b (by omega) (by omega)
  have bad : ∃ c : Bool, ab.l8 t 2000 a x9 rec fuel false (i64 ((j : Int) + 1)) = rec (b && c) (i64 (x9 + 1)) ∧ (c = true → ∀ (q : Nat) (hq : q < t.aD.length), j ≤ q → nA t a t.aD[q]) := by
   obtain ⟨c, h1, _⟩ := ih false
   refine ⟨false, ?_, fun h => by cases h⟩
   rw [aU (by omega), h1, Bool.false_and, Bool.and_false]
  simp only [ab.l8]
  rw [dz hlt, cdT]
  cases b
  ·rw [cdF]
   unfold ab.k7 ab.k6 ab.k5
   rw [cdF, cdF]
   exact bad
  ·rw [cdT, aW hlt, bS]
   unfold ab.k7
   by_cases h1 : t.aD[j] > 0
   ·rw [decide_eq_true h1, cdT, aW hlt, bS]
    unfold ab.k6
    by_cases h2 : t.aD[j] = a
    ·rw [show (t.aD[j] != a) = false by simp [h2], cdF]
     unfold ab.k5
     exact bad
    ·rw [show (t.aD[j] != a) = true by simp [h2], cdT, aW hlt, bS, pZ _ _ (by omega), bS]
     unfold ab.k5
     by_cases h3 : t.aD.count t.aD[j] = 1
     ·obtain ⟨c, h4, h5⟩ := ih true
      refine ⟨c, ?_, fun hc q hq hj => ?_⟩
      ·rw [h3, show (((1 : Nat) : Int) == 1) = true by rfl, aU (by omega), h4]
      ·by_cases e : q = j
       ·subst e; exact ⟨h1, h2, h3⟩
       ·exact h5 hc q hq (by omega)
     ·rw [show ((((t.aD.count t.aD[j] : Nat)) : Int) == 1) = false by rw [beq_eq_false_iff_ne]; omega]
      exact bad
   ·rw [decide_eq_false h1, cdF]
    unfold ab.k6 ab.k5
    rw [cdF]
    exact bad
theorem vW (i9 : Nat) (l : List ag) (h9 : i9 ≤ l.length) (hl : l.length ≤ 100) (t : ag) (a : Int) (rec : Bool → Int → Option Int) : ∀ (j' j fuel : Nat) (b : Bool), j + j' = i9 → j' < fuel →
  ∃ c : Bool, ab.l4 (i9 : Int) l t 2000 a rec fuel b (j : Int) = ab.l8 t 2000 a (i9 : Int) rec 2000 (b && c) 0 ∧ (c = true → ∀ (q : Nat) (hq : q < i9), j ≤ q → l[q].bd ≠ t.bd ∧ l[q].bV ≠ t.bV)
 | _, _, 0, _, _, h => by omega
 | 0, j, fuel + 1, b, e, h => by
  refine ⟨true, ?_, fun _ q hq hj => by omega⟩
  simp only [ab.l4]
  rw [dO (by omega), cdF, Bool.and_true]
 | j' + 1, j, fuel + 1, b, e, h => by
  have hlt : j < l.length := by omega
  have ih := fun b => vW i9 l h9 hl t a rec j' (j + 1) fuel b (by omega) (by omega)
  have bad : ∃ c : Bool, ab.l4 (i9 : Int) l t 2000 a rec fuel false (i64 ((j : Int) + 1)) = ab.l8 t 2000 a (i9 : Int) rec 2000 (b && c) 0 ∧ (c = true → ∀ (q : Nat) (hq : q < i9), j ≤ q → l[q].bd ≠ t.bd ∧ l[q].bV ≠ t.bV) := by
   obtain ⟨c, h1, _⟩ := ih false
   refine ⟨false, ?_, fun h => by cases h⟩
   rw [aU (by omega), h1, Bool.false_and, Bool.and_false]
  simp only [ab.l4]
  rw [dz (by omega), cdT]
  cases b
  ·rw [cdF]
   unfold ab.k3 ab.k2
   rw [cdF]
   exact bad
  ·rw [cdT, aW hlt, bS]
   unfold ab.k3
   by_cases h1 : l[j].bd = t.bd
   ·rw [show (l[j].bd != t.bd) = false by simp [h1], cdF]
    unfold ab.k2
    exact bad
   ·rw [show (l[j].bd != t.bd) = true by simp [h1], cdT, aW hlt, bS]
    unfold ab.k2
    by_cases h2 : l[j].bV = t.bV
    ·rw [show (l[j].bV != t.bV) = false by simp [h2]]
     exact bad
    ·obtain ⟨c, h4, h5⟩ := ih true
     refine ⟨c, ?_, fun hc q hq hj => ?_⟩
     ·rw [show (l[j].bV != t.bV) = true by simp [h2], aU (by omega), h4]
     ·by_cases e : q = j
      ·subst e; exact ⟨h1, h2⟩
      ·exact h5 hc q hq (by omega)
structure sZ (l : List ag) (a : Int) (i : Nat) (t : ag) : Prop where
 EJ : 0 < t.bd ∧ t.bd < 4095
 EI : 0 ≤ t.bV ∧ t.bV < 16777216
 other : ∀ (q : Nat) (hq : q < l.length), q < i → l[q].bd ≠ t.bd ∧ l[q].bV ≠ t.bV
 mU : ∀ (q : Nat) (hq : q < t.aD.length), nA t a t.aD[q]
theorem Bf (l : List ag) (a : Int) (hl : l.length ≤ 100) (hp : ∀ s ∈ l, s.aD.length ≤ 100) : ∀ (fuel i : Nat) (b : Bool), i ≤ l.length → ab.l9 l 2000 a fuel b (i : Int) = some 0 →
  b = true ∧ ∀ (k : Nat) (hk : k < l.length), i ≤ k → sZ l a k l[k]
 | 0, i, b, _, h => by cases h
 | fuel + 1, i, b, hi, h => by
  simp only [ab.l9] at h
  by_cases hlt : i < l.length
  ·rw [dz hlt, cdT, aW hlt, bS] at h
   obtain ⟨c, h1, h2⟩ := vW i l hi hl l[i] a (ab.l9 l 2000 a fuel) i 0 2000 ((((b && (decide (l[i].bd > 0))) && (decide (l[i].bd < 4095))) && (decide (l[i].bV ≥ 0))) && (decide (l[i].bV < 16777216))) (by omega) (by omega)
   obtain ⟨c', h3, h4⟩ := vS l[i] a (i : Int) (ab.l9 l 2000 a fuel) (hp _ (List.getElem_mem hlt)) l[i].aD.length 0 2000 (((((b && (decide (l[i].bd > 0))) && (decide (l[i].bd < 4095))) && (decide (l[i].bV ≥ 0))) && (decide (l[i].bV < 16777216))) && c) (by omega) (by have := hp _ (List.getElem_mem hlt); omega)
   have h1' : ab.l4 (i : Int) l l[i] 2000 a (ab.l9 l 2000 a fuel) 2000 ((((b && (decide (l[i].bd > 0))) && (decide (l[i].bd < 4095))) && (decide (l[i].bV ≥ 0))) && (decide (l[i].bV < 16777216))) 0 = _ := h1
   have h3' : ab.l8 l[i] 2000 a (i : Int) (ab.l9 l 2000 a fuel) 2000 (((((b && (decide (l[i].bd > 0))) && (decide (l[i].bd < 4095))) && (decide (l[i].bV ≥ 0))) && (decide (l[i].bV < 16777216))) && c) 0 = _ := h3
   rw [h1', h3', aU (by omega)] at h
   obtain ⟨h5, h6⟩ := Bf l a hl hp fuel (i + 1) _ (by omega) h
   simp only [Bool.and_eq_true, decide_eq_true_eq] at h5
   obtain ⟨⟨⟨⟨⟨⟨q1, q2⟩, q3⟩, q4⟩, q5⟩, q6⟩, q7⟩ := h5
   refine ⟨q1, fun k hk hik => ?_⟩
   by_cases e : k = i
   ·subst e
    exact ⟨⟨q2, q3⟩, ⟨q4, q5⟩, fun q hq hqi => h2 q6 q hqi (by omega), fun q hq => h4 q7 q hq (by omega)⟩
   ·exact h6 k hk (by omega)
  ·rw [dO (by omega), cdF] at h
   cases b
   ·cases h
   ·exact ⟨rfl, fun k hk hik => by omega⟩
theorem vc (a : Int) (l : List ag) (hl : l.length ≤ 12) (hp : ∀ s ∈ l, s.aD.length ≤ 20) (h : ab.f 2000 a l = some 0) : a > 0 ∧ (∀ s ∈ l, s.aD.length ≤ 16) ∧ ∀ (k : Nat) (hk : k < l.length), sZ l a k l[k] := by
 unfold ab.f at h
 have key : ∀ (fuel i : Nat), i ≤ l.length → ab.l1 l 2000 a fuel 0 (i : Int) = some 0 → (∀ (k : Nat) (hk : k < l.length), i ≤ k → l[k].aD.length ≤ 16) ∧ ab.l9 l 2000 a 2000 (decide (a > 0)) 0 = some 0 := by
  intro fuel
  induction fuel with
  | zero => intro i _ h; cases h
  | succ fuel ih =>
   intro i hi h
   simp only [ab.l1] at h
   by_cases hlt : i < l.length
   ·rw [dz hlt, cdT, aW hlt, bS] at h
    by_cases h16 : l[i].aD.length ≤ 16
    ·rw [show decide ((l[i].aD.length : Int) > 16) = false by simp; omega, cdF, aU (by omega)] at h
     obtain ⟨h1, h2⟩ := ih (i + 1) (by omega) h
     refine ⟨fun k hk hik => ?_, h2⟩
     by_cases e : k = i
     ·subst e; exact h16
     ·exact h1 k hk (by omega)
    ·rw [show decide ((l[i].aD.length : Int) > 16) = true by simp; omega, cdT] at h
     cases h
   ·rw [dO (by omega), cdF, show decide ((l.length : Int) > 256) = false by simp; omega, cdF] at h
    exact ⟨fun k hk hik => by omega, h⟩
 obtain ⟨h1, h2⟩ := key 2000 0 (by omega) h
 obtain ⟨h3, h4⟩ := Bf l a (by omega) (fun s hs => by have := hp s hs; omega) 2000 0 _ (by omega) h2
 refine ⟨of_decide_eq_true h3, fun s hs => ?_, fun k hk => h4 k hk (by omega)⟩
 obtain ⟨i, hi, rfl⟩ := List.getElem_of_mem hs
 exact h1 i hi (by omega)
theorem wL (l : List ag) (hl : l.length ≤ 100) (h : ∀ s ∈ l, s.aD.length ≤ 16) : gS.f 2000 l = some false := by
 unfold gS.f dc.f
 have key : ∀ (j i fuel : Nat), i + j = l.length → j < fuel → dc.l1 l fuel 0 (i : Int) = some (-1) := by
  intro j
  induction j with
  | zero =>
   intro i fuel e hf
   obtain ⟨fuel, rfl⟩ : ∃ q, fuel = q + 1 := ⟨fuel - 1, by omega⟩
   simp only [dc.l1]
   rw [dO (by omega), cdF]
  | succ j ih =>
   intro i fuel e hf
   obtain ⟨fuel, rfl⟩ : ∃ q, fuel = q + 1 := ⟨fuel - 1, by omega⟩
   have := h _ (List.getElem_mem (show i < l.length by omega))
   simp only [dc.l1, hZ.f]
   rw [dz (by omega), cdT, aW (by omega), bS, bS, show decide ((l[i].aD.length : Int) > 16) = false by simp; omega, cdF, aU (by omega)]
   exact ih (i + 1) fuel (by omega) (by omega)
 rw [show dc.l1 l 2000 0 0 = some (-1) from key l.length 0 2000 (by omega) (by omega), bS]
 rfl
theorem yi (l : List ag) (a : Int) (i : Nat) (t : ag) (ha : a > 0) (hp : t.aD.length ≤ 100) (h : sZ l a i t) : cb.f 2000 a t.bd t.bV t.aD = some true := by
 unfold cb.f
 have h1 := h.EJ; have h2 := h.EI
 have hnd : t.aD.Nodup := List.nodup_iff_count.2 fun p => by
  by_cases hm : p ∈ t.aD
  ·obtain ⟨q, hq, rfl⟩ := List.getElem_of_mem hm
   exact Nat.le_of_eq (h.mU q hq).2.2
  ·rw [List.count_eq_zero_of_not_mem hm]; omega
 have h0 : (0 : Int) ∉ t.aD := fun hm => by
  obtain ⟨q, hq, e⟩ := List.getElem_of_mem hm
  have := (h.mU q hq).1
  omega
 have ha' : a ∉ t.aD := fun hm => by
  obtain ⟨q, hq, e⟩ := List.getElem_of_mem hm
  exact (h.mU q hq).2.1 e
 rw [decide_eq_true (show t.bd ≥ 1 by omega), decide_eq_true (show t.bd ≤ 4094 by omega), decide_eq_true (show t.bV ≥ 0 by omega), decide_eq_true (show t.bV ≤ 16777215 by omega)]
 rw [Bool.and_true, Bool.and_true, Bool.and_true, cdT, uD _ (by omega) hnd, bS]
 unfold cb.k3
 rw [Bool.not_false, cdT, gW _ _ (by omega), bS, decide_eq_false h0]
 unfold cb.k2
 rw [Bool.not_false, cdT, gW _ _ (by omega), bS, decide_eq_false ha']
 rfl
theorem BC (a : Int) (l : List ag) (hl : l.length ≤ 12) (hp : ∀ s ∈ l, s.aD.length ≤ 20) (h : ab.f 2000 a l = some 0) : aZ.f 2000 a l = some 0 := by
 obtain ⟨ha, h16, hg⟩ := vc a l hl hp h
 unfold aZ.f
 rw [show decide ((l.length : Int) > 256) = false by simp; omega, cdF, wL l (by omega) h16, bS]
 unfold aZ.k1
 rw [cdF, show (a != 0) = true by simp; omega]
 have nv : (l.map (·.bd)).Nodup := List.pairwise_iff_getElem.2 fun i j hi hj hij => by
  simp only [List.length_map] at hi hj
  rw [List.getElem_map, List.getElem_map]
  exact ((hg j hj).other i hi hij).1
 have nn : (l.map (·.bV)).Nodup := List.pairwise_iff_getElem.2 fun i j hi hj hij => by
  simp only [List.length_map] at hi hj
  rw [List.getElem_map, List.getElem_map]
  exact ((hg j hj).other i hi hij).2
 obtain ⟨r, hr, rfl⟩ := cq (P := fun r : Int => r = 0) l.length (fun i (st : List Int × List Int) => st = ((l.take i).map (·.bd), (l.take i).map (·.bV))) (fun n st i => aZ.l3 l 2000 a n st.1 st.2 true (i : Int)) (fun n st hst => by
   subst hst
   simp only [aZ.l3]
   rw [dO (Nat.le_refl _), cdF, Bool.not_true, cdF, List.take_length, th _ (by simp; omega) nv, bS]
   unfold aZ.k5
   rw [cdF, th _ (by simp; omega) nn, bS]
   exact ⟨_, rfl, rfl⟩) (fun n i st hi hst hk => by
   subst hst
   have h20 := hp _ (List.getElem_mem hi)
   simp only [aZ.l3]
   rw [dz hi, cdT, aW hi, bS, cO (by simp; omega) (by simp; omega), bS, cO (by simp; omega) (by simp; omega), bS, cdT, yi l a i l[i] ha (by omega) (hg i hi), bS]
   unfold aZ.k2
   rw [aU (by omega)]
   exact hk (_, _) (by rw [List.take_succ_eq_append_getElem hi, List.map_append, List.map_append]; rfl)) (fuel := 2000) ([], []) (by omega) (by simp)
 exact hr
theorem vx (g : ah) (hg : ji g) (h : aB.f 2000 g.aK g.bx g.Ip g.aX g.bt g.bz g.aO g.cj g.cm g.a7 g.cT g.bu = some 0) : eM.f 2000 g.aK g.bx g.Ip g.aX g.bt g.bz g.aO g.cj g.cm g.a7 g.cT g.bu = some 0 := by
 have hp := hg.mT
 unfold aB.f at h
 obtain ⟨r, hr, h0⟩ := cq (P := fun r : Int => r = 0 → eM.f 2000 g.aK g.bx g.Ip g.aX g.bt g.bz g.aO g.cj g.cm g.a7 g.cT g.bu = some 0) g.aX.length (fun i (st : List Int) => st = List.replicate i 1) (fun n st i => aB.l1 g.aX 2000 g.bz g.aK g.bt g.cj g.aO g.a7 g.Ip g.cm g.bx g.cT n st (i : Int)) (fun n st hst => by
   subst hst
   simp only [aB.l1]
   obtain ⟨r1, e1⟩ := ry g.aX g.bz hg.mT hg.uA
   obtain ⟨⟨r2, r2'⟩, e2⟩ := rz g.aK (List.replicate g.aX.length 1) g.bt (by simp; omega)
   obtain ⟨r3, e3⟩ := nZ g.bz.Room g.cj
   obtain ⟨r4, e4⟩ := nY g.aO
   obtain ⟨r5, e5⟩ := te g.a7 hg.pT
   obtain ⟨r6, e6⟩ := oQ g.Ip g.cm hg.wM hg.mU
   rw [dO (Nat.le_refl _), cdF, e1, bS, e2, bS, e3, bS, e4, bS, e5, bS, e6]
   simp only [bS]
   have bad : ∃ r, aB.k2 g.aO g.bx g.Ip g.aK g.cT false = some r ∧ (r = 0 → eM.f 2000 g.aK g.bx g.Ip g.aX g.bt g.bz g.aO g.cj g.cm g.a7 g.cT g.bu = some 0) := ⟨240, rfl, fun h => by cases h⟩
   by_cases hc : (((((r1 == 0) && (r2' == 0)) && (r3 == 0)) && (r4 == 0)) && r5) = true
   ·rw [hc, cdT]
    simp only [Bool.and_eq_true, beq_iff_eq] at hc
    obtain ⟨⟨⟨⟨rfl, rfl⟩, rfl⟩, rfl⟩, rfl⟩ := hc
    by_cases h6 : r6 = 0
    ·subst h6
     unfold aB.k2
     rw [show ((0 : Int) == 0) = true by rfl, Bool.not_true, Bool.false_or]
     cases hf : (((((g.aO.bx != g.bx) || (g.aO.Ip != g.Ip)) || (g.aK == 0)) || (decide (g.cT < 68))) || (decide (g.cT > 65535)))
     ·rw [cdF]
      refine ⟨0, rfl, fun _ => ?_⟩
      unfold eM.f
      obtain ⟨s, hs⟩ := vF g.aK g.aX.length g.bt hp (yz g.aK g.aX.length g.bt r2 hp e2)
      rw [oP g hg, bS, oF _ hp, bS, rV _ _ hp hg.uA e1, bS, hs, bS]
      dsimp only
      rw [vi _ _ e3, bS, yA _ e4, bS, z8 _ hg.pT hg.ED e5, bS, BC _ _ hg.wM hg.mU e6, bS]
      rw [show (!(((((true && ((0 : Int) == 0)) && ((0 : Int) == 0)) && ((0 : Int) == 0)) && ((0 : Int) == 0)) && ((0 : Int) == 0))) = false by rfl, Bool.false_or, hf, cdF]
     ·exact ⟨240, rfl, fun h => by cases h⟩
    ·rw [show (r6 == 0) = false by simp [h6]]
     exact bad
   ·rw [Bool.not_eq_true] at hc
    rw [hc, cdF]
    exact bad) (fun n i st hi hst hk => by
   subst hst
   simp only [aB.l1]
   rw [dz hi, cdT, cO (by simp; omega) (by simp; omega), bS, aU (by omega)]
   exact hk _ (by rw [List.replicate_succ'])) (fuel := 2000) [] (by omega) rfl
 have hr' : aB.l1 g.aX 2000 g.bz g.aK g.bt g.cj g.aO g.a7 g.Ip g.cm g.bx g.cT 2000 [] 0 = some r := hr
 rw [hr'] at h
 exact h0 (oI h)
def bn (x y : ah) : Prop := x.Ip ≠ y.Ip ∧ x.bx ≠ y.bx ∧ x.aK ≠ y.aK
theorem Bn (i9 : Nat) (l : List ah) (h9 : i9 < l.length) (hl : l.length ≤ 3) (rec : Int → Int → Option Int) : ∀ (fuel j : Nat), j ≤ i9 → ak.l4 (i9 : Int) l rec fuel 0 (j : Int) = some 0 →
  (∀ (q : Nat) (hq : q < i9), j ≤ q → bn l[i9] l[q]) ∧ rec 0 (((i9 + 1 : Nat)) : Int) = some 0
 | 0, j, _, h => by cases h
 | fuel + 1, j, hj, h => by
  simp only [ak.l4] at h
  by_cases hlt : j < i9
  ·rw [dz hlt, cdT, aW h9, bS, aW (by omega), bS] at h
   by_cases h1 : l[i9].Ip = l[j].Ip
   ·rw [show (l[i9].Ip == l[j].Ip) = true by simp [h1], cdT] at h
    unfold ak.k3 ak.k2 at h
    rw [cdT, cdT] at h
    cases h
   ·rw [show (l[i9].Ip == l[j].Ip) = false by simp [h1], cdF, bS, bS] at h
    unfold ak.k3 at h
    by_cases h2 : l[i9].bx = l[j].bx
    ·rw [show (l[i9].bx == l[j].bx) = true by simp [h2], cdT] at h
     unfold ak.k2 at h
     rw [cdT] at h
     cases h
    ·rw [show (l[i9].bx == l[j].bx) = false by simp [h2], cdF, aW h9, bS, aW (by omega), bS] at h
     unfold ak.k2 at h
     by_cases h3 : l[i9].aK = l[j].aK
     ·rw [show (l[i9].aK == l[j].aK) = true by simp [h3], cdT] at h
      cases h
     ·rw [show (l[i9].aK == l[j].aK) = false by simp [h3], cdF, aU (by omega)] at h
      obtain ⟨h4, h5⟩ := Bn i9 l h9 hl rec fuel (j + 1) (by omega) h
      refine ⟨fun q hq hjq => ?_, h5⟩
      by_cases e : q = j
      ·subst e; exact ⟨h1, h2, h3⟩
      ·exact h4 q hq (by omega)
  ·rw [dO (by omega), cdF, aU (by omega)] at h
   exact ⟨fun q hq hjq => by omega, h⟩
theorem Bm (l : List ah) (hl : l.length ≤ 3) : ∀ (fuel i : Nat), i ≤ l.length → ak.l5 l 2000 fuel 0 (i : Int) = some 0 → ∀ (k : Nat) (hk : k < l.length), i ≤ k → ∀ (q : Nat) (hq : q < k), bn l[k] l[q]
 | 0, i, _, h => by cases h
 | fuel + 1, i, hi, h => by
  intro k hk hik q hq
  have hlt : i < l.length := by omega
  simp only [ak.l5] at h
  rw [dz hlt, cdT] at h
  have h' : ak.l4 (i : Int) l (ak.l5 l 2000 fuel) 2000 0 ((0 : Nat) : Int) = some 0 := h
  obtain ⟨h1, h2⟩ := Bn i l hlt hl _ 2000 0 (by omega) h'
  by_cases e : k = i
  ·subst e; exact h1 q hq (by omega)
  ·exact Bm l hl fuel (i + 1) (by omega) h2 k hk (by omega) q hq
theorem qA (l : List ah) (hl : l.length ≤ 3) (h : ak.f 2000 l = some 0) : (∀ (k : Nat) (hk : k < l.length), aB.f 2000 l[k].aK l[k].bx l[k].Ip l[k].aX l[k].bt l[k].bz l[k].aO l[k].cj l[k].cm l[k].a7 l[k].cT l[k].bu = some 0) ∧ ∀ (k : Nat) (hk : k < l.length) (q : Nat) (hq : q < k), bn l[k] l[q] := by
 unfold ak.f at h
 rw [show decide ((l.length : Int) > 16) = false by simp; omega, cdF] at h
 have key : ∀ (fuel i : Nat), i ≤ l.length → ak.l1 l 2000 fuel 0 (i : Int) = some 0 → (∀ (k : Nat) (hk : k < l.length), i ≤ k → aB.f 2000 l[k].aK l[k].bx l[k].Ip l[k].aX l[k].bt l[k].bz l[k].aO l[k].cj l[k].cm l[k].a7 l[k].cT l[k].bu = some 0) ∧ ak.l5 l 2000 2000 0 0 = some 0 := by
  intro fuel
  induction fuel with
  | zero => intro i _ h; cases h
  | succ fuel ih =>
   intro i hi h
   simp only [ak.l1] at h
   by_cases hlt : i < l.length
   ·rw [dz hlt, cdT, aW hlt, bS] at h
    obtain ⟨r, hr, h⟩ := bind_some h
    by_cases h0 : r = 0
    ·subst h0
     rw [show ((0 : Int) != 0) = false by rfl, cdF, aU (by omega)] at h
     obtain ⟨h1, h2⟩ := ih (i + 1) (by omega) h
     refine ⟨fun k hk hik => ?_, h2⟩
     by_cases e : k = i
     ·subst e; exact hr
     ·exact h1 k hk (by omega)
    ·rw [show (r != 0) = true by simp [h0], cdT] at h
     exact absurd (oI h) h0
   ·rw [dO (by omega), cdF] at h
    exact ⟨fun k hk hik => by omega, h⟩
 obtain ⟨h1, h2⟩ := key 2000 0 (by omega) h
 exact ⟨fun k hk => h1 k hk (by omega), fun k hk q hq => Bm l hl 2000 0 (by omega) h2 k hk (by omega) q hq⟩
theorem yj (a : Bool) (b : Int) (l : List Int) (hl : l.length ≤ 100) : aP.f 2000 a b l = ay.f 2000 a b l := by
 unfold ay.f aP.f
 cases a
 ·simp only [Bool.not_false, cdT, fW.f, bS]
 ·simp only [Bool.not_true, cdF]
  have key : ∀ (r pre : List Int) (f1 f2 : Nat) (prev : Int), l = pre ++ r → r.length < f1 → r.length < f2 → ((pre = [] ∧ prev = 0) ∨ ∃ p0, pre = p0 ++ [prev]) → 0 ≤ prev → aP.l3 l b 2000 f2 false (pre.length : Int) = ay.l2 l b 2000 f1 false prev (pre.length : Int) := by
   intro r
   induction r with
   | nil =>
    intro pre f1 f2 prev e hf1 hf2 hp h0
    obtain ⟨f1, rfl⟩ : ∃ q, f1 = q + 1 := ⟨f1 - 1, by omega⟩
    obtain ⟨f2, rfl⟩ : ∃ q, f2 = q + 1 := ⟨f2 - 1, by omega⟩
    have hlen : l.length = pre.length := by rw [e]; simp
    simp only [ay.l2, aP.l3]
    rw [dO (by omega), cdF, cdF]
    cases hb : (b == 0)
    ·rw [cdF, cdF, oy l b (by omega), qn l b (by omega), bS, bS]
     rfl
    ·rfl
   | cons x r ih =>
    intro pre f1 f2 prev e hf1 hf2 hp h0
    obtain ⟨f1, rfl⟩ : ∃ q, f1 = q + 1 := ⟨f1 - 1, by omega⟩
    obtain ⟨f2, rfl⟩ : ∃ q, f2 = q + 1 := ⟨f2 - 1, by omega⟩
    have hlen : l.length = pre.length + (r.length + 1) := by rw [e]; simp
    have hx : l[pre.length]'(by omega) = x := by simp [e]
    simp only [ay.l2, aP.l3]
    rw [dz (by omega), cdT, cdT, aW (by omega), bS, bS, hx]
    unfold fW.f
    rw [bS]
    by_cases h1 : x ≤ prev
    ·rw [decide_eq_true h1, cdT]
     unfold ay.k1
     rw [cdT]
     cases hv : !((decide (x ≥ 1)) && (decide (x ≤ 4094)))
     ·rw [cdF]
      rcases hp with ⟨rfl, rfl⟩ | ⟨p0, rfl⟩
      ·exfalso
       rw [decide_eq_false (show ¬ x ≥ 1 by omega)] at hv
       cases hv
      ·have hpl : (p0 ++ [prev]).length = p0.length + 1 := by simp
       have hg : cI l.length l (i64 (((p0 ++ [prev]).length : Int) - 1)) = some prev := by
        rw [lA (by omega), show ((p0 ++ [prev]).length : Int) - 1 = (p0.length : Int) by omega, aW (by omega)]
        simp [e]
       rw [show decide (((p0 ++ [prev]).length : Int) > 0) = true by rw [hpl]; simp, cdT, hg, bS, decide_eq_true h1]
       unfold aP.k1 aP.k2
       rfl
     ·rw [cdT]
      unfold aP.k2
      rfl
    ·rw [decide_eq_false h1, cdF, bS]
     by_cases h2 : x > 4094
     ·rw [decide_eq_true h2, decide_eq_false (show ¬ x ≤ 4094 by omega), Bool.and_false, Bool.not_false, cdT]
      unfold aP.k2 ay.k1
      rfl
     ·rw [decide_eq_false h2]
      unfold ay.k1
      rw [cdF, aW (by omega), bS, hx, aU (by omega)]
      have hv : ((decide (x ≥ 1)) && (decide (x ≤ 4094))) = true := by
       rw [decide_eq_true (by omega), decide_eq_true (by omega)]; rfl
      have hn := ih (pre ++ [x]) f1 f2 x (by rw [e]; simp) (by simp at hf1; omega) (by simp at hf2; omega) (.inr ⟨pre, rfl⟩) (by omega)
      rw [List.length_append, List.length_singleton] at hn
      rw [hv, Bool.not_true, cdF]
      rcases hp with ⟨rfl, rfl⟩ | ⟨p0, rfl⟩
      ·rw [show decide ((([] : List Int).length : Int) > 0) = false by decide, cdF]
       unfold aP.k1 aP.k2
       rw [cdF, aU (by simp)]
       exact hn
      ·have hpl : (p0 ++ [prev]).length = p0.length + 1 := by simp
       have hg : cI l.length l (i64 (((p0 ++ [prev]).length : Int) - 1)) = some prev := by
        rw [lA (by omega), show ((p0 ++ [prev]).length : Int) - 1 = (p0.length : Int) by omega, aW (by omega)]
        simp [e]
       rw [show decide (((p0 ++ [prev]).length : Int) > 0) = true by rw [hpl]; simp, cdT, hg, bS, decide_eq_false h1]
       unfold aP.k1 aP.k2
       rw [cdF, aU (by omega)]
       exact hn
  exact key l [] 2000 2000 0 rfl (by omega) (by omega) (.inl ⟨rfl, rfl⟩) (by omega)
theorem vf (l : List aa) (a : ba) (hl : l.length ≤ 5) (hv : ∀ p ∈ l, p.cS.length ≤ 12) : ∃ r, cc.f 2000 l a = some r ∧ (r = 0 → aV.f 2000 l a = some 0) := by
 have hv' : ∀ (i : Nat) (hi : i < l.length), l[i].cS.length ≤ 12 := fun i hi => hv _ (List.getElem_mem hi)
 have hd : ∀ (j i fuel : Nat), i + j = l.length → j < fuel → ∃ q : Int, bU.l1 l 2000 fuel 0 (i : Int) = some q ∧ (¬ q ≥ 0 → aV.l1 l 2000 a fuel 0 (i : Int) = aV.l1 l 2000 a (fuel - j) 0 (l.length : Int)) := by
  intro j
  induction j with
  | zero =>
   intro i fuel e hf
   obtain ⟨fuel, rfl⟩ : ∃ q, fuel = q + 1 := ⟨fuel - 1, by omega⟩
   simp only [bU.l1]
   rw [dO (by omega), cdF]
   refine ⟨_, rfl, fun _ => ?_⟩
   rw [show i = l.length by omega]
   rfl
  | succ j ih =>
   intro i fuel e hf
   obtain ⟨fuel, rfl⟩ : ∃ q, fuel = q + 1 := ⟨fuel - 1, by omega⟩
   have hlt : i < l.length := by omega
   obtain ⟨c, hc⟩ := oE l[i].bT l[i].cU l[i].cS (by have := hv' i hlt; omega)
   simp only [bU.l1, gA.f]
   rw [dz hlt, cdT, aW hlt, bS, yj _ _ _ (by have := hv' i hlt; omega), hc, bS, bS]
   cases c
   ·exact ⟨_, rfl, fun h => absurd (show (i : Int) ≥ 0 by omega) h⟩
   ·rw [Bool.not_true, cdF, aU (by omega)]
    obtain ⟨q, h1, h2⟩ := ih (i + 1) fuel (by omega) (by omega)
    refine ⟨q, h1, fun h => ?_⟩
    rw [show fuel + 1 - (j + 1) = fuel - j by omega, ← h2 h]
    simp only [aV.l1]
    rw [dz hlt, cdT, aW hlt, bS, hc, bS, Bool.not_true, cdF, aU (by omega)]
 obtain ⟨q, h1, h2⟩ := hd l.length 0 2000 (by omega) (by omega)
 have h1' : bU.l1 l 2000 2000 0 0 = some q := h1
 unfold cc.f eR.f bU.f
 rw [show decide ((l.length : Int) > 64) = false by simp; omega, cdF, h1', bS, bS]
 unfold cc.k1
 by_cases hq : q ≥ 0
 ·rw [decide_eq_true hq]
  exact ⟨1, rfl, fun h => by cases h⟩
 ·rw [decide_eq_false hq, cdF]
  have hdoc : aV.f 2000 l a = aV.l1 l 2000 a (2000 - l.length) 0 (l.length : Int) := by
   unfold aV.f
   rw [show decide ((l.length : Int) > 64) = false by simp; omega, cdF]
   exact h2 hq
  obtain ⟨r, hr⟩ := rA a
  rw [show lQ.f a = some r from hr, bS]
  by_cases h0 : r = 0
  ·subst h0
   rw [show ((0 : Int) != 0) = false by rfl, cdF]
   have hok : aV.f 2000 l a = some 0 := by
    rw [hdoc]
    obtain ⟨n, hn⟩ : ∃ n, 2000 - l.length = n + 1 := ⟨2000 - l.length - 1, by omega⟩
    rw [hn]
    simp only [aV.l1]
    rw [dO (Nat.le_refl _), cdF, hr, bS, show ((0 : Int) != 0) = false by rfl, cdF, cO (by omega) (by omega), bS, show jW 8 (l.length : Int) = some l.length by (unfold jW; rw [if_pos (by omega)]; simp), bS]
   have hb := rV l a hl hv hok
   unfold cc.f eR.f bU.f at hb
   rw [show decide ((l.length : Int) > 64) = false by simp; omega, cdF, h1', bS, bS] at hb
   unfold cc.k1 at hb
   rw [decide_eq_false hq, cdF, show lQ.f a = some 0 from hr, bS, show ((0 : Int) != 0) = false by rfl, cdF] at hb
   exact ⟨0, hb, fun _ => hok⟩
  ·rw [show (r != 0) = true by simp [h0], cdT]
   exact ⟨r, rfl, fun h => absurd h h0⟩
theorem xX (b : Int) (n : Nat) (e : List Bool) (hn : n ≤ 5) : ∃ s c, cW.f 2000 b (List.replicate n 1) e = some (s, c) ∧ (c = 0 → ∃ s', aM.f 2000 b (List.replicate n 1) e = some (s', 0)) := by
 by_cases he : e.length = n
 ·obtain ⟨s, hs⟩ := vF b n e hn he
  refine ⟨s, 0, hs, fun _ => ?_⟩
  unfold aM.f
  rw [List.length_replicate, show decide (((n : Nat) : Int) > 64) = false by simp; omega, he, show (((n : Nat) : Int) != (n : Int)) = false by simp, Bool.or_false, cdF]
  obtain ⟨r, hr, h0⟩ := cq (P := fun r : dT × Int => r.2 = 0) n (fun i (st : List an) => st.length = i) (fun q st i => aM.l3 (List.replicate n 1) e b q 0 (i : Int) st) (fun q st hst => by
   simp only [aM.l3]
   rw [dO (by simp), cdF]
   exact ⟨_, rfl, rfl⟩) (fun q i st hi hst hk => by
   simp only [aM.l3]
   rw [dz (by simp; omega), cdT, aW (by simp; omega), bS, List.getElem_replicate, show decide ((1 : Int) < 1) = false by rfl, cdF, bS]
   unfold aM.k2
   rw [show decide ((1 : Int) > 16777216) = false by rfl, cdF, aW (by omega), bS, aW (by simp; omega), bS, cO (by simp; omega) (by simp; omega), bS, aU (by omega)]
   exact hk _ (by simp [hst])) (fuel := 2000) [] (by omega) rfl
  obtain ⟨s', c⟩ := r
  obtain rfl : c = 0 := h0
  exact ⟨s', hr⟩
 ·unfold cW.f
  rw [List.length_replicate, show (((n : Nat) : Int) != (e.length : Int)) = true by simp; omega, Bool.or_true, cdT]
  exact ⟨_, 1, rfl, fun h => by cases h⟩
theorem xa (a : bj) (hm : 0 ≤ a.bx ∧ a.bx ≤ 18446744073709551615) : bZ.f a = aF.f a := by
 obtain ⟨v, hv⟩ : ∃ v : Nat, a.bx = v := ⟨a.bx.toNat, by omega⟩
 unfold bZ.f aF.f
 rw [hv, tK v (by omega), rj v (by omega)]
 rfl
theorem BY (n : bA) (hi : 0 ≤ n.Ip ∧ n.Ip ≤ 4294967295) : dL.f 2000 n = bl.f 2000 n := by
 obtain ⟨r, hr⟩ := n0 n
 by_cases h : bl.f 2000 n = some true
 ·rw [h]; exact (su n hi h).2
 ·obtain ⟨ip, bits⟩ := n
  dsimp only at hi
  by_cases hb : 0 ≤ bits ∧ bits ≤ 32
  ·have hc : ((decide (bits ≥ 0)) && (decide (bits ≤ 32))) = true := by
    rw [decide_eq_true hb.1, decide_eq_true hb.2]; rfl
   obtain ⟨b, rfl⟩ : ∃ b : Nat, bits = b := ⟨bits.toNat, by omega⟩
   obtain ⟨v, rfl⟩ : ∃ v : Nat, ip = v := ⟨ip.toNat, by omega⟩
   have hbl : b ≤ 32 := by omega
   have hp : (2 : Nat) ^ (32 - b) ≤ 2 ^ 32 := Nat.pow_le_pow_right (by omega) (by omega)
   have hp0 : 0 < (2 : Nat) ^ (32 - b) := Nat.pow_pos (by omega)
   unfold dL.f bl.f
   dsimp only
   rw [hc, cdT, cdT, rk _ b hbl, qc _ b hbl, bS, bS, pz (by omega)]
   unfold o3
   rw [if_neg (by omega), bS, show Int.tmod (v : Int) ((2 ^ (32 - b) : Nat) : Int) = ((v % 2 ^ (32 - b) : Nat) : Int) from rfl, uo (by omega) (by omega), Nat.and_two_pow_sub_one_eq_mod]
   rfl
  ·have hc : ((decide (bits ≥ 0)) && (decide (bits ≤ 32))) = false := by
    rw [Bool.eq_false_iff]; intro h2
    rw [Bool.and_eq_true, decide_eq_true_eq, decide_eq_true_eq] at h2
    exact hb h2
   unfold dL.f bl.f
   dsimp only
   rw [hc, cdF, cdF]
   rfl
theorem yu (l : List aj) (a : aj) (h : l.length ≤ 100) (hn : bl.f 2000 a.To = some true) : ∃ r, cn.f 2000 l a = some (0, r) ∧ r.length ≤ l.length + 1 := by
 unfold cn.f
 rw [hn, bS, Bool.not_true, cdF]
 obtain ⟨r, hr, h2⟩ := oG l a.To h
 rw [hr, bS]
 by_cases h0 : r ≥ 0
 ·have h3 : 0 ≤ r ∧ r < l.length := by rcases h2 with h2 | h2 <;> omega
  obtain ⟨q, rfl⟩ : ∃ q : Nat, r = q := ⟨r.toNat, by omega⟩
  rw [decide_eq_true h0, cdT, aW (by omega), bS]
  exact ⟨_, rfl, by simp⟩
 ·rw [decide_eq_false h0, cdF, show decide ((l.length : Int) ≥ 256) = false by simp; omega, cdF, cO (by simp; omega) (by simp; omega), bS]
  exact ⟨_, rfl, by simp⟩
theorem xA (l : List aj) (hl : l.length ≤ 8) (h : ∀ (i : Nat) (hi : i < l.length), bl.f 2000 l[i].To = some true) : a6.f 2000 l = some true := by
 unfold a6.f
 obtain ⟨r, hr, rfl⟩ := cq (P := fun r : Bool => r = true) l.length (fun i (st : List aj) => st.length ≤ i) (fun n st i => a6.l1 l 2000 n false (i : Int) st) (fun n st hst => by
   simp only [a6.l1]
   rw [dO (Nat.le_refl _), cdF]
   exact ⟨_, rfl, rfl⟩) (fun n i st hi hst hk => by
   simp only [a6.l1]
   obtain ⟨q, hq, hl⟩ := yu st l[i] (by omega) (h i hi)
   rw [dz hi, cdT, aW hi, bS, hq, bS]
   dsimp only
   rw [show ((0 : Int) != 0) = false by rfl, cdF, aU (by omega)]
   exact hk _ (by omega)) (fuel := 2000) [] (by omega) (Nat.le_refl _)
 exact hr
theorem yN (l : List aj) (hl : l.length ≤ 8) (hi : ∀ x ∈ l, 0 ≤ x.To.Ip ∧ x.To.Ip ≤ 4294967295) : ∃ r, da.f 2000 l = some r ∧ (r = true → a6.f 2000 l = some true) := by
 have key : ∀ (j i fuel : Nat) (st : List (aS Int)), i + j = l.length → j < fuel → st.length = 33 → total st ≤ i → ∃ r, da.l1 l 2000 fuel false (i : Int) st = some r ∧ (r = true → ∀ (k : Nat) (hk : k < l.length), i ≤ k → bl.f 2000 l[k].To = some true) := by
  intro j
  induction j with
  | zero =>
   intro i fuel st e hf h1 h2
   obtain ⟨fuel, rfl⟩ : ∃ q, fuel = q + 1 := ⟨fuel - 1, by omega⟩
   simp only [da.l1]
   rw [dO (by omega), cdF]
   exact ⟨_, rfl, fun _ k hk hik => by omega⟩
  | succ j ih =>
   intro i fuel st e hf h1 h2
   obtain ⟨fuel, rfl⟩ : ∃ q, fuel = q + 1 := ⟨fuel - 1, by omega⟩
   have hlt : i < l.length := by omega
   simp only [da.l1]
   rw [dz hlt, cdT, aW hlt, bS]
   obtain ⟨c, hc⟩ := n0 l[i].To
   have hne := BY l[i].To (hi _ (List.getElem_mem hlt))
   cases c
   ·unfold cf.f
    rw [hne, hc, bS, Bool.not_false, cdT, bS]
    exact ⟨false, rfl, fun h => by cases h⟩
   ·obtain ⟨hb, hn2⟩ := su l[i].To (hi _ (List.getElem_mem hlt)) hc
    obtain ⟨ms', hp, q1, q2⟩ := Bd st l[i] h1 (by omega) hb hn2
    rw [hp, bS]
    dsimp only
    rw [show ((0 : Int) != 0) = false by rfl, cdF, aU (by omega)]
    obtain ⟨r, hr, h3⟩ := ih (i + 1) fuel ms' (by omega) (by omega) q1 (by omega)
    refine ⟨r, hr, fun hrt k hk hik => ?_⟩
    by_cases e : k = i
    ·subst e; exact hc
    ·exact h3 hrt k hk (by omega)
 obtain ⟨r, hr, h⟩ := key l.length 0 2000 (List.replicate 33 (aS.nil : aS Int)) (by omega) (by omega) rfl (by decide)
 unfold da.f ee.f
 rw [if_pos (by omega), bS]
 exact ⟨r, hr, fun hrt => xA l hl fun i hi2 => h hrt i hi2 (by omega)⟩
theorem nL (l : List Int) (hl : l.length ≤ 1000) : ∃ c, bD.f 2000 l = some c ∧ (c = false → l.Nodup) := by
 unfold bD.f
 have key : ∀ (r pre : List Int) (fuel : Nat) (m : aS Bool), l = pre ++ r → r.length < fuel → gG m pre → pre.Nodup → ∃ c, bD.l1 l fuel false (pre.length : Int) m = some c ∧ (c = false → l.Nodup) := by
  intro r
  induction r with
  | nil =>
   intro pre fuel m e hf hm hnd
   obtain ⟨fuel, rfl⟩ : ∃ q, fuel = q + 1 := ⟨fuel - 1, by omega⟩
   subst e
   simp only [bD.l1]
   rw [dO (by simp), cdF]
   exact ⟨_, rfl, fun _ => by simpa using hnd⟩
  | cons x r ih =>
   intro pre fuel m e hf hm hnd
   obtain ⟨fuel, rfl⟩ : ∃ q, fuel = q + 1 := ⟨fuel - 1, by omega⟩
   have hlen : l.length = pre.length + (r.length + 1) := by rw [e]; simp
   simp only [bD.l1]
   have hx : l[pre.length]'(by omega) = x := by simp [e]
   rw [dz (by omega), cdT, aW (by omega), bS, hx, hm.get]
   by_cases hn : x ∈ pre
   ·rw [decide_eq_true hn, cdT]
    exact ⟨_, rfl, fun h => by cases h⟩
   ·rw [decide_eq_false hn, cdF, aU (by omega)]
    have := ih (pre ++ [x]) fuel (m.set x true) (by rw [e]; simp) (by simp at hf; omega) (hm.set hn) (by
     rw [List.nodup_append]
     exact ⟨hnd, by simp, fun a ha b hb e => by rw [List.mem_singleton] at hb; exact hn (by rw [← hb, ← e]; exact ha)⟩)
    rw [List.length_append, List.length_singleton] at this
    exact this
 exact key l [] 2000 aS.nil rfl (by omega) gG.nil (by simp)
theorem tg (l : List Int) (hl : l.length ≤ 1000) : ∃ c, bB.f 2000 l = some c ∧ (c = false → l.Nodup) := by
 have e : ∀ (fuel : Nat) (b : Bool) (i : Int) (m : aS Bool), bB.l1 l fuel b i m = bD.l1 l fuel b i m := by
  intro fuel
  induction fuel with
  | zero => intro b i m; rfl
  | succ n ih => intro b i m; simp only [bB.l1, bD.l1, ih]
 obtain ⟨c, h1, h2⟩ := nL l hl
 refine ⟨c, ?_, h2⟩
 rw [← h1]
 unfold bB.f bD.f
 exact e _ _ _ _
structure kb (a : Int) (t : ag) : Prop where
 EJ : t.bd ≥ 1 ∧ t.bd ≤ 4094
 EI : t.bV ≥ 0 ∧ t.bV ≤ 16777215
 nd : t.aD.Nodup
 zero : (0 : Int) ∉ t.aD
 own : a ∉ t.aD
theorem wR (a : Int) (t : ag) (hp : t.aD.length ≤ 100) : ∃ c, cb.f 2000 a t.bd t.bV t.aD = some c ∧ (c = true → kb a t) := by
 unfold cb.f
 have bad : ∃ c, cb.k3 2000 t.aD a false = some c ∧ (c = true → kb a t) := ⟨false, rfl, fun h => by cases h⟩
 cases hc : ((((decide (t.bd ≥ 1)) && (decide (t.bd ≤ 4094))) && (decide (t.bV ≥ 0))) && (decide (t.bV ≤ 16777215)))
 ·rw [cdF]; exact bad
 ·rw [cdT]
  simp only [Bool.and_eq_true, decide_eq_true_eq] at hc
  obtain ⟨c, h1, h2⟩ := tg t.aD (by omega)
  rw [h1, bS]
  cases c
  ·unfold cb.k3
   rw [Bool.not_false, cdT, gW _ _ (by omega), bS]
   by_cases h0 : (0 : Int) ∈ t.aD
   ·rw [decide_eq_true h0]
    exact ⟨false, rfl, fun h => by cases h⟩
   ·rw [decide_eq_false h0]
    unfold cb.k2
    rw [Bool.not_false, cdT, gW _ _ (by omega), bS]
    by_cases ha : a ∈ t.aD
    ·rw [decide_eq_true ha]
     exact ⟨false, rfl, fun h => by cases h⟩
    ·rw [decide_eq_false ha]
     exact ⟨true, rfl, fun _ => ⟨⟨hc.1.1.1, hc.1.1.2⟩, ⟨hc.1.2, hc.2⟩, h2 rfl, h0, ha⟩⟩
  ·rw [Bool.not_true]
   exact bad
theorem wK (l : List ag) (hl : l.length ≤ 100) : ∃ c, gS.f 2000 l = some c ∧ (c = false → ∀ s ∈ l, s.aD.length ≤ 16) := by
 unfold gS.f dc.f
 have key : ∀ (j i fuel : Nat), i + j = l.length → j < fuel → ∃ q, dc.l1 l fuel 0 (i : Int) = some q ∧ (¬ q ≥ 0 → ∀ (k : Nat) (hk : k < l.length), i ≤ k → l[k].aD.length ≤ 16) := by
  intro j
  induction j with
  | zero =>
   intro i fuel e hf
   obtain ⟨fuel, rfl⟩ : ∃ q, fuel = q + 1 := ⟨fuel - 1, by omega⟩
   simp only [dc.l1]
   rw [dO (by omega), cdF]
   exact ⟨_, rfl, fun _ k hk hik => by omega⟩
  | succ j ih =>
   intro i fuel e hf
   obtain ⟨fuel, rfl⟩ : ∃ q, fuel = q + 1 := ⟨fuel - 1, by omega⟩
   simp only [dc.l1, hZ.f]
   rw [dz (by omega), cdT, aW (by omega), bS, bS]
   by_cases h16 : l[i].aD.length ≤ 16
   ·rw [show decide ((l[i].aD.length : Int) > 16) = false by simp; omega, cdF, aU (by omega)]
    obtain ⟨q, h1, h2⟩ := ih (i + 1) fuel (by omega) (by omega)
    refine ⟨q, h1, fun hq k hk hik => ?_⟩
    by_cases e : k = i
    ·subst e; exact h16
    ·exact h2 hq k hk (by omega)
   ·rw [show decide ((l[i].aD.length : Int) > 16) = true by simp; omega, cdT]
    exact ⟨_, rfl, fun h => absurd (show (i : Int) ≥ 0 by omega) h⟩
 obtain ⟨q, h1, h2⟩ := key l.length 0 2000 (by omega) (by omega)
 rw [show dc.l1 l 2000 0 0 = some q from h1, bS]
 refine ⟨_, rfl, fun hq s hs => ?_⟩
 obtain ⟨i, hi, rfl⟩ := List.getElem_of_mem hs
 exact h2 (of_decide_eq_false hq) i hi (by omega)
structure rZ (a : Int) (l : List ag) : Prop where
 a0 : a ≠ 0
 Fx : ∀ s ∈ l, s.aD.length ≤ 16
 each : ∀ (k : Nat) (hk : k < l.length), kb a l[k]
 uA : (l.map (·.bd)).Nodup
 EH : (l.map (·.bV)).Nodup
theorem zA (a : Int) (l : List ag) (hl : l.length ≤ 12) (hp : ∀ s ∈ l, s.aD.length ≤ 20) : ∃ r, aZ.f 2000 a l = some r ∧ (r = 0 → rZ a l) := by
 unfold aZ.f
 rw [show decide ((l.length : Int) > 256) = false by simp; omega, cdF]
 obtain ⟨c, hc, h16⟩ := wK l (by omega)
 rw [hc, bS]
 unfold aZ.k1
 cases c
 ·rw [cdF]
  have key : ∀ (j i fuel : Nat) (b : Bool), i + j = l.length → j < fuel → ∃ r, aZ.l3 l 2000 a fuel ((l.take i).map (·.bd)) ((l.take i).map (·.bV)) b (i : Int) = some r ∧ (r = 0 → b = true ∧ (∀ (k : Nat) (hk : k < l.length), i ≤ k → kb a l[k]) ∧ (l.map (·.bd)).Nodup ∧ (l.map (·.bV)).Nodup) := by
   intro j
   induction j with
   | zero =>
    intro i fuel b e hf
    obtain ⟨fuel, rfl⟩ : ∃ q, fuel = q + 1 := ⟨fuel - 1, by omega⟩
    simp only [aZ.l3]
    rw [dO (by omega), cdF, List.take_of_length_le (by omega)]
    have bad : ∃ r, aZ.k5 2000 (l.map (·.bV)) true = some r ∧ (r = 0 → b = true ∧ (∀ (k : Nat) (hk : k < l.length), i ≤ k → kb a l[k]) ∧ (l.map (·.bd)).Nodup ∧ (l.map (·.bV)).Nodup) := ⟨210, rfl, fun h => by cases h⟩
    cases b
    ·rw [Bool.not_false, cdT]; exact bad
    ·rw [Bool.not_true, cdF]
     obtain ⟨c1, g1, g2⟩ := nL (l.map (·.bd)) (by simp; omega)
     rw [g1, bS]
     cases c1
     ·unfold aZ.k5
      rw [cdF]
      obtain ⟨c2, g3, g4⟩ := nL (l.map (·.bV)) (by simp; omega)
      rw [g3, bS]
      cases c2
      ·exact ⟨0, rfl, fun _ => ⟨rfl, fun k hk hik => by omega, g2 rfl, g4 rfl⟩⟩
      ·exact ⟨210, rfl, fun h => by cases h⟩
     ·exact bad
   | succ j ih =>
    intro i fuel b e hf
    obtain ⟨fuel, rfl⟩ : ∃ q, fuel = q + 1 := ⟨fuel - 1, by omega⟩
    have hlt : i < l.length := by omega
    have h20 := hp _ (List.getElem_mem hlt)
    have go : ∀ b', ∃ r, aZ.k2 ((l.take i).map (·.bd)) l[i] ((l.take i).map (·.bV)) (i : Int) (aZ.l3 l 2000 a fuel) b b' = some r ∧ (r = 0 → b' = true ∧ (∀ (k : Nat) (hk : k < l.length), i + 1 ≤ k → kb a l[k]) ∧ (l.map (·.bd)).Nodup ∧ (l.map (·.bV)).Nodup) := fun b' => by
     obtain ⟨r, h1, h2⟩ := ih (i + 1) fuel b' (by omega) (by omega)
     refine ⟨r, ?_, h2⟩
     rw [← h1]
     unfold aZ.k2
     rw [aU (by omega), List.take_succ_eq_append_getElem hlt, List.map_append, List.map_append]
     rfl
    simp only [aZ.l3]
    rw [dz hlt, cdT, aW hlt, bS, cO (by simp; omega) (by simp; omega), bS, cO (by simp; omega) (by simp; omega), bS]
    cases b
    ·rw [cdF]
     obtain ⟨r, h1, h2⟩ := go false
     exact ⟨r, h1, fun h => by have := (h2 h).1; cases this⟩
    ·rw [cdT]
     obtain ⟨c, h1, h2⟩ := wR a l[i] (by omega)
     rw [h1, bS]
     obtain ⟨r, h3, h4⟩ := go c
     refine ⟨r, h3, fun h => ?_⟩
     obtain ⟨k1, k2, k3⟩ := h4 h
     refine ⟨rfl, fun k hk hik => ?_, k3⟩
     by_cases e : k = i
     ·subst e; exact h2 k1
     ·exact k2 k hk (by omega)
  obtain ⟨r, h1, h2⟩ := key l.length 0 2000 (a != 0) (by omega) (by omega)
  refine ⟨r, h1, fun h => ?_⟩
  obtain ⟨k1, k2, k3, k4⟩ := h2 h
  exact ⟨by simpa using k1, h16 rfl, fun k hk => k2 k hk (by omega), k3, k4⟩
 ·exact ⟨2, rfl, fun h => by cases h⟩
theorem vR (t : ag) (a x9 : Int) (rec : Bool → Int → Option Int) (hl : t.aD.length ≤ 100) (hg : ∀ (q : Nat) (hq : q < t.aD.length), nA t a t.aD[q]) : ∀ (j' j fuel : Nat), j + j' = t.aD.length → j' < fuel → ab.l8 t 2000 a x9 rec fuel true (j : Int) = rec true (i64 (x9 + 1))
 | _, _, 0, _, h => by omega
 | 0, j, fuel + 1, e, h => by
  simp only [ab.l8]
  rw [dO (by omega), cdF]
 | j' + 1, j, fuel + 1, e, h => by
  have hlt : j < t.aD.length := by omega
  obtain ⟨h1, h2, h3⟩ := hg j hlt
  simp only [ab.l8]
  rw [dz hlt, cdT, cdT, aW hlt, bS]
  unfold ab.k7
  rw [decide_eq_true h1, cdT, aW hlt, bS]
  unfold ab.k6
  rw [show (t.aD[j] != a) = true by simp [h2], cdT, aW hlt, bS, pZ _ _ (by omega), bS]
  unfold ab.k5
  rw [h3, show (((1 : Nat) : Int) == 1) = true by rfl, aU (by omega)]
  exact vR t a x9 rec hl hg j' (j + 1) fuel (by omega) (by omega)
theorem vV (i9 : Nat) (l : List ag) (h9 : i9 ≤ l.length) (hl : l.length ≤ 100) (t : ag) (a : Int) (rec : Bool → Int → Option Int) (hg : ∀ (q : Nat) (hq : q < i9), l[q].bd ≠ t.bd ∧ l[q].bV ≠ t.bV) : ∀ (j' j fuel : Nat), j + j' = i9 → j' < fuel → ab.l4 (i9 : Int) l t 2000 a rec fuel true (j : Int) = ab.l8 t 2000 a (i9 : Int) rec 2000 true 0
 | _, _, 0, _, h => by omega
 | 0, j, fuel + 1, e, h => by
  simp only [ab.l4]
  rw [dO (by omega), cdF]
 | j' + 1, j, fuel + 1, e, h => by
  have hlt : j < l.length := by omega
  obtain ⟨h1, h2⟩ := hg j (by omega)
  simp only [ab.l4]
  rw [dz (by omega), cdT, cdT, aW hlt, bS]
  unfold ab.k3
  rw [show (l[j].bd != t.bd) = true by simp [h1], cdT, aW hlt, bS]
  unfold ab.k2
  rw [show (l[j].bV != t.bV) = true by simp [h2], aU (by omega)]
  exact vV i9 l h9 hl t a rec hg j' (j + 1) fuel (by omega) (by omega)
theorem uj (a : Int) (l : List ag) (hl : l.length ≤ 12) (ha : 0 ≤ a) (hpos : ∀ s ∈ l, ∀ p ∈ s.aD, 0 ≤ p) (h : rZ a l) : ab.f 2000 a l = some 0 := by
 have k9 : ∀ (j i fuel : Nat), i + j = l.length → j < fuel → ab.l9 l 2000 a fuel true (i : Int) = some 0 := by
  intro j
  induction j with
  | zero =>
   intro i fuel e hf
   obtain ⟨fuel, rfl⟩ : ∃ q, fuel = q + 1 := ⟨fuel - 1, by omega⟩
   simp only [ab.l9]
   rw [dO (by omega), cdF]
   rfl
  | succ j ih =>
   intro i fuel e hf
   obtain ⟨fuel, rfl⟩ : ∃ q, fuel = q + 1 := ⟨fuel - 1, by omega⟩
   have hlt : i < l.length := by omega
   have hr := h.each i hlt
   have h16 := h.Fx _ (List.getElem_mem hlt)
   have hv := hr.EJ
   have hn := hr.EI
   simp only [ab.l9]
   rw [dz hlt, cdT, aW hlt, bS]
   rw [show ((((true && (decide (l[i].bd > 0))) && (decide (l[i].bd < 4095))) && (decide (l[i].bV ≥ 0))) && (decide (l[i].bV < 16777216))) = true by
    rw [decide_eq_true (show l[i].bd > 0 by omega), decide_eq_true (show l[i].bd < 4095 by omega), decide_eq_true (show l[i].bV ≥ 0 by omega), decide_eq_true (show l[i].bV < 16777216 by omega)]; rfl]
   have e4 := vV i l (by omega) (by omega) l[i] a (ab.l9 l 2000 a fuel) (fun q hq => by
    have g1 := List.pairwise_iff_getElem.1 h.uA q i (by simp; omega) (by simpa using hlt) hq
    have g2 := List.pairwise_iff_getElem.1 h.EH q i (by simp; omega) (by simpa using hlt) hq
    simp only [List.getElem_map] at g1 g2
    exact ⟨g1, g2⟩) i 0 2000 (by omega) (by omega)
   have e8 := vR l[i] a (i : Int) (ab.l9 l 2000 a fuel) (by omega) (fun q hq => by
    have hm := List.getElem_mem hq
    have h0 := hpos _ (List.getElem_mem hlt) _ hm
    refine ⟨?_, fun e => hr.own (by rw [← e]; exact hm), ?_⟩
    ·have : l[i].aD[q] ≠ 0 := fun e => hr.zero (by rw [← e]; exact hm)
     omega
    ·have h1 := List.nodup_iff_count.1 hr.nd l[i].aD[q]
     have h2 := List.count_pos_iff.2 hm
     omega) l[i].aD.length 0 2000 (by omega) (by omega)
   have e4' : ab.l4 (i : Int) l l[i] 2000 a (ab.l9 l 2000 a fuel) 2000 true 0 = _ := e4
   have e8' : ab.l8 l[i] 2000 a (i : Int) (ab.l9 l 2000 a fuel) 2000 true 0 = _ := e8
   rw [e4', e8', aU (by omega)]
   exact ih (i + 1) fuel (by omega) (by omega)
 have k1 : ∀ (j i fuel : Nat), i + j = l.length → j < fuel → ab.l1 l 2000 a fuel 0 (i : Int) = some 0 := by
  intro j
  induction j with
  | zero =>
   intro i fuel e hf
   obtain ⟨fuel, rfl⟩ : ∃ q, fuel = q + 1 := ⟨fuel - 1, by omega⟩
   simp only [ab.l1]
   have ha0 := h.a0
   rw [dO (by omega), cdF, show decide ((l.length : Int) > 256) = false by simp; omega, cdF, decide_eq_true (show a > 0 by omega)]
   exact k9 l.length 0 2000 (by omega) (by omega)
  | succ j ih =>
   intro i fuel e hf
   obtain ⟨fuel, rfl⟩ : ∃ q, fuel = q + 1 := ⟨fuel - 1, by omega⟩
   have hlt : i < l.length := by omega
   have h16 := h.Fx _ (List.getElem_mem hlt)
   simp only [ab.l1]
   rw [dz hlt, cdT, aW hlt, bS, show decide ((l[i].aD.length : Int) > 16) = false by simp; omega, cdF, aU (by omega)]
   exact ih (i + 1) fuel (by omega) (by omega)
 exact k1 l.length 0 2000 (by omega) (by omega)
theorem ru (g : ah) (hg : ji g) : aB.f 2000 g.aK g.bx g.Ip g.aX g.bt g.bz g.aO g.cj g.cm g.a7 g.cT g.bu = some 0 ∨ aB.f 2000 g.aK g.bx g.Ip g.aX g.bt g.bz g.aO g.cj g.cm g.a7 g.cT g.bu = some 240 := by
 obtain ⟨r, hr⟩ := rv g hg
 rw [hr]
 unfold aB.f at hr
 have key : ∀ (fuel : Nat) (st : List Int) (i : Int), aB.l1 g.aX 2000 g.bz g.aK g.bt g.cj g.aO g.a7 g.Ip g.cm g.bx g.cT fuel st i = some r → r = 0 ∨ r = 240 := by
  intro fuel
  induction fuel with
  | zero => intro st i h; cases h
  | succ fuel ih =>
   intro st i h
   simp only [aB.l1] at h
   have k2 : ∀ b, aB.k2 g.aO g.bx g.Ip g.aK g.cT b = some r → r = 0 ∨ r = 240 := fun b hb => by
    unfold aB.k2 at hb
    revert hb
    cases ((((((!b) || (g.aO.bx != g.bx)) || (g.aO.Ip != g.Ip)) || (g.aK == 0)) || (decide (g.cT < 68))) || (decide (g.cT > 65535)))
    ·intro hb
     rw [cdF] at hb
     obtain ⟨q, _, hb⟩ := bind_some hb
     exact .inl (oI hb).symm
    ·intro hb
     exact .inr (oI hb).symm
   cases hc : decide (i < (g.aX.length : Int))
   ·rw [hc, cdF] at h
    obtain ⟨r1, _, h⟩ := bind_some h
    obtain ⟨⟨r2, r3⟩, _, h⟩ := bind_some h
    obtain ⟨r4, _, h⟩ := bind_some h
    obtain ⟨r5, _, h⟩ := bind_some h
    obtain ⟨r6, _, h⟩ := bind_some h
    revert h
    cases (((((r1 == 0) && (r3 == 0)) && (r4 == 0)) && (r5 == 0)) && r6)
    ·intro h
     rw [cdF] at h
     exact k2 _ h
    ·intro h
     rw [cdT] at h
     obtain ⟨r7, _, h⟩ := bind_some h
     exact k2 _ h
   ·rw [hc, cdT] at h
    obtain ⟨q, _, h⟩ := bind_some h
    exact ih _ _ h
 rcases key _ _ _ hr with h | h
 ·exact .inl (by rw [h])
 ·exact .inr (by rw [h])
theorem xB (g : ah) (hg : ji g) : ∃ r, eM.f 2000 g.aK g.bx g.Ip g.aX g.bt g.bz g.aO g.cj g.cm g.a7 g.cT g.bu = some r ∧ (r = 0 ∨ r = 240) ∧ (r = 0 → aB.f 2000 g.aK g.bx g.Ip g.aX g.bt g.bz g.aO g.cj g.cm g.a7 g.cT g.bu = some 0) := by
 have hp := hg.mT
 obtain ⟨r1, e1, g1⟩ := vf g.aX g.bz hg.mT hg.uA
 obtain ⟨s, r2, e2, g2⟩ := xX g.aK g.aX.length g.bt hp
 obtain ⟨r3, e3⟩ := nZ g.bz.Room g.cj
 obtain ⟨r4, e4⟩ := nY g.aO
 obtain ⟨r5, e5, g5⟩ := yN g.a7 hg.pT hg.ED
 obtain ⟨r6, e6, g6⟩ := zA g.Ip g.cm hg.wM hg.mU
 have e3' : fE.f g.bz.Room g.cj = some r3 := by
  unfold fE.f
  rw [show ir.f g.bz.Room g.cj = some r3 from e3, bS]
  by_cases h0 : r3 = 0
  ·subst h0; rfl
  ·rw [show (r3 != 0) = true by simp [h0]]; rfl
 unfold eM.f
 rw [oP g hg, bS, oF _ hp, bS, e1, bS, e2, bS]
 dsimp only
 rw [e3', bS, xa g.aO hg.E3, e4, bS, e5, bS, e6, bS]
 cases hc : ((((((!(((((r5 && (r1 == 0)) && (r2 == 0)) && (r3 == 0)) && (r4 == 0)) && (r6 == 0))) || (g.aO.bx != g.bx)) || (g.aO.Ip != g.Ip)) || (g.aK == 0)) || (decide (g.cT < 68))) || (decide (g.cT > 65535)))
 ·refine ⟨0, rfl, .inl rfl, fun _ => ?_⟩
  simp only [Bool.or_eq_false_iff] at hc
  obtain ⟨⟨⟨⟨⟨c1, c2⟩, c3⟩, c4⟩, c5⟩, c6⟩ := hc
  rw [Bool.not_eq_false'] at c1
  simp only [Bool.and_eq_true, beq_iff_eq] at c1
  obtain ⟨⟨⟨⟨⟨rfl, rfl⟩, rfl⟩, rfl⟩, rfl⟩, rfl⟩ := c1
  obtain ⟨s', e2'⟩ := g2 rfl
  have e21 := uj g.Ip g.cm hg.wM hg.ip hg.pos (g6 rfl)
  unfold aB.f
  obtain ⟨r, hr, rfl⟩ := cq (P := fun r : Int => r = 0) g.aX.length (fun i (st : List Int) => st = List.replicate i 1) (fun n st i => aB.l1 g.aX 2000 g.bz g.aK g.bt g.cj g.aO g.a7 g.Ip g.cm g.bx g.cT n st (i : Int)) (fun n st hst => by
   subst hst
   simp only [aB.l1]
   rw [dO (Nat.le_refl _), cdF, g1 rfl, bS, e2', bS]
   dsimp only
   rw [e3, bS, e4, bS, g5 rfl, bS]
   rw [show (((((((0 : Int) == 0)) && ((0 : Int) == 0)) && ((0 : Int) == 0)) && ((0 : Int) == 0)) && true) = true by rfl, cdT, e21, bS]
   unfold aB.k2
   rw [show (!((0 : Int) == 0)) = false by rfl, c2, c3, c4, c5, c6]
   exact ⟨0, by kernel_rfl, rfl⟩) (fun n i st hi hst hk => by
   subst hst
   simp only [aB.l1]
   rw [dz hi, cdT, cO (by simp; omega) (by simp; omega), bS, aU (by omega)]
   exact hk _ (by rw [List.replicate_succ'])) (fuel := 2000) [] (by omega) rfl
  exact hr
 ·exact ⟨240, rfl, .inr rfl, fun h => by cases h⟩
theorem zz (g : ah) (hg : ji g) : eM.f 2000 g.aK g.bx g.Ip g.aX g.bt g.bz g.aO g.cj g.cm g.a7 g.cT g.bu = aB.f 2000 g.aK g.bx g.Ip g.aX g.bt g.bz g.aO g.cj g.cm g.a7 g.cT g.bu := by
 obtain ⟨r, h1, h2, h3⟩ := xB g hg
 rcases ru g hg with h | h
 ·rw [h]; exact vx g hg h
 ·rcases h2 with rfl | rfl
  ·rw [h1, h3 rfl]
  ·rw [h1, h]
theorem zd (i9 : Nat) (l : List ah) (h9 : i9 < l.length) (hl : l.length ≤ 3) (rec : Int → Int → Option Int) : ∀ (j' j fuel : Nat), j + j' = i9 → j' < fuel →
  ak.l4 (i9 : Int) l rec fuel 0 (j : Int) = rec 0 (((i9 + 1 : Nat)) : Int) ∨ (ak.l4 (i9 : Int) l rec fuel 0 (j : Int) = some 270 ∧ ∃ (q : Nat) (hq : q < i9), ¬ bn l[i9] l[q])
 | _, _, 0, _, h => by omega
 | 0, j, fuel + 1, e, h => by
  simp only [ak.l4]
  rw [dO (by omega), cdF, aU (by omega)]
  exact .inl rfl
 | j' + 1, j, fuel + 1, e, h => by
  simp only [ak.l4]
  rw [dz (by omega), cdT, aW h9, bS, aW (by omega), bS]
  by_cases h1 : l[i9].Ip = l[j].Ip
  ·rw [show (l[i9].Ip == l[j].Ip) = true by simp [h1], cdT]
   exact .inr ⟨rfl, j, by omega, fun h => h.1 h1⟩
  ·rw [show (l[i9].Ip == l[j].Ip) = false by simp [h1], cdF, bS, bS]
   unfold ak.k3
   by_cases h2 : l[i9].bx = l[j].bx
   ·rw [show (l[i9].bx == l[j].bx) = true by simp [h2], cdT]
    exact .inr ⟨rfl, j, by omega, fun h => h.2.1 h2⟩
   ·rw [show (l[i9].bx == l[j].bx) = false by simp [h2], cdF, aW h9, bS, aW (by omega), bS]
    unfold ak.k2
    by_cases h3 : l[i9].aK = l[j].aK
    ·rw [show (l[i9].aK == l[j].aK) = true by simp [h3], cdT]
     exact .inr ⟨rfl, j, by omega, fun h => h.2.2 h3⟩
    ·rw [show (l[i9].aK == l[j].aK) = false by simp [h3], cdF, aU (by omega)]
     exact zd i9 l h9 hl rec j' (j + 1) fuel (by omega) (by omega)
theorem zc (l : List ah) (hl : l.length ≤ 3) : ∀ (j i fuel : Nat), i + j = l.length → j < fuel → ak.l5 l 2000 fuel 0 (i : Int) = some 0 ∨ (ak.l5 l 2000 fuel 0 (i : Int) = some 270 ∧ ∃ (k : Nat) (hk : k < l.length) (q : Nat) (hq : q < k), ¬ bn l[k] l[q])
 | _, _, 0, _, h => by omega
 | 0, i, fuel + 1, e, h => by
  simp only [ak.l5]
  rw [dO (by omega), cdF]
  exact .inl rfl
 | j + 1, i, fuel + 1, e, h => by
  have hlt : i < l.length := by omega
  simp only [ak.l5]
  rw [dz hlt, cdT]
  have h4 := zd i l hlt hl (ak.l5 l 2000 fuel) i 0 2000 (by omega) (by omega)
  rcases h4 with h4 | ⟨h4, q, hq, h5⟩
  ·have h4' : ak.l4 (i : Int) l (ak.l5 l 2000 fuel) 2000 0 0 = _ := h4
   rw [h4']
   exact zc l hl j (i + 1) fuel (by omega) (by omega)
  ·have h4' : ak.l4 (i : Int) l (ak.l5 l 2000 fuel) 2000 0 0 = _ := h4
   rw [h4']
   exact .inr ⟨rfl, i, hlt, q, hq, h5⟩
def kd (m : aS Bool) (s : List Int) : Prop := (s.Nodup ∧ gG m s) ∨ (¬ s.Nodup ∧ m.es.length < s.length)
theorem nQ {k : Int} {v : Bool} : ∀ {es es' : List (Int × Bool × Nat)}, lg k v es = some es' → es'.length = es.length
 | [], _, h => by cases h
 | e :: es, es', h => by
  unfold lg at h
  cases hb : (k == e.1)
  ·rw [hb, cdF] at h
   obtain ⟨q, hq, rfl⟩ := Option.map_eq_some_iff.1 h
   simp [nQ hq]
  ·rw [hb, cdT] at h
   obtain rfl := oI h
   simp
theorem tA {k : Int} : ∀ {es : List (Int × Bool × Nat)} {s : List Int}, es.map (fun e => (e.1, e.2.1)) = s.map (fun k => (k, true)) → k ∈ s → ∃ es', lg k true es = some es'
 | [], s, h, hk => by
  cases s with
  | nil => cases hk
  | cons a s => cases h
 | e :: es, s, h, hk => by
  cases s with
  | nil => cases h
  | cons a s =>
   simp only [List.map_cons, List.cons.injEq, Prod.mk.injEq] at h
   unfold lg
   cases hb : (k == e.1)
   ·rw [cdF]
    have hne : k ≠ e.1 := by simpa using hb
    rcases List.mem_cons.1 hk with hk | hk
    ·exact absurd (hk.trans h.1.1.symm) hne
    ·obtain ⟨es', h1⟩ := tA h.2 hk
     exact ⟨_, by rw [h1]; rfl⟩
   ·exact ⟨_, rfl⟩
theorem kd.set {m : aS Bool} {s : List Int} (h : kd m s) (k : Int) : kd (m.set k true) (s ++ [k]) := by
 rcases h with ⟨hn, hm⟩ | ⟨hn, hm⟩
 ·by_cases hk : k ∈ s
  ·refine .inr ⟨fun h => ?_, ?_⟩
   ·rw [List.nodup_append] at h
    exact h.2.2 k hk k (by simp) rfl
   ·obtain ⟨es', h1⟩ := tA hm hk
    have h2 : m.es.length = s.length := by
     have := congrArg List.length hm
     simpa using this
    unfold aS.set
    rw [h1]
    simp only [List.length_append, List.length_singleton]
    have := nQ h1
    omega
  ·refine .inl ⟨?_, hm.set hk⟩
   rw [List.nodup_append]
   exact ⟨hn, by simp, fun a ha b hb e => by rw [List.mem_singleton] at hb; exact hk (by rw [← hb, ← e]; exact ha)⟩
 ·refine .inr ⟨fun h => hn (List.nodup_append.1 h).1, ?_⟩
  unfold aS.set
  rw [List.length_append, List.length_singleton]
  cases h : lg k true m.es with
  | none => simp; omega
  | some es => have := nQ h; simp only; omega
theorem kd.lt {m : aS Bool} {s : List Int} (h : kd m s) : decide (m.len < (s.length : Int)) = !decide s.Nodup := by
 rcases h with ⟨hn, hm⟩ | ⟨hn, hm⟩
 ·rw [hm.len, decide_eq_false (by omega), decide_eq_true hn]; rfl
 ·unfold aS.len
  rw [decide_eq_true (by omega), decide_eq_false hn]; rfl
theorem kd.nil : kd (aS.nil : aS Bool) [] := .inl ⟨by simp, gG.nil⟩
theorem qz (l : List ah) (hg : nD l) : ∀ (j i fuel : Nat) (m1 m2 m3 : aS Bool), i + j = l.length → j < fuel → kd m1 ((l.take i).map (·.Ip)) → kd m2 ((l.take i).map (·.bx)) → kd m3 ((l.take i).map (·.aK)) →
  (bm.l1 l 2000 fuel 0 (i : Int) m1 m2 m3 = some 240 ∧ ak.l1 l 2000 fuel 0 (i : Int) = some 240) ∨ (bm.l1 l 2000 fuel 0 (i : Int) m1 m2 m3 = some (if (l.map (·.Ip)).Nodup ∧ (l.map (·.bx)).Nodup ∧ (l.map (·.aK)).Nodup then 0 else 270) ∧ ak.l1 l 2000 fuel 0 (i : Int) = ak.l5 l 2000 2000 0 0)
 | _, _, 0, _, _, _, _, h, _, _, _ => by omega
 | 0, i, fuel + 1, m1, m2, m3, e, h, k1, k2, k3 => by
  simp only [bm.l1, ak.l1]
  rw [dO (by omega), cdF, cdF]
  rw [List.take_of_length_le (by omega)] at k1 k2 k3
  refine .inr ⟨?_, rfl⟩
  have q1 := k1.lt; have q2 := k2.lt; have q3 := k3.lt
  rw [List.length_map] at q1 q2 q3
  unfold bm.k3 bm.k2
  rw [q1, q2, q3]
  by_cases n1 : (l.map (·.Ip)).Nodup
  ·rw [decide_eq_true n1, Bool.not_true, cdF]
   by_cases n2 : (l.map (·.bx)).Nodup
   ·rw [decide_eq_true n2, Bool.not_true, cdF]
    by_cases n3 : (l.map (·.aK)).Nodup
    ·rw [decide_eq_true n3, if_pos ⟨n1, n2, n3⟩]; rfl
    ·rw [decide_eq_false n3, if_neg fun h => n3 h.2.2]; rfl
   ·rw [decide_eq_false n2, if_neg fun h => n2 h.2.1]; rfl
  ·rw [decide_eq_false n1, if_neg fun h => n1 h.1]; rfl
 | j + 1, i, fuel + 1, m1, m2, m3, e, h, k1, k2, k3 => by
  have hlt : i < l.length := by omega
  have hl := hg.1
  have hgi := hg.2 _ (List.getElem_mem hlt)
  simp only [bm.l1, ak.l1]
  rw [dz hlt, cdT, cdT, aW hlt, bS, bS, zz _ hgi]
  rcases ru _ hgi with h0 | h0
  ·rw [h0, bS, bS, show ((0 : Int) != 0) = false by rfl, cdF, cdF, aU (by omega)]
   refine qz l hg j (i + 1) fuel _ _ _ (by omega) (by omega) ?_ ?_ ?_
   ·rw [List.take_succ_eq_append_getElem hlt, List.map_append]; exact k1.set _
   ·rw [List.take_succ_eq_append_getElem hlt, List.map_append]; exact k2.set _
   ·rw [List.take_succ_eq_append_getElem hlt, List.map_append]; exact k3.set _
  ·rw [h0, bS, bS]
   exact .inl ⟨rfl, rfl⟩
theorem xm (l : List ah) (hg : nD l) : ∃ r, bm.f 2000 l = some r ∧ ak.f 2000 l = some r ∧ (r = 0 → ∀ g ∈ l, eM.f 2000 g.aK g.bx g.Ip g.aX g.bt g.bz g.aO g.cj g.cm g.a7 g.cT g.bu = some 0) := by
 have hl := hg.1
 have hz : ∀ r, ak.f 2000 l = some r → (r = 0 → ∀ g ∈ l, eM.f 2000 g.aK g.bx g.Ip g.aX g.bt g.bz g.aO g.cj g.cm g.a7 g.cT g.bu = some 0) := fun r hr h0 g hm => by
  subst h0
  obtain ⟨i, hlt, rfl⟩ := List.getElem_of_mem hm
  exact vx _ (hg.2 _ hm) ((qA l hl hr).1 i hlt)
 unfold bm.f
 have hc : ak.f 2000 l = ak.l1 l 2000 2000 0 0 := by
  unfold ak.f
  rw [show decide ((l.length : Int) > 16) = false by simp; omega, cdF]
 rw [show decide ((l.length : Int) > 16) = false by simp; omega, cdF]
 rcases qz l hg l.length 0 2000 aS.nil aS.nil aS.nil (by omega) (by omega) kd.nil kd.nil kd.nil with ⟨h1, h2⟩ | ⟨h1, h2⟩
 ·have h2' : ak.l1 l 2000 2000 0 0 = some 240 := h2
  exact ⟨240, h1, by rw [hc]; exact h2', hz _ (by rw [hc]; exact h2')⟩
 ·have h2' : ak.l1 l 2000 2000 0 0 = ak.l5 l 2000 2000 0 0 := h2
  have h5 := zc l hl l.length 0 2000 (by omega) (by omega)
  have hnd : ∀ {β : Type} (f : ah → β), (∀ (k : Nat) (hk : k < l.length) (q : Nat) (hq : q < k), f l[k] ≠ f l[q]) → (l.map f).Nodup := fun f hf => List.pairwise_iff_getElem.2 fun i j hi hj hij => by
   simp only [List.length_map] at hi hj
   rw [List.getElem_map, List.getElem_map]
   exact fun e => hf j hj i hij e.symm
  rcases h5 with h5 | ⟨h5, k, hk, q, hq, hna⟩
  ·have h5' : ak.l5 l 2000 2000 0 0 = some 0 := h5
   have hd : ak.f 2000 l = some 0 := by rw [hc, h2', h5']
   have ha := (qA l hl hd).2
   rw [if_pos ⟨hnd _ fun k hk q hq => (ha k hk q hq).1, hnd _ fun k hk q hq => (ha k hk q hq).2.1, hnd _ fun k hk q hq => (ha k hk q hq).2.2⟩] at h1
   exact ⟨0, h1, hd, hz _ hd⟩
  ·have h5' : ak.l5 l 2000 2000 0 0 = some 270 := h5
   have hd : ak.f 2000 l = some 270 := by rw [hc, h2', h5']
   rw [if_neg fun h => hna ?_] at h1
   ·exact ⟨270, h1, hd, hz _ hd⟩
   ·obtain ⟨n1, n2, n3⟩ := h
    have hne : ∀ {β : Type} (f : ah → β), (l.map f).Nodup → f l[k] ≠ f l[q] := fun f hn e => by
     have := List.pairwise_iff_getElem.1 hn q k (by simp; omega) (by simpa using hk) hq
     rw [List.getElem_map, List.getElem_map] at this
     exact this e.symm
    exact ⟨hne _ n1, hne _ n2, hne _ n3⟩
end Go.Proofs.YtkpjjncdicgkkaaGreatDoor
