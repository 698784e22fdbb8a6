/- What the law comes to, by its run: no conditions but those that each theorem bears. -/
import Derived.Test.YtlihmahekidkaaaGreatDoorR1
import Derived.Test.YtlihmahekidkaaaGreatDoorR2
import Derived.Test.YtlihmahekidkaaaGreatDoorP1

namespace Go.Proofs.YtlihmahekidkaaaGreatDoor
set_option maxRecDepth 100000
set_option linter.unusedVariables false
set_option linter.unusedSimpArgs false
set_option linter.unusedSectionVars false
open Go Eng
open Ci (V Ent)
section
variable [Ci.Sym]
theorem fr_val (a b t n : Nat) : Ci.toVal (frV a b (n64 t) (.us n)) = api_Frame.v (fr0 a b t (Ci.Sym.S n)) := by
 simp [frV, Ci.toVal, Ci.toVals, api_Frame.v, fr0, tag0, m64, n64]
theorem fr_flat (a b t n : Nat) : Ci.flat (frV a b (n64 t) (.us n)) = true := by simp [frV, Ci.flat, Ci.flats, m64, n64, Ci.isCell]
theorem fr_good (a b t : Nat) (z : ByteArray) (ha : a < 281474976710656) (hb : b < 281474976710656) (ht : 1536 ≤ t ∧ t ≤ 65535 ∧ t ≠ 33024) (hz : z.size ≤ 1000) : Good (fr0 a b t z) :=
 ⟨⟨by simp [fr0], by simp [fr0]; omega⟩, ⟨by simp [fr0], by simp [fr0]; omega⟩, fun _ => rfl, fun h => by simp [fr0, tag0] at h, .inr (by simp [fr0]; omega), by simp [fr0, tag0]; omega⟩
theorem bp2 (a b t n m : Nat) (ha : a < 281474976710656) (hb : b < 281474976710656) (ht : 1536 ≤ t ∧ t ≤ 65535 ∧ t ≠ 33024) (hz : (Ci.Sym.S n).size ≤ 1000) (hm : Ci.Sym.S m = fb (fr0 a b t (Ci.Sym.S n))) : ∀ e ∈ bpT (frV a b (n64 t) (.us n)) m, Ci.EntOk Tryz.prog Glob e :=
 bp_ok (fr0 a b t (Ci.Sym.S n)) _ m (fr_val a b t n) (fr_flat a b t n) (fr_good a b t _ ha hb ht hz) (by simp [fr0, tag0]; omega) hm
end
section
variable (d : TopD) (h : TopOk d)
theorem top_I (j : Nat) : @Ci.Sym.I (topSym d h) j = d.I j := rfl
theorem top_S (j : Nat) : @Ci.Sym.S (topSym d h) j = d.S j := rfl
theorem top_a1 : @Ci.toVal (topSym d h) a1V = api_Arp.v ⟨(1 : Nat), (10 : Nat), d.who, (0 : Nat), (5 : Nat)⟩ := by
 simp [a1V, arV, whoV, Ci.toVal, Ci.toVals, api_Arp.v, n64, m64, m32, top_I, TopD.I]
theorem top_a2 : @Ci.toVal (topSym d h) a2V = api_Arp.v ⟨(1 : Nat), (6 : Nat), (7 : Nat), (0 : Nat), d.who⟩ := by
 simp [a2V, arV, whoV, Ci.toVal, Ci.toVals, api_Arp.v, n64, m64, m32, top_I, TopD.I]
theorem top_a3 : @Ci.toVal (topSym d h) a3V = api_Arp.v ⟨(2 : Nat), (10 : Nat), d.who, (6 : Nat), (7 : Nat)⟩ := by
 simp [a3V, arV, whoV, Ci.toVal, Ci.toVals, api_Arp.v, n64, m64, m32, top_I, TopD.I]
theorem a_flat : Ci.flat a1V = true ∧ Ci.flat a2V = true ∧ Ci.flat a3V = true := by
 simp [a1V, a2V, a3V, arV, whoV, Ci.flat, Ci.flats, n64, m64, m32, Ci.isCell]
theorem hon1 (d : TopD) (h : TopOk d) : suppress_honest.f 2000 d.Q1 = some (⟨(1 : Nat), (10 : Nat), d.who, (0 : Nat), (5 : Nat)⟩, true) := by
 have hl := who_lt h.ip
 have e : arpR d.Q1 = (⟨(1 : Nat), (10 : Nat), d.who, (0 : Nat), (5 : Nat)⟩, true) := arpAt_laid 1 10 d.who 0 5 (by decide) (by decide) hl (by decide) (by decide) (.inl rfl) (by decide) d.Q1 rfl rfl
 rw [honest_spec d.Q1 (by show d.l1.size ≤ _; unfold TopD.l1; rw [laid_size]; omega), e, if_pos ⟨rfl, rfl⟩]
theorem hon2 (d : TopD) (h : TopOk d) : suppress_honest.f 2000 d.Q2 = some (⟨(1 : Nat), (6 : Nat), (7 : Nat), (0 : Nat), d.who⟩, true) := by
 have hl := who_lt h.ip
 have e : arpR d.Q2 = (⟨(1 : Nat), (6 : Nat), (7 : Nat), (0 : Nat), d.who⟩, true) := arpAt_laid 1 6 7 0 d.who (by decide) (by decide) (by decide) (by decide) hl (.inl rfl) (by decide) d.Q2 rfl rfl
 rw [honest_spec d.Q2 (by show d.l2.size ≤ _; unfold TopD.l2; rw [laid_size]; omega), e, if_pos ⟨rfl, rfl⟩]
theorem top_ents : ∀ e ∈ topT, @Ci.EntOk (topSym d h) Tryz.prog Glob e := by
 letI : Ci.Sym := topSym d h
 have hz := h.sz
 have ca := cutB_le d.a0
 have cb := cutB_le d.b0
 have hl := who_lt h.ip
 have hg := who_ge d
 have z1 : d.l1.size = 28 := laid_size ..
 have z2 : d.l2.size = 28 := laid_size ..
 have z3 : d.l3.size = 28 := laid_size ..
 refine all_app ?_ (all_app ?_ (all_app ?_ ?_))
 ·refine all_app (bp2 10 6 2048 1 2 (by decide) (by decide) (by decide) (by show (cutB d.a0).size ≤ _; omega) rfl) (all_app (vx_ok 2 20 3 d.px h.px rfl h.vx h.vx2 (by show d.vx.size ≤ _; omega)) (all_app (ud_ok 1 7 20 3 4 d.px rfl h.px2 (by show d.vx.size ≤ _; omega) h.ux) (all_app (ip_ok 0 1 7 4 5 (by decide) (by decide) (by decide) (by show d.ux.size ≤ _; omega) h.qx) (all_app (bp2 14 2 2048 5 6 (by decide) (by decide) (by decide) (by show d.qx.size ≤ _; omega) rfl) (all_app (ip_ok 1 1 7 4 25 (by decide) (by decide) (by decide) (by show d.ux.size ≤ _; omega) h.qz) (bp2 14 2 2048 25 26 (by decide) (by decide) (by decide) (by show d.qz.size ≤ _; omega) rfl))))))
 ·refine all_app (bp2 6 10 2048 11 12 (by decide) (by decide) (by decide) (by show (cutB d.b0).size ≤ _; omega) rfl) (all_app (vx_ok 12 21 13 d.py h.py rfl h.vy h.vy2 (by show d.vy.size ≤ _; omega)) (all_app (ud_ok 7 1 21 13 14 d.py rfl h.py2 (by show d.vy.size ≤ _; omega) h.uy) (all_app (ip_ok 0 7 1 14 15 (by decide) (by decide) (by decide) (by show d.uy.size ≤ _; omega) h.qy) (bp2 2 14 2048 15 16 (by decide) (by decide) (by decide) (by show d.qy.size ≤ _; omega) rfl))))
 ·refine all_app (bp2 281474976710655 10 2054 30 31 (by decide) (by decide) (by decide) (by show d.l1.size ≤ _; omega) rfl) (all_app (vx_ok 31 32 33 d.pw h.pw rfl h.vw h.vw2 (by show d.vw.size ≤ _; omega)) (all_app (ud_ok 7 1 32 33 34 d.pw rfl h.pw2 (by show d.vw.size ≤ _; omega) h.uw) (all_app (ip_ok 1 7 1 34 35 (by decide) (by decide) (by decide) (by show d.uw.size ≤ _; omega) h.qw) (all_app (bp2 2 14 2048 35 36 (by decide) (by decide) (by decide) (by show d.qw.size ≤ _; omega) rfl) (all_app (bp2 281474976710655 6 2054 40 41 (by decide) (by decide) (by decide) (by show d.l2.size ≤ _; omega) rfl) (bp2 6 10 2054 50 51 (by decide) (by decide) (by decide) (by show d.l3.size ≤ _; omega) rfl))))))
 ·have l1 := arp_laid_calls 2000 _ _ (laid_spec 1 10 d.who 0 5 (by decide) (by decide) hl (by decide) (by decide))
  have l2 := arp_laid_calls 2000 _ _ (laid_spec 1 6 7 0 d.who (by decide) (by decide) (by decide) (by decide) hl)
  have l3 := arp_laid_calls 2000 _ _ (laid_spec 2 10 d.who 6 7 (by decide) (by decide) hl (by decide) (by decide))
  have l4 := gangwayref05_Laid_calls 2000 _ _ (rlaid_spec 2 10 d.who 6 7 (by decide) (by decide) hl (by decide) (by decide))
  have v1 := top_a1 d h
  have v2 := top_a2 d h
  have v3 := top_a3 d h
  obtain ⟨f1, f2, f3⟩ := a_flat
  have k := binding_key_calls _ _ _ (key_spec d.who hl)
  have cmp : ∀ (x y : V) (a b r : Int), Ci.toVal x = .int .u64 a → Ci.toVal y = .int .u64 b → Ci.flat x = true → Ci.flat y = true → cmp_Compare_uint64.f a b = some r → Ci.EntOk Tryz.prog Glob ⟨301, [x, y], .i .i64 r⟩ := fun x y a b r hx hy fx fy hc => ent (args := #[.int .u64 a, .int .u64 b]) (x := .int .i64 r) (by kernel_rfl) (by simp [Ci.flats, fx, fy]) rfl (by simp [Ci.toVals, hx, hy]) (by simp [Ci.toVal]) (cmp_Compare_uint64_calls _ _ _ hc)
  have c31 : Ci.toVal (.ui .u64 31) = .int .u64 ((21474836480 + d.who : Nat) : Int) := by simp +zetaDelta [Ci.toVal, top_I, TopD.I]
  have cm : ∀ n : Nat, Ci.toVal (m64 n) = .int .u64 (n : Int) := fun n => by simp [Ci.toVal, m64]
  refine all_cons (ent (args := #[api_Arp.v _]) (x := .string _) (by kernel_rfl) (by simp [Ci.flats, f1]) rfl (by simp only [Ci.toVals, v1]) (us_val 30) l1) (all_cons (ent (args := #[api_Frame.v d.Q1]) (x := .tuple #[api_Arp.v _, .bool true]) (by kernel_rfl) (by simp only [Ci.flats, q1V, fr_flat, Bool.and_self]) (by simp [Ci.flat, Ci.flats, f1]) (by simp only [Ci.toVals, q1V, fr_val]; rfl) (by simp only [Ci.toVal, Ci.toVals, v1]) (suppress_honest_calls 2000 _ _ (hon1 d h))) (all_cons (ent (args := #[.int .i64 5, .int .u32 d.who]) (x := .int .u64 ((21474836480 + d.who : Nat) : Int)) (by kernel_rfl) rfl rfl (by simp +zetaDelta [Ci.toVals, Ci.toVal, n64, whoV, top_I, TopD.I]) c31 k) (all_cons (cmp _ _ _ _ 1 c31 (cm _) rfl rfl ?_) (all_cons (ent (args := #[api_Arp.v _]) (x := .string _) (by kernel_rfl) (by simp [Ci.flats, f2]) rfl (by simp only [Ci.toVals, v2]) (us_val 40) l2) (all_cons (ent (args := #[api_Frame.v d.Q2]) (x := .tuple #[api_Arp.v _, .bool true]) (by kernel_rfl) (by simp only [Ci.flats, q2V, fr_flat, Bool.and_self]) (by simp [Ci.flat, Ci.flats, f2]) (by simp only [Ci.toVals, q2V, fr_val]; rfl) (by simp only [Ci.toVal, Ci.toVals, v2]) (suppress_honest_calls 2000 _ _ (hon2 d h))) (all_cons (cmp _ _ _ _ 1 c31 (cm _) rfl rfl ?_) (all_cons (cmp _ _ _ _ (-1) (cm _) c31 rfl rfl ?_) (all_cons (cmp _ _ _ _ 0 c31 c31 rfl rfl ?_) (all_cons (ent (args := #[api_Arp.v _]) (x := .string _) (by kernel_rfl) (by simp [Ci.flats, f3]) rfl (by simp only [Ci.toVals, v3]) (us_val 50) l3) (all_cons (ent (args := #[api_Arp.v _]) (x := .string _) (by kernel_rfl) (by simp [Ci.flats, f3]) rfl (by simp only [Ci.toVals, v3]) (us_val 50) l4) (all_one (ent (args := #[]) (x := .bool true) (by kernel_rfl) rfl rfl (by simp [Ci.toVals]) (by simp [Ci.toVal]) fix13))))))))))))
  ·rw [cmp_spec, if_neg (by omega), if_pos (by omega)]
  ·rw [cmp_spec, if_neg (by omega), if_pos (by omega)]
  ·rw [cmp_spec, if_pos (by omega)]
  ·rw [cmp_spec, if_neg (by omega), if_neg (by omega)]
end
theorem top_ok (x y : api_Frame) (ip : Int) (hx : x.Body.size ≤ 140737488351232) (hy : y.Body.size ≤ 140737488351232) (hip : 0 ≤ ip ∧ ip ≤ 4294967295) : Pure Tryz.prog Glob 3 #[api_Frame.v x, api_Frame.v y, .int .u32 ip] (.bool true) := by
 obtain ⟨n, rfl⟩ : ∃ n : Nat, ip = n := ⟨ip.toNat, by omega⟩
 let e : ByteArray := ⟨#[]⟩
 let d0 : TopD := ⟨x.Body, y.Body, n, 0, 0, 0, e, e, e, e, e, e, e, e, e, e⟩
 have s1 : (fb d0.X).size ≤ 114 := by have := cutB_le d0.a0; unfold TopD.X; rw [fb_size]; omega
 have s2 : (fb d0.Y).size ≤ 114 := by have := cutB_le d0.b0; unfold TopD.Y; rw [fb_size]; omega
 have s3 : (fb d0.Q1).size ≤ 114 := by unfold TopD.Q1 TopD.l1; rw [fb_size, laid_size]; omega
 obtain ⟨px, p1, _, p2⟩ := port_spec (fb d0.X)
 obtain ⟨vx, v1, v2⟩ := vbuild_good 1000 1000 rfl (by decide) (fb d0.X) (by omega)
 have zv : vx.size ≤ 122 := by rw [← L_length, v2, vxL_length, L_length]; omega
 obtain ⟨ux, _, u1⟩ := ubuild_good 1 7 px p2 vx (by omega)
 have zu : ux.size ≤ 130 := by rw [← L_length, u1, udpL_length, L_length]; omega
 obtain ⟨qx, _, q1⟩ := ibuild_good 0 1 7 (by decide) (by decide) (by decide) ux (by omega)
 obtain ⟨qz, _, q2⟩ := ibuild_good 1 1 7 (by decide) (by decide) (by decide) ux (by omega)
 obtain ⟨py, r1, _, r2⟩ := port_spec (fb d0.Y)
 obtain ⟨vy, w1, w2⟩ := vbuild_good 1000 1000 rfl (by decide) (fb d0.Y) (by omega)
 have zw : vy.size ≤ 122 := by rw [← L_length, w2, vxL_length, L_length]; omega
 obtain ⟨uy, _, t1⟩ := ubuild_good 7 1 py r2 vy (by omega)
 have zt : uy.size ≤ 130 := by rw [← L_length, t1, udpL_length, L_length]; omega
 obtain ⟨qy, _, q3⟩ := ibuild_good 0 7 1 (by decide) (by decide) (by decide) uy (by omega)
 obtain ⟨pw, m1, _, m2⟩ := port_spec (fb d0.Q1)
 obtain ⟨vw, n1, n2⟩ := vbuild_good 1000 1000 rfl (by decide) (fb d0.Q1) (by omega)
 have zn : vw.size ≤ 122 := by rw [← L_length, n2, vxL_length, L_length]; omega
 obtain ⟨uw, _, o1⟩ := ubuild_good 7 1 pw m2 vw (by omega)
 have zo : uw.size ≤ 130 := by rw [← L_length, o1, udpL_length, L_length]; omega
 obtain ⟨qw, _, q4⟩ := ibuild_good 1 7 1 (by decide) (by decide) (by decide) uw (by omega)
 let d : TopD := ⟨x.Body, y.Body, n, px, py, pw, vx, ux, qx, qz, vy, uy, qy, vw, uw, qw⟩
 have h : TopOk d := ⟨by show x.Body.size < _; omega, by show y.Body.size < _; omega, by show n < _; omega, p1, p2, v1, v2, u1, q1, q2, r1, r2, w1, w2, t1, q3, m1, m2, n1, n2, o1, q4⟩
 have := @topRun_ok (topSym d h) topT 3 _ (gOk _ rfl) (by kernel_rfl) (top_ents d h) (by simp [topArg, Ci.flats, Ci.flat, Value.oneCell', Ci.isCell]) (top_run d h x.Dst x.Src x.Tag.Has x.Tag.Pri x.Tag.Dei x.Tag.Vid x.Type_ y.Dst y.Src y.Tag.Has y.Tag.Pri y.Tag.Dei y.Tag.Vid y.Type_)
 simpa +zetaDelta [topArg, Ci.toVals, Ci.toVal, api_Frame.v, top_I, top_S, TopD.I, TopD.S] using this
theorem top_law (x y : api_Frame) (ip : Int) {p1 p2 p3 p4 p5 p6 p7 p8 p9 p0 : Prop} (_ : p1) (_ : p2) (_ : p3) (_ : p4) (_ : p5) (hx : x.Body.size ≤ 140737488351232) (_ : p6) (_ : p7) (_ : p8) (_ : p9) (_ : p0) (hy : y.Body.size ≤ 140737488351232) (hip : 0 ≤ ip ∧ ip ≤ 4294967295) : Pure Tryz.prog Glob 3 #[api_Frame.v x, api_Frame.v y, .int .u32 ip] (.bool true) := top_ok x y ip hx hy hip
end Go.Proofs.YtlihmahekidkaaaGreatDoor
