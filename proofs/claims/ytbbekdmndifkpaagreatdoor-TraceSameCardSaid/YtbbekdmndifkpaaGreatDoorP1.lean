/- Plain arithmetic of the functions' models: no conditions but those that each theorem bears. -/
import Derived.Test.YtbbekdmndifkpaaGreatDoorF1
import Derived.Test.YtbbekdmndifkpaaGreatDoorE3
import Derived.Test.YtbbekdmndifkpaaGreatDoorF2
import Derived.Test.YtbbekdmndifkpaaGreatDoorF4
import Derived.Test.YtbbekdmndifkpaaGreatDoorF5

set_option linter.unusedVariables false
set_option linter.unusedSimpArgs false
set_option linter.unusedSectionVars false
namespace Go.Proofs.YtbbekdmndifkpaaGreatDoor
open Go Eng
def api_Keep.enc (x : api_Keep) : List Value := [.int .i64 x.Room, .int .i64 x.Life, .int .i64 x.Moves, .int .i64 x.Window]
def api_Near.enc (x : api_Near) : List Value := [.int .u64 x.Mac, .int .u32 x.Ip, .int .i64 x.Room, .int .i64 x.Life, .int .i64 x.Pend, .int .i64 x.Tries, .int .i64 x.Apart]
def api_Net.enc (x : api_Net) : List Value := [.int .u32 x.Ip, .int .i64 x.Bits]
def Ok36 (n : Int) : Prop := 0 ≤ n ∧ n ≤ 18446744073709551615
theorem dec36 (W : World) : Dec Tryz.prog W 36 (pl (encI .u64)) noK Ok36 := (Dec.int Tryz.underlying36).mono fun _ h => Eng.wf_u64 h
def Ok49 (n : Int) : Prop := 0 ≤ n ∧ n ≤ 4294967295
theorem dec49 (W : World) : Dec Tryz.prog W 49 (pl (encI .u32)) noK Ok49 := (Dec.int Tryz.underlying49).mono fun _ h => Eng.wf_u32 h
def Ok4 (_ : Bool) : Prop := True
theorem dec4 (W : World) : Dec Tryz.prog W 4 (pl encB) noK Ok4 := Dec.bool Tryz.underlying4
def Ok3 (n : Int) : Prop := (-9223372036854775808) ≤ n ∧ n ≤ 9223372036854775807
theorem dec3 (W : World) : Dec Tryz.prog W 3 (pl (encI .i64)) noK Ok3 := (Dec.int Tryz.underlying3).mono fun _ h => Eng.wf_i64 h
def Ok82 (xs : (List Int)) : Prop := (∀ x ∈ xs, Ok3 x) ∧ xs.length * 8 ≤ 140737488351232
set_option maxRecDepth 100000 in
theorem dec82 (W : World) : Dec Tryz.prog W 82 (fun (xs : (List Int)) s => [slcV s xs.length]) (fun (xs : (List Int)) s => Row 1 (pl (encI .i64)) noK s xs) Ok82 := Dec.slice 0 () (by kernel_rfl) (by kernel_rfl) (by decide) (fun _ _ => rfl) (by kernel_rfl : _ = 8) (dec3 W)
def Ok84 (x : api_PortCfg) : Prop := Ok4 x.Trunk ∧ Ok3 x.Pvid ∧ Ok82 x.Vids
set_option maxRecDepth 100000 in
theorem dec84 (W : World) : Dec Tryz.prog W 84 api_PortCfg.encS api_PortCfg.inK Ok84 := fun H enc fuel cs d h hw => by
 obtain ⟨ps, r0, rfl⟩ := Dec.fields [4, 3, 82] Tryz.underlying84 (by kernel_rfl) (by kernel_rfl) h hw
 obtain ⟨p0, ps0, rfl, ⟨f0, d0, h0, w0⟩, r1⟩ := r0.cons
 obtain ⟨x0, s0, rfl, k0, q0⟩ := dec4 W H enc f0 p0 d0 h0 w0
 obtain ⟨p1, ps1, rfl, ⟨f1, d1, h1, w1⟩, r2⟩ := r1.cons
 obtain ⟨x1, s1, rfl, k1, q1⟩ := dec3 W H enc f1 p1 d1 h1 w1
 obtain ⟨p2, ps2, rfl, ⟨f2, d2, h2, w2⟩, r3⟩ := r2.cons
 obtain ⟨x2, s2, rfl, k2, q2⟩ := dec82 W H enc f2 p2 d2 h2 w2
 obtain rfl := r3.nil
 exact ⟨⟨x0, x1, x2⟩, s2, rfl, k2, q0, q1, q2⟩
theorem up84 : Up api_PortCfg.inK := fun x s w w' h k => (Up.row Up.no) x.Vids s w w' h k
def Ok64 (xs : (List api_PortCfg)) : Prop := (∀ x ∈ xs, Ok84 x) ∧ xs.length * 40 ≤ 140737488351232
set_option maxRecDepth 100000 in
theorem dec64 (W : World) : Dec Tryz.prog W 64 (fun (xs : (List api_PortCfg)) s => [slcV s xs.length]) (fun (xs : (List api_PortCfg)) s => Row 3 api_PortCfg.encS api_PortCfg.inK s xs) Ok64 := Dec.slice (api_PortCfg.mk false 0 ([] : List Int)) (SkL.nil (fun _ => ())) (by kernel_rfl) (by kernel_rfl) (by decide) (fun _ _ => rfl) (by kernel_rfl : _ = 40) (dec84 W)
def Ok65 (xs : (List Bool)) : Prop := (∀ x ∈ xs, Ok4 x) ∧ xs.length * 1 ≤ 140737488351232
set_option maxRecDepth 100000 in
theorem dec65 (W : World) : Dec Tryz.prog W 65 (fun (xs : (List Bool)) s => [slcV s xs.length]) (fun (xs : (List Bool)) s => Row 1 (pl encB) noK s xs) Ok65 := Dec.slice false () (by kernel_rfl) (by kernel_rfl) (by decide) (fun _ _ => rfl) (by kernel_rfl : _ = 1) (dec4 W)
def Ok67 (x : api_Keep) : Prop := Ok3 x.Room ∧ Ok3 x.Life ∧ Ok3 x.Moves ∧ Ok3 x.Window
set_option maxRecDepth 100000 in
theorem dec67 (W : World) : Dec Tryz.prog W 67 (pl api_Keep.enc) noK Ok67 := fun H enc fuel cs d h hw => by
 obtain ⟨ps, r0, rfl⟩ := Dec.fields [3, 3, 3, 3] Tryz.underlying67 (by kernel_rfl) (by kernel_rfl) h hw
 obtain ⟨p0, ps0, rfl, ⟨f0, d0, h0, w0⟩, r1⟩ := r0.cons
 obtain ⟨x0, s0, rfl, k0, q0⟩ := dec3 W H enc f0 p0 d0 h0 w0
 obtain ⟨p1, ps1, rfl, ⟨f1, d1, h1, w1⟩, r2⟩ := r1.cons
 obtain ⟨x1, s1, rfl, k1, q1⟩ := dec3 W H enc f1 p1 d1 h1 w1
 obtain ⟨p2, ps2, rfl, ⟨f2, d2, h2, w2⟩, r3⟩ := r2.cons
 obtain ⟨x2, s2, rfl, k2, q2⟩ := dec3 W H enc f2 p2 d2 h2 w2
 obtain ⟨p3, ps3, rfl, ⟨f3, d3, h3, w3⟩, r4⟩ := r3.cons
 obtain ⟨x3, s3, rfl, k3, q3⟩ := dec3 W H enc f3 p3 d3 h3 w3
 obtain rfl := r4.nil
 exact ⟨⟨x0, x1, x2, x3⟩, (), rfl, trivial, q0, q1, q2, q3⟩
def Ok69 (x : api_Near) : Prop := Ok36 x.Mac ∧ Ok49 x.Ip ∧ Ok3 x.Room ∧ Ok3 x.Life ∧ Ok3 x.Pend ∧ Ok3 x.Tries ∧ Ok3 x.Apart
set_option maxRecDepth 100000 in
theorem dec69 (W : World) : Dec Tryz.prog W 69 (pl api_Near.enc) noK Ok69 := fun H enc fuel cs d h hw => by
 obtain ⟨ps, r0, rfl⟩ := Dec.fields [36, 49, 3, 3, 3, 3, 3] Tryz.underlying69 (by kernel_rfl) (by kernel_rfl) h hw
 obtain ⟨p0, ps0, rfl, ⟨f0, d0, h0, w0⟩, r1⟩ := r0.cons
 obtain ⟨x0, s0, rfl, k0, q0⟩ := dec36 W H enc f0 p0 d0 h0 w0
 obtain ⟨p1, ps1, rfl, ⟨f1, d1, h1, w1⟩, r2⟩ := r1.cons
 obtain ⟨x1, s1, rfl, k1, q1⟩ := dec49 W H enc f1 p1 d1 h1 w1
 obtain ⟨p2, ps2, rfl, ⟨f2, d2, h2, w2⟩, r3⟩ := r2.cons
 obtain ⟨x2, s2, rfl, k2, q2⟩ := dec3 W H enc f2 p2 d2 h2 w2
 obtain ⟨p3, ps3, rfl, ⟨f3, d3, h3, w3⟩, r4⟩ := r3.cons
 obtain ⟨x3, s3, rfl, k3, q3⟩ := dec3 W H enc f3 p3 d3 h3 w3
 obtain ⟨p4, ps4, rfl, ⟨f4, d4, h4, w4⟩, r5⟩ := r4.cons
 obtain ⟨x4, s4, rfl, k4, q4⟩ := dec3 W H enc f4 p4 d4 h4 w4
 obtain ⟨p5, ps5, rfl, ⟨f5, d5, h5, w5⟩, r6⟩ := r5.cons
 obtain ⟨x5, s5, rfl, k5, q5⟩ := dec3 W H enc f5 p5 d5 h5 w5
 obtain ⟨p6, ps6, rfl, ⟨f6, d6, h6, w6⟩, r7⟩ := r6.cons
 obtain ⟨x6, s6, rfl, k6, q6⟩ := dec3 W H enc f6 p6 d6 h6 w6
 obtain rfl := r7.nil
 exact ⟨⟨x0, x1, x2, x3, x4, x5, x6⟩, (), rfl, trivial, q0, q1, q2, q3, q4, q5, q6⟩
def Ok91 (xs : (List Int)) : Prop := (∀ x ∈ xs, Ok49 x) ∧ xs.length * 4 ≤ 140737488351232
set_option maxRecDepth 100000 in
theorem dec91 (W : World) : Dec Tryz.prog W 91 (fun (xs : (List Int)) s => [slcV s xs.length]) (fun (xs : (List Int)) s => Row 1 (pl (encI .u32)) noK s xs) Ok91 := Dec.slice 0 () (by kernel_rfl) (by kernel_rfl) (by decide) (fun _ _ => rfl) (by kernel_rfl : _ = 4) (dec49 W)
def Ok93 (x : api_Seg) : Prop := Ok3 x.Vid ∧ Ok3 x.Vni ∧ Ok91 x.Peers
set_option maxRecDepth 100000 in
theorem dec93 (W : World) : Dec Tryz.prog W 93 api_Seg.encS api_Seg.inK Ok93 := fun H enc fuel cs d h hw => by
 obtain ⟨ps, r0, rfl⟩ := Dec.fields [3, 3, 91] Tryz.underlying93 (by kernel_rfl) (by kernel_rfl) h hw
 obtain ⟨p0, ps0, rfl, ⟨f0, d0, h0, w0⟩, r1⟩ := r0.cons
 obtain ⟨x0, s0, rfl, k0, q0⟩ := dec3 W H enc f0 p0 d0 h0 w0
 obtain ⟨p1, ps1, rfl, ⟨f1, d1, h1, w1⟩, r2⟩ := r1.cons
 obtain ⟨x1, s1, rfl, k1, q1⟩ := dec3 W H enc f1 p1 d1 h1 w1
 obtain ⟨p2, ps2, rfl, ⟨f2, d2, h2, w2⟩, r3⟩ := r2.cons
 obtain ⟨x2, s2, rfl, k2, q2⟩ := dec91 W H enc f2 p2 d2 h2 w2
 obtain rfl := r3.nil
 exact ⟨⟨x0, x1, x2⟩, s2, rfl, k2, q0, q1, q2⟩
theorem up93 : Up api_Seg.inK := fun x s w w' h k => (Up.row Up.no) x.Peers s w w' h k
def Ok70 (xs : (List api_Seg)) : Prop := (∀ x ∈ xs, Ok93 x) ∧ xs.length * 40 ≤ 140737488351232
set_option maxRecDepth 100000 in
theorem dec70 (W : World) : Dec Tryz.prog W 70 (fun (xs : (List api_Seg)) s => [slcV s xs.length]) (fun (xs : (List api_Seg)) s => Row 3 api_Seg.encS api_Seg.inK s xs) Ok70 := Dec.slice (api_Seg.mk 0 0 ([] : List Int)) (SkL.nil (fun _ => ())) (by kernel_rfl) (by kernel_rfl) (by decide) (fun _ _ => rfl) (by kernel_rfl : _ = 40) (dec93 W)
def Ok160 (x : api_Net) : Prop := Ok49 x.Ip ∧ Ok3 x.Bits
set_option maxRecDepth 100000 in
theorem dec160 (W : World) : Dec Tryz.prog W 160 (pl api_Net.enc) noK Ok160 := fun H enc fuel cs d h hw => by
 obtain ⟨ps, r0, rfl⟩ := Dec.fields [49, 3] Tryz.underlying160 (by kernel_rfl) (by kernel_rfl) h hw
 obtain ⟨p0, ps0, rfl, ⟨f0, d0, h0, w0⟩, r1⟩ := r0.cons
 obtain ⟨x0, s0, rfl, k0, q0⟩ := dec49 W H enc f0 p0 d0 h0 w0
 obtain ⟨p1, ps1, rfl, ⟨f1, d1, h1, w1⟩, r2⟩ := r1.cons
 obtain ⟨x1, s1, rfl, k1, q1⟩ := dec3 W H enc f1 p1 d1 h1 w1
 obtain rfl := r2.nil
 exact ⟨⟨x0, x1⟩, (), rfl, trivial, q0, q1⟩
def Ok162 (x : api_Route) : Prop := Ok160 x.To ∧ Ok49 x.Via
set_option maxRecDepth 100000 in
theorem dec162 (W : World) : Dec Tryz.prog W 162 (pl api_Route.enc) noK Ok162 := fun H enc fuel cs d h hw => by
 obtain ⟨ps, r0, rfl⟩ := Dec.fields [160, 49] Tryz.underlying162 (by kernel_rfl) (by kernel_rfl) h hw
 obtain ⟨p0, ps0, rfl, ⟨f0, d0, h0, w0⟩, r1⟩ := r0.cons
 obtain ⟨x0, s0, rfl, k0, q0⟩ := dec160 W H enc f0 p0 d0 h0 w0
 obtain ⟨p1, ps1, rfl, ⟨f1, d1, h1, w1⟩, r2⟩ := r1.cons
 obtain ⟨x1, s1, rfl, k1, q1⟩ := dec49 W H enc f1 p1 d1 h1 w1
 obtain rfl := r2.nil
 exact ⟨⟨x0, x1⟩, (), rfl, trivial, q0, q1⟩
def Ok71 (xs : (List api_Route)) : Prop := (∀ x ∈ xs, Ok162 x) ∧ xs.length * 24 ≤ 140737488351232
set_option maxRecDepth 100000 in
theorem dec71 (W : World) : Dec Tryz.prog W 71 (fun (xs : (List api_Route)) s => [slcV s xs.length]) (fun (xs : (List api_Route)) s => Row 3 (pl api_Route.enc) noK s xs) Ok71 := Dec.slice (api_Route.mk (api_Net.mk 0 0) 0) () (by kernel_rfl) (by kernel_rfl) (by decide) (fun _ _ => rfl) (by kernel_rfl : _ = 24) (dec162 W)
def Ok73 (x : api_Gate) : Prop := Ok36 x.Bridge ∧ Ok36 x.Mac ∧ Ok49 x.Ip ∧ Ok64 x.Ports ∧ Ok65 x.Edges ∧ Ok67 x.Keep ∧ Ok69 x.Near ∧ Ok3 x.Heard ∧ Ok70 x.Segs ∧ Ok71 x.Routes ∧ Ok3 x.Most ∧ Ok4 x.Answers
set_option maxRecDepth 100000 in
theorem dec73 (W : World) : Dec Tryz.prog W 73 api_Gate.encS api_Gate.inK Ok73 := fun H enc fuel cs d h hw => by
 obtain ⟨ps, r0, rfl⟩ := Dec.fields [36, 36, 49, 64, 65, 67, 69, 3, 70, 71, 3, 4] Tryz.underlying73 (by kernel_rfl) (by kernel_rfl) h hw
 obtain ⟨p0, ps0, rfl, ⟨f0, d0, h0, w0⟩, r1⟩ := r0.cons
 obtain ⟨x0, s0, rfl, k0, q0⟩ := dec36 W H enc f0 p0 d0 h0 w0
 obtain ⟨p1, ps1, rfl, ⟨f1, d1, h1, w1⟩, r2⟩ := r1.cons
 obtain ⟨x1, s1, rfl, k1, q1⟩ := dec36 W H enc f1 p1 d1 h1 w1
 obtain ⟨p2, ps2, rfl, ⟨f2, d2, h2, w2⟩, r3⟩ := r2.cons
 obtain ⟨x2, s2, rfl, k2, q2⟩ := dec49 W H enc f2 p2 d2 h2 w2
 obtain ⟨p3, ps3, rfl, ⟨f3, d3, h3, w3⟩, r4⟩ := r3.cons
 obtain ⟨x3, s3, rfl, k3, q3⟩ := dec64 W H enc f3 p3 d3 h3 w3
 obtain ⟨p4, ps4, rfl, ⟨f4, d4, h4, w4⟩, r5⟩ := r4.cons
 obtain ⟨x4, s4, rfl, k4, q4⟩ := dec65 W H enc f4 p4 d4 h4 w4
 obtain ⟨p5, ps5, rfl, ⟨f5, d5, h5, w5⟩, r6⟩ := r5.cons
 obtain ⟨x5, s5, rfl, k5, q5⟩ := dec67 W H enc f5 p5 d5 h5 w5
 obtain ⟨p6, ps6, rfl, ⟨f6, d6, h6, w6⟩, r7⟩ := r6.cons
 obtain ⟨x6, s6, rfl, k6, q6⟩ := dec69 W H enc f6 p6 d6 h6 w6
 obtain ⟨p7, ps7, rfl, ⟨f7, d7, h7, w7⟩, r8⟩ := r7.cons
 obtain ⟨x7, s7, rfl, k7, q7⟩ := dec3 W H enc f7 p7 d7 h7 w7
 obtain ⟨p8, ps8, rfl, ⟨f8, d8, h8, w8⟩, r9⟩ := r8.cons
 obtain ⟨x8, s8, rfl, k8, q8⟩ := dec70 W H enc f8 p8 d8 h8 w8
 obtain ⟨p9, ps9, rfl, ⟨f9, d9, h9, w9⟩, r10⟩ := r9.cons
 obtain ⟨x9, s9, rfl, k9, q9⟩ := dec71 W H enc f9 p9 d9 h9 w9
 obtain ⟨p10, ps10, rfl, ⟨f10, d10, h10, w10⟩, r11⟩ := r10.cons
 obtain ⟨x10, s10, rfl, k10, q10⟩ := dec3 W H enc f10 p10 d10 h10 w10
 obtain ⟨p11, ps11, rfl, ⟨f11, d11, h11, w11⟩, r12⟩ := r11.cons
 obtain ⟨x11, s11, rfl, k11, q11⟩ := dec4 W H enc f11 p11 d11 h11 w11
 obtain rfl := r12.nil
 exact ⟨⟨x0, x1, x2, x3, x4, x5, x6, x7, x8, x9, x10, x11⟩, (s3, s4, s8, s9), rfl, ⟨k3, k4, k8, k9⟩, q0, q1, q2, q3, q4, q5, q6, q7, q8, q9, q10, q11⟩
theorem up73 : Up api_Gate.inK := fun x s w w' h k => ⟨(Up.row up84) x.Ports s.1 w w' h k.1, (Up.row Up.no) x.Edges s.2.1 w w' h k.2.1, (Up.row up93) x.Segs s.2.2.1 w w' h k.2.2.1, (Up.row Up.no) x.Routes s.2.2.2 w w' h k.2.2.2⟩
def Ok22 (xs : (List api_Gate)) : Prop := (∀ x ∈ xs, Ok73 x) ∧ xs.length * 232 ≤ 140737488351232
set_option maxRecDepth 100000 in
theorem dec22 (W : World) : Dec Tryz.prog W 22 (fun (xs : (List api_Gate)) s => [slcV s xs.length]) (fun (xs : (List api_Gate)) s => Row 21 api_Gate.encS api_Gate.inK s xs) Ok22 := Dec.slice (api_Gate.mk 0 0 0 ([] : List api_PortCfg) ([] : List Bool) (api_Keep.mk 0 0 0 0) (api_Near.mk 0 0 0 0 0 0 0) 0 ([] : List api_Seg) ([] : List api_Route) 0 false) ((SkL.nil (fun _ => (SkL.nil (fun _ => ())))), (SkL.nil (fun _ => ())), (SkL.nil (fun _ => (SkL.nil (fun _ => ())))), (SkL.nil (fun _ => ()))) (by kernel_rfl) (by kernel_rfl) (by decide) (fun _ _ => rfl) (by kernel_rfl : _ = 232) (dec73 W)
end Go.Proofs.YtbbekdmndifkpaaGreatDoor
namespace Go.Proofs.YtbbekdmndifkpaaGreatDoor
open Go Eng
theorem mul_or {a c : Nat} (ha : a < 72057594037927936) (hc : c < 256) : bOr .u64 (u64 ((a : Int) * 256)) (u64 (c : Int)) = ((a * 256 + c : Nat) : Int) := by
 rw [u64_id (by omega), u64_id (by omega)]
 have e : ((a : Int) * 256) = ((a * 256 : Nat) : Int) := by omega
 rw [e]
 have h1 : a * 256 < 2 ^ 64 := by omega
 have h2 : c < 2 ^ 64 := by omega
 have h3 := bOr_u64 h1 h2
 rw [h3]
 have h4 := or_add 8 (x := a) (y := c) (by omega)
 rw [show (2 : Nat) ^ 8 = 256 from rfl] at h4
 rw [h4]
theorem get_loop (r : ByteArray) (n : Nat) (hn : n ≤ 8) (hr : r.size = n) : ∀ (j i fuel : Nat), i + j = n → j < fuel → octets_Get.l1 n r fuel ((beV ((L r).take i) : Nat) : Int) i = some (((beV (L r) : Nat) : Int), 0)
 | 0, i, 0, hij, hf => by omega
 | 0, i, fuel + 1, hij, hf => by
  obtain rfl : i = n := by omega
  simp only [octets_Get.l1]
  rw [show decide ((i : Int) < (i : Int)) = false by simp]
  rw [List.take_of_length_le (by rw [L_length]; omega)]
  rfl
 | j + 1, i, 0, hij, hf => by omega
 | j + 1, i, fuel + 1, hij, hf => by
  simp only [octets_Get.l1]
  rw [show decide ((i : Int) < (n : Int)) = true by simp; omega]
  simp only [cond_true]
  have hlen : i < (L r).length := by rw [L_length]; omega
  have hidx : idxS r i = some (((L r)[i].toNat : Nat) : Int) := by
   unfold idxS
   rw [if_pos (by omega)]
   have : (r.data[(i : Int).toNat]?) = some (L r)[i] := by
    rw [← Array.getElem?_toList]
    exact List.getElem?_eq_getElem hlen
   rw [this]; rfl
  rw [hidx, Option.bind_some]
  have ht : (L r).take (i + 1) = (L r).take i ++ [(L r)[i]] := by rw [List.take_append_getElem]
  have hb := beV_lt ((L r).take i)
  rw [List.length_take, Nat.min_eq_left (by omega)] at hb
  have hp : 256 ^ i ≤ 256 ^ 7 := Nat.pow_le_pow_right (by decide) (by omega)
  have h7 : (256 : Nat) ^ 7 = 72057594037927936 := by decide
  have hc := (L r)[i].toNat_lt
  have hval : beV ((L r).take (i + 1)) = beV ((L r).take i) * 256 + (L r)[i].toNat := by
   rw [ht]
   show List.foldl _ 0 (_ ++ _) = _
   rw [List.foldl_append]
   rfl
  have hstep := mul_or (a := beV ((L r).take i)) (c := (L r)[i].toNat) (by omega) (by omega)
  rw [← hval] at hstep
  rw [hstep, i64_id (by omega)]
  have := get_loop r n hn hr j (i + 1) fuel (by omega) (by omega)
  exact this
theorem part_in (s : ByteArray) (o n : Nat) (h : o + n ≤ s.size) (hs : s.size ≤ 140737488351232) : octets_part.f s o n = some (s.extract o (o + n), none) := by
 simp only [octets_part.f]
 rw [show ((decide ((o : Int) < 0)) || (decide ((n : Int) < 0))) = false by simp]
 simp only [cond_false]
 rw [i64_id (by omega), i64_id (by omega)]
 rw [show ((decide ((o : Int) > (s.size : Int))) || (decide ((n : Int) > (s.size : Int) - (o : Int)))) = false by simp; omega]
 simp only [cond_false]
 rw [sliceS_eq (by omega)]
 rfl
theorem part_out (s : ByteArray) (o n : Nat) (h : s.size < o + n) (hs : s.size ≤ 140737488351232) : octets_part.f s o n = some ((⟨#[]⟩ : ByteArray), some ((o : Int), 10)) := by
 simp only [octets_part.f]
 rw [show ((decide ((o : Int) < 0)) || (decide ((n : Int) < 0))) = false by simp]
 simp only [cond_false]
 by_cases ho : s.size < o
 ·rw [show decide ((o : Int) > (s.size : Int)) = true by simp; omega]
  rfl
 ·rw [i64_id (by omega)]
  rw [show ((decide ((o : Int) > (s.size : Int))) || (decide ((n : Int) > (s.size : Int) - (o : Int)))) = true by simp; omega]
  rfl
theorem get_in (s : ByteArray) (o n : Nat) (hn : 1 ≤ n ∧ n ≤ 8) (h : o + n ≤ s.size) (hs : s.size ≤ 140737488351232) : octets_Get.f 2000 s o n = some (((beV (((L s).drop o).take n) : Nat) : Int), 0) := by
 simp only [octets_Get.f]
 rw [show ((decide ((n : Int) < 1)) || (decide ((n : Int) > 8))) = false by simp; omega]
 simp only [cond_false]
 rw [part_in s o n h hs, Option.bind_some]
 have e : L (s.extract o (o + n)) = ((L s).drop o).take n := by rw [L_extract]; congr 1; omega
 have hz : (s.extract o (o + n)).size = n := by rw [← L_length, e]; simp [L_length]; omega
 have := get_loop (s.extract o (o + n)) n (by omega) hz n 0 2000 (by omega) (by omega)
 rw [e] at this
 exact this
theorem get_out (s : ByteArray) (o n : Nat) (hn : 1 ≤ n ∧ n ≤ 8) (h : s.size < o + n) (hs : s.size ≤ 140737488351232) : octets_Get.f 2000 s o n = some (0, 10) := by
 simp only [octets_Get.f]
 rw [show ((decide ((n : Int) < 1)) || (decide ((n : Int) > 8))) = false by simp; omega]
 simp only [cond_false]
 rw [part_out s o n h hs, Option.bind_some]
 rfl
end Go.Proofs.YtbbekdmndifkpaaGreatDoor
namespace Go.Proofs.YtbbekdmndifkpaaGreatDoor
open Go Eng
def tag0 : api_Tag := ⟨false, 0, false, 0⟩
def frame0 : api_Frame := ⟨0, 0, tag0, 0, ⟨#[]⟩⟩
end Go.Proofs.YtbbekdmndifkpaaGreatDoor
namespace Go.Proofs.YtbbekdmndifkpaaGreatDoor
open Go Eng
theorem rget_in (s : ByteArray) (o n : Nat) (oi ni : Int) (ho : oi = o) (hni : ni = n) (nm : ByteArray) (hn : 1 ≤ n ∧ n ≤ 8) (h : o + n ≤ s.size) (hs : s.size ≤ 1600) :
  ether_reader_get.f 2000 ⟨s, oi⟩ ni nm = some (((beV (((L s).drop o).take n) : Nat) : Int), none, ⟨s, ((o + n : Nat) : Int)⟩) := by
 subst ho; subst hni
 unfold ether_reader_get.f
 simp only
 rw [get_in s o n hn h (by omega), Option.bind_some]
 simp only [bne_self_eq_false, cond_false]
 rw [i64_id (by omega)]
 rfl
theorem rget_out (s : ByteArray) (o n : Nat) (oi ni : Int) (ho : oi = o) (hni : ni = n) (nm : ByteArray) (hn : 1 ≤ n ∧ n ≤ 8) (h : s.size < o + n) (hs : s.size ≤ 1600) :
  ether_reader_get.f 2000 ⟨s, oi⟩ ni nm = some (0, some (nm, 40), ⟨s, oi⟩) := by
 subst ho; subst hni
 unfold ether_reader_get.f
 simp only
 rw [get_out s o n hn h (by omega), Option.bind_some]
 rfl
def ends (x : api_Frame × Un1 × ether_reader) : api_Frame × Int := match x.2.1 with
 | none => (x.1, 0)
 | some (_, e) => (frame0, e)
theorem parse_of (s : ByteArray) (hs : s.size ≤ 1600) (x : api_Frame × Un1 × ether_reader) (h : ether_reader_frame.f 2000 ⟨s, 0⟩ = some x) : ether_Parse.f 2000 s = some (ends x) := by
 unfold ether_Parse.f
 rw [show decide ((s.size : Int) > 1600) = false by simp; omega]
 simp only [cond_false]
 rw [h, Option.bind_some]
 obtain ⟨g, u, r⟩ := x
 rcases u with _ | ⟨q, e⟩
 ·rfl
 ·simp only [ends]
  by_cases he : e = 40
  ·subst he; rfl
  ·have h1 : errors_Is_1.f q e 40 = some false := by
    unfold errors_Is_1.f errors_is.f ether_odd_Unwrap.f
    rw [Option.bind_some]
    rw [show (true && (e == 40)) = false by simp [he]]
    rfl
   rw [h1, Option.bind_some]
   rfl
def bodyR (s : ByteArray) (p : Nat) (a : api_Frame) (n : Nat) : api_Frame × Int :=
 if n = 33024 ∨ (1500 < n ∧ n < 1536) then (frame0, 41)
 else if 1500 < n then (⟨a.Dst, a.Src, a.Tag, n, s.extract p s.size⟩, 0)
 else if s.size < p + n then (frame0, 40)
 else (⟨a.Dst, a.Src, a.Tag, a.Type_, (s.extract p s.size).extract 0 n⟩, 0)
theorem body_spec (s : ByteArray) (p n : Nat) (pi ni : Int) (hpi : pi = p) (hni : ni = n) (a : api_Frame) (hp : p ≤ s.size) (hs : s.size ≤ 1600) (r : ether_reader) :
  ∃ u g, ether_reader_body.f ⟨s, pi⟩ a ni = some (u, g) ∧ ends (g, u, r) = bodyR s p a n := by
 subst hpi; subst hni
 unfold ether_reader_body.f
 simp only
 rw [sliceS_eq (by omega), Option.bind_some]
 simp only [Int.toNat_natCast]
 have hz : (s.extract p s.size).size = s.size - p := by simp
 by_cases h1 : n = 33024
 ·subst h1
  refine ⟨_, _, rfl, ?_⟩
  simp [ends, bodyR]
 ·rw [show (((n : Int)) == 33024) = false by simp; omega]
  simp only [cond_false]
  by_cases h2 : 1500 < n ∧ n < 1536
  ·rw [show ((decide ((n : Int) > 1500)) && (decide ((n : Int) < 1536))) = true by simp; omega]
   refine ⟨_, _, rfl, ?_⟩
   simp [ends, bodyR, h2]
  ·rw [show ((decide ((n : Int) > 1500)) && (decide ((n : Int) < 1536))) = false by simp; omega]
   simp only [ether_reader_body.k1, cond_false]
   by_cases h3 : 1500 < n
   ·rw [show decide ((n : Int) > 1500) = true by simp; omega]
    refine ⟨_, _, rfl, ?_⟩
    simp only [ends, bodyR]
    rw [if_neg (by omega), if_pos h3]
   ·rw [show decide ((n : Int) > 1500) = false by simp; omega]
    simp only [cond_false]
    by_cases h4 : s.size < p + n
    ·rw [show decide ((n : Int) > ((s.extract p s.size).size : Int)) = true by rw [hz]; simp; omega]
     refine ⟨_, _, rfl, ?_⟩
     simp only [ends, bodyR]
     rw [if_neg (by omega), if_neg h3, if_pos h4]
    ·rw [show decide ((n : Int) > ((s.extract p s.size).size : Int)) = false by rw [hz]; simp; omega]
     simp only [cond_false]
     rw [sliceS_eq (by rw [hz]; omega), Option.bind_some]
     refine ⟨_, _, rfl, ?_⟩
     simp only [ends, bodyR]
     rw [if_neg (by omega), if_neg h3, if_neg h4]
     rfl
theorem k1_spec (s : ByteArray) (p n : Nat) (pi ni d e : Int) (hpi : pi = p) (hni : ni = n) (t : api_Tag) (hp : p ≤ s.size) (hs : s.size ≤ 1600) :
  ∃ x, ether_reader_frame.k1 none ni s pi d e t.Has t.Pri t.Dei t.Vid 0 ⟨#[]⟩ = some x ∧ ends x = bodyR s p ⟨d, e, t, 0, ⟨#[]⟩⟩ n := by
 obtain ⟨u, g, h, he⟩ := body_spec s p n pi ni hpi hni ⟨d, e, t, 0, ⟨#[]⟩⟩ hp hs ⟨s, pi⟩
 unfold ether_reader_frame.k1
 simp only
 rw [h, Option.bind_some]
 rcases u with _ | ⟨q, w⟩
 ·exact ⟨_, rfl, he⟩
 ·exact ⟨_, rfl, he⟩
def at2 (s : ByteArray) (o n : Nat) : Nat := beV (((L s).drop o).take n)
def tagOf (v : Nat) : api_Tag := ⟨true, ((v / 8192 : Nat) : Int), decide (v / 4096 % 2 = 1), ((v % 4096 : Nat) : Int)⟩
def parseR (s : ByteArray) : api_Frame × Int :=
 if 1600 < s.size then (frame0, 41)
 else if s.size < 14 then (frame0, 40)
 else if at2 s 12 2 = 33024 then
  (if s.size < 18 then (frame0, 40) else bodyR s 18 ⟨(at2 s 0 6 : Nat), (at2 s 6 6 : Nat), tagOf (at2 s 14 2), 0, ⟨#[]⟩⟩ (at2 s 16 2))
 else bodyR s 14 ⟨(at2 s 0 6 : Nat), (at2 s 6 6 : Nat), tag0, 0, ⟨#[]⟩⟩ (at2 s 12 2)
theorem at2_lt (s : ByteArray) (o n : Nat) : at2 s o n < 256 ^ n := by
 refine Nat.lt_of_lt_of_le (beV_lt _) (Nat.pow_le_pow_right (by decide) ?_)
 rw [List.length_take]; omega
theorem tagOf_spec (v : Nat) (hv : v < 65536) : (⟨true, Int.fdiv (i64 (v : Int)) 8192, (bAnd .i64 (i64 (v : Int)) 4096) != 0, Int.tmod (i64 (v : Int)) 4096⟩ : api_Tag) = tagOf v := by
 rw [i64_id (by omega), bAnd_4096 (by omega)]
 unfold tagOf
 have e1 : Int.fdiv (v : Int) 8192 = ((v / 8192 : Nat) : Int) := by
  rw [Int.fdiv_eq_ediv_of_nonneg _ (by decide)]; omega
 have e2 : Int.tmod (v : Int) 4096 = ((v % 4096 : Nat) : Int) := by
  rw [Int.tmod_eq_emod_of_nonneg (by omega)]; omega
 have e3 : ((((v / 4096 % 2) * 4096 : Nat) : Int) != 0) = decide (v / 4096 % 2 = 1) := by
  rcases Nat.mod_two_eq_zero_or_one (v / 4096) with h | h <;> simp [h]
 rw [e1, e2, e3]
theorem parse_spec (s : ByteArray) : ether_Parse.f 2000 s = some (parseR s) := by
 by_cases hs : 1600 < s.size
 ·unfold ether_Parse.f parseR
  rw [if_pos hs, show decide ((s.size : Int) > 1600) = true by simp; omega]
  rfl
 ·have hs' : s.size ≤ 1600 := by omega
  suffices h : ∃ x, ether_reader_frame.f 2000 ⟨s, 0⟩ = some x ∧ ends x = parseR s by
   obtain ⟨x, h1, h2⟩ := h
   rw [parse_of s hs' x h1, h2]
  unfold ether_reader_frame.f
  by_cases h6 : s.size < 6
  ·rw [rget_out s 0 6 0 6 rfl rfl _ (by omega) (by omega) hs', Option.bind_some]
   refine ⟨_, rfl, ?_⟩
   simp only [ends, parseR]
   rw [if_neg hs, if_pos (by omega)]
  ·rw [rget_in s 0 6 0 6 rfl rfl _ (by omega) (by omega) hs', Option.bind_some]
   simp only
   by_cases h12 : s.size < 12
   ·rw [rget_out s 6 6 _ 6 rfl rfl _ (by omega) (by omega) hs', Option.bind_some]
    refine ⟨_, rfl, ?_⟩
    simp only [ends, parseR]
    rw [if_neg hs, if_pos (by omega)]
   ·rw [rget_in s 6 6 _ 6 rfl rfl _ (by omega) (by omega) hs', Option.bind_some]
    simp only
    by_cases h14 : s.size < 14
    ·rw [rget_out s 12 2 _ 2 rfl rfl _ (by omega) (by omega) hs', Option.bind_some]
     refine ⟨_, rfl, ?_⟩
     simp only [ends, parseR]
     rw [if_neg hs, if_pos h14]
    ·rw [rget_in s 12 2 _ 2 rfl rfl _ (by omega) (by omega) hs', Option.bind_some]
     simp only
     have h2 := at2_lt s 12 2
     have hi : i64 ((beV (((L s).drop 12).take 2) : Nat) : Int) = ((at2 s 12 2 : Nat) : Int) := i64_id (by unfold at2 at h2; omega)
     rw [hi]
     unfold parseR
     rw [if_neg hs, if_neg h14]
     by_cases h81 : at2 s 12 2 = 33024
     ·rw [if_pos h81, h81, show (((33024 : Nat) : Int) == 33024) = true from rfl]
      simp only [cond_true]
      unfold ether_reader_tagged.f
      by_cases h16 : s.size < 16
      ·rw [rget_out s 14 2 _ 2 rfl rfl _ (by omega) (by omega) hs', Option.bind_some]
       refine ⟨_, rfl, ?_⟩
       rw [if_pos (by omega)]
       rfl
      ·rw [rget_in s 14 2 _ 2 rfl rfl _ (by omega) (by omega) hs', Option.bind_some]
       simp only
       by_cases h18 : s.size < 18
       ·rw [rget_out s 16 2 _ 2 rfl rfl _ (by omega) (by omega) hs', Option.bind_some]
        refine ⟨_, rfl, ?_⟩
        rw [if_pos h18]
        rfl
       ·rw [rget_in s 16 2 _ 2 rfl rfl _ (by omega) (by omega) hs', Option.bind_some, if_neg h18]
        simp only [Option.bind_some]
        have ht := tagOf_spec (at2 s 14 2) (at2_lt s 14 2)
        have e16 := at2_lt s 16 2
        rw [← ht]
        exact k1_spec s 18 (at2 s 16 2) _ _ _ _ rfl (i64_id (by omega)) (⟨true, Int.fdiv (i64 ((at2 s 14 2 : Nat) : Int)) 8192, (bAnd .i64 (i64 ((at2 s 14 2 : Nat) : Int)) 4096) != 0, Int.tmod (i64 ((at2 s 14 2 : Nat) : Int)) 4096⟩ : api_Tag) (by omega) hs'
     ·rw [if_neg h81, show ((((at2 s 12 2 : Nat) : Int)) == 33024) = false by simp; omega]
      simp only [cond_false]
      exact k1_spec s 14 (at2 s 12 2) _ _ _ _ rfl rfl tag0 (by omega) hs'
end Go.Proofs.YtbbekdmndifkpaaGreatDoor
namespace Go.Proofs.YtbbekdmndifkpaaGreatDoor
open Go Eng
end Go.Proofs.YtbbekdmndifkpaaGreatDoor
namespace Go.Proofs.YtbbekdmndifkpaaGreatDoor
open Go Eng
theorem cut_spec (s : ByteArray) (m : Nat) : ∃ t, sliceS s 0 (imin (s.size : Int) m) = some t ∧ t.size ≤ m := by
 refine ⟨s.extract 0 (imin (s.size : Int) m).toNat, sliceS_eq ?_, ?_⟩
 ·unfold imin; split <;> omega
 ·have : (s.extract 0 (imin (s.size : Int) m).toNat).size = min (imin (s.size : Int) m).toNat s.size - 0 := by simp
  rw [this]
  unfold imin; split <;> omega
end Go.Proofs.YtbbekdmndifkpaaGreatDoor
/- Loops of the models, in general. -/
namespace Go.Proofs.YtbbekdmndifkpaaGreatDoor
open Go Eng
theorem getL_at {α : Type} {xs : List α} {i : Nat} (h : i < xs.length) : getL xs.length xs (i : Int) = some xs[i] := by
 unfold getL
 rw [if_pos (by omega), Int.toNat_natCast, List.getElem?_eq_getElem h]
theorem lt_t {i n : Nat} (h : i < n) : decide ((i : Int) < (n : Int)) = true := by simp; omega
theorem lt_f {i n : Nat} (h : n ≤ i) : decide ((i : Int) < (n : Int)) = false := by simp; omega
theorem i64_next {i : Nat} (h : i ≤ 1000000) : i64 ((i : Int) + 1) = ((i + 1 : Nat) : Int) := by rw [i64_id (by omega)]; omega
theorem room_ok {b n : Nat} (h : n * b ≤ 140737488355328) (h2 : n ≤ 4611686018427387904) : roomL b n = some () := if_pos ⟨h, h2⟩
theorem imin_le (n : Nat) (m : Nat) : ∃ k : Nat, imin (n : Int) (m : Int) = k ∧ k ≤ n ∧ k ≤ m := by
 by_cases h : n ≤ m
 ·exact ⟨n, by unfold imin; split <;> omega, Nat.le_refl _, h⟩
 ·exact ⟨m, by unfold imin; split <;> omega, by omega, Nat.le_refl _⟩
theorem sliceL_take {α : Type} {l : List α} {m : Nat} (h : m ≤ l.length) : sliceL l 0 (m : Int) = some (l.take m) := by
 unfold sliceL
 rw [if_pos (by omega)]
 simp
theorem loop_tot {σ α : Type} {P : α → Prop} (len : Nat) (I : Nat → σ → Prop) (f : Nat → σ → Nat → Option α) (hend : ∀ n st, I len st → ∃ r, f (n + 1) st len = some r ∧ P r)
  (hstep : ∀ n i st, i < len → I i st → (∀ st', I (i + 1) st' → ∃ r, f n st' (i + 1) = some r ∧ P r) → ∃ r, f (n + 1) st i = some r ∧ P r) : ∀ (j i fuel : Nat) (st : σ), i + j = len → j < fuel → I i st → ∃ r, f fuel st i = some r ∧ P r
 | _, _, 0, _, _, h, _ => by omega
 | 0, i, fuel + 1, st, e, _, hI => by
  obtain rfl : i = len := by omega
  exact hend fuel st hI
 | j + 1, i, fuel + 1, st, e, h, hI => hstep fuel i st (by omega) hI fun st' h' => loop_tot len I f hend hstep j (i + 1) fuel st' (by omega) (by omega) h'
theorem loop_tot0 {σ α : Type} {P : α → Prop} (len : Nat) (I : Nat → σ → Prop) (f : Nat → σ → Nat → Option α) (hend : ∀ n st, I len st → ∃ r, f (n + 1) st len = some r ∧ P r)
  (hstep : ∀ n i st, i < len → I i st → (∀ st', I (i + 1) st' → ∃ r, f n st' (i + 1) = some r ∧ P r) → ∃ r, f (n + 1) st i = some r ∧ P r) {fuel : Nat} (st : σ) (h : len < fuel) (hI : I 0 st) : ∃ r, f fuel st 0 = some r ∧ P r :=
 loop_tot len I f hend hstep len 0 fuel st (by omega) h hI
end Go.Proofs.YtbbekdmndifkpaaGreatDoor
/- What any gateways are bound to, and that whether they may work together is answered. -/
namespace Go.Proofs.YtbbekdmndifkpaaGreatDoor
open Go Eng
theorem bound21_spec (l : List api_Seg) : ∃ r, gangwaylaw21_Bound.f 2000 l = some r ∧ r.length ≤ 12 ∧ ∀ s ∈ r, s.Peers.length ≤ 20 := by
 unfold gangwaylaw21_Bound.f
 refine loop_tot0 (P := fun r => r.length ≤ 12 ∧ ∀ s ∈ r, s.Peers.length ≤ 20) 12 (fun i (out : List api_Seg) => out.length = i ∧ ∀ s ∈ out, s.Peers.length ≤ 20) (fun n out i => gangwaylaw21_Bound.l1 l n out (i : Int)) ?_ ?_ (fuel := 2000) [] (by omega) ⟨rfl, by simp⟩
 ·rintro n out ⟨ho, hp⟩
  simp only [gangwaylaw21_Bound.l1]
  rw [show decide (((12 : Nat) : Int) < 12) = false by simp, Bool.and_false, cond_false]
  exact ⟨out, rfl, by omega, hp⟩
 ·rintro n i out hi ⟨ho, hp⟩ hk
  simp only [gangwaylaw21_Bound.l1]
  rw [show decide ((i : Int) < 12) = true by simp; omega, Bool.and_true]
  by_cases hlt : i < l.length
  ·rw [lt_t hlt, cond_true, getL_at hlt, Option.bind_some]
   generalize l[i] = s
   obtain ⟨m, hm, hm1, hm2⟩ := imin_le s.Peers.length 20
   rw [show imin (s.Peers.length : Int) 20 = (m : Int) from hm, sliceL_take hm1, Option.bind_some]
   have htl : (s.Peers.take m).length ≤ 20 := by rw [List.length_take]; omega
   have hol : (out ++ [(⟨s.Vid, s.Vni, s.Peers.take m⟩ : api_Seg)]).length = i + 1 := by rw [List.length_append, ho]; rfl
   rw [room_ok (by omega) (by omega), Option.bind_some, room_ok (by omega) (by omega), Option.bind_some, i64_next (by omega)]
   refine hk _ ⟨hol, fun q hq => ?_⟩
   rw [List.mem_append, List.mem_singleton] at hq
   rcases hq with hq | rfl
   ·exact hp q hq
   ·exact htl
  ·rw [lt_f (by omega), cond_false]
   exact ⟨out, rfl, by omega, hp⟩
structure GateOk (g : api_Gate) : Prop where
 ports : g.Ports.length ≤ 5
 vids : ∀ p ∈ g.Ports, p.Vids.length ≤ 12
 edges : g.Edges.length ≤ 5
 segs : g.Segs.length ≤ 12
 peers : ∀ s ∈ g.Segs, s.Peers.length ≤ 20
 routes : g.Routes.length ≤ 8
 ips : ∀ x ∈ g.Routes, 0 ≤ x.To.Ip ∧ x.To.Ip ≤ 4294967295
theorem bound16_spec (a : Bool) (b : Int) (l : List Int) : ∃ p, gangwaylaw16_Bound.f a b l = some p ∧ p.Vids.length ≤ 12 := by
 unfold gangwaylaw16_Bound.f
 obtain ⟨m, hm, hm1, hm2⟩ := imin_le l.length 12
 rw [show imin (l.length : Int) 12 = (m : Int) from hm, sliceL_take hm1, Option.bind_some]
 have htl : (l.take m).length ≤ 12 := by rw [List.length_take]; omega
 rw [room_ok (by omega) (by omega), Option.bind_some]
 exact ⟨_, rfl, htl⟩
theorem lt_lit (n m : Nat) : decide ((m : Int) < (n : Int)) = decide (m < n) := by
 by_cases h : m < n
 ·rw [decide_eq_true h]; exact lt_t h
 ·rw [decide_eq_false h]; exact lt_f (by omega)
theorem bound24_spec (g : api_Gate) (h9 : ∀ x ∈ g.Routes, 0 ≤ x.To.Ip ∧ x.To.Ip ≤ 4294967295) : ∃ r, gangwaylaw24_Bound.f 2000 g.Bridge g.Mac g.Ip g.Ports g.Edges g.Keep g.Near g.Heard g.Segs g.Routes g.Most g.Answers = some r ∧ GateOk r := by
 unfold gangwaylaw24_Bound.f
 have hel : ∀ (ps : List api_PortCfg) (n : Nat) (i : Int), ps.length ≤ 5 → (∀ p ∈ ps, p.Vids.length ≤ 12) → ((decide (i < (g.Ports.length : Int))) && (decide (i < 5))) = false → ∃ r, gangwaylaw24_Bound.l1 g.Ports g.Edges 2000 g.Segs g.Routes g.Bridge g.Mac g.Ip g.Keep g.Near g.Heard g.Most g.Answers (n + 1) i ps = some r ∧ GateOk r := fun ps n i h1 h2 hc => by
  simp only [gangwaylaw24_Bound.l1]
  rw [hc, cond_false]
  obtain ⟨m, hm, hm1, hm2⟩ := imin_le g.Edges.length 5
  rw [show imin (g.Edges.length : Int) 5 = (m : Int) from hm, sliceL_take hm1, Option.bind_some]
  have htl : (g.Edges.take m).length ≤ 5 := by rw [List.length_take]; omega
  rw [room_ok (by omega) (by omega), Option.bind_some]
  obtain ⟨ss, hs, hs1, hs2⟩ := bound21_spec g.Segs
  rw [hs, Option.bind_some]
  obtain ⟨n, hn, hn1, hn2⟩ := imin_le g.Routes.length 8
  rw [show imin (g.Routes.length : Int) 8 = (n : Int) from hn, sliceL_take hn1, Option.bind_some]
  have htn : (g.Routes.take n).length ≤ 8 := by rw [List.length_take]; omega
  rw [room_ok (by omega) (by omega), Option.bind_some]
  exact ⟨_, rfl, ⟨h1, h2, htl, hs1, hs2, htn, fun x hx => h9 x (List.mem_of_mem_take hx)⟩⟩
 refine loop_tot0 (P := GateOk) 5 (fun i (st : List api_PortCfg) => st.length = i ∧ ∀ p ∈ st, p.Vids.length ≤ 12) (fun n st i => gangwaylaw24_Bound.l1 g.Ports g.Edges 2000 g.Segs g.Routes g.Bridge g.Mac g.Ip g.Keep g.Near g.Heard g.Most g.Answers n (i : Int) st) (fun n st hst => hel st n _ (by omega) hst.2 (by simp)) (fun n i st hi hst hk => ?_) (fuel := 2000) [] (by omega) ⟨rfl, by simp⟩
 by_cases hlt : i < g.Ports.length
 ·simp only [gangwaylaw24_Bound.l1]
  rw [lt_t hlt, show decide ((i : Int) < 5) = true by simp; omega, Bool.and_true, cond_true, getL_at hlt, Option.bind_some]
  obtain ⟨q, hq, hv⟩ := bound16_spec g.Ports[i].Trunk g.Ports[i].Pvid g.Ports[i].Vids
  rw [hq, Option.bind_some, room_ok (by simp; omega) (by simp; omega), Option.bind_some, i64_next (by omega)]
  refine hk _ ⟨by simp [hst.1], fun p hp => ?_⟩
  rcases List.mem_append.1 hp with hp | hp
  ·exact hst.2 p hp
  ·rw [List.mem_singleton] at hp; subst hp; exact hv
 ·exact hel st n _ (by omega) hst.2 (by rw [lt_f (by omega)]; rfl)
def GatesOk (l : List api_Gate) : Prop := l.length ≤ 3 ∧ ∀ g ∈ l, GateOk g
def IpsOk (l : List api_Gate) : Prop := ∀ g ∈ l, ∀ x ∈ g.Routes, 0 ≤ x.To.Ip ∧ x.To.Ip ≤ 4294967295
theorem bound27_spec (l : List api_Gate) (h9 : IpsOk l) : ∃ r, gangwaylaw27_Bound.f 2000 l = some r ∧ GatesOk r := by
 unfold gangwaylaw27_Bound.f
 refine loop_tot0 (P := GatesOk) 3 (fun i (out : List api_Gate) => out.length = i ∧ ∀ s ∈ out, GateOk s) (fun n out i => gangwaylaw27_Bound.l1 l 2000 n out (i : Int)) ?_ ?_ (fuel := 2000) [] (by omega) ⟨rfl, by simp⟩
 ·rintro n out ⟨ho, hp⟩
  simp only [gangwaylaw27_Bound.l1]
  rw [show decide (((3 : Nat) : Int) < 3) = false by simp, Bool.and_false, cond_false]
  exact ⟨out, rfl, by omega, hp⟩
 ·rintro n i out hi ⟨ho, hp⟩ hk
  simp only [gangwaylaw27_Bound.l1]
  rw [show decide ((i : Int) < 3) = true by simp; omega, Bool.and_true]
  by_cases hlt : i < l.length
  ·rw [lt_t hlt, cond_true, getL_at hlt, Option.bind_some]
   obtain ⟨r, hr, hr2⟩ := bound24_spec l[i] (h9 _ (List.getElem_mem hlt))
   rw [hr, Option.bind_some]
   have hol : (out ++ [r]).length = i + 1 := by rw [List.length_append, ho]; rfl
   rw [room_ok (by omega) (by omega), Option.bind_some, i64_next (by omega)]
   refine hk _ ⟨hol, fun q hq => ?_⟩
   rw [List.mem_append, List.mem_singleton] at hq
   rcases hq with hq | rfl
   ·exact hp q hq
   ·exact hr2
  ·rw [lt_f (by omega), cond_false]
   exact ⟨out, rfl, by omega, hp⟩
theorem among_tot (l : List Int) (a : Int) (h : l.length ≤ 1000) : gangwayref16_among.f 2000 l a = some (decide (a ∈ l)) := by
 unfold gangwayref16_among.f
 have key : ∀ (r pre : List Int) (fuel : Nat), l = pre ++ r → r.length < fuel → gangwayref16_among.l1 l a fuel false (pre.length : Int) = some (decide (a ∈ r)) := by
  intro r
  induction r with
  | nil =>
   intro pre fuel e hf
   obtain ⟨fuel, rfl⟩ : ∃ q, fuel = q + 1 := ⟨fuel - 1, by omega⟩
   subst e
   simp [gangwayref16_among.l1]
  | cons x r ih =>
   intro pre fuel e hf
   obtain ⟨fuel, rfl⟩ : ∃ q, fuel = q + 1 := ⟨fuel - 1, by omega⟩
   have hlen : l.length = pre.length + (r.length + 1) := by rw [e]; simp
   simp only [gangwayref16_among.l1]
   rw [lt_t (by omega), cond_true, getL_at (by omega), Option.bind_some]
   have hx : l[pre.length]'(by omega) = x := by simp [e]
   rw [hx]
   cases hv : (x == a)
   ·rw [cond_false, i64_next (by omega)]
    have := ih (pre ++ [x]) fuel (by rw [e]; simp) (by simp at hf; omega)
    rw [List.length_append, List.length_singleton] at this
    rw [this]
    have : a ≠ x := fun e => by simp [e] at hv
    simp [this]
   ·rw [cond_true]
    have : x = a := by simpa using hv
    simp [this]
 exact key l [] 2000 rfl (by omega)
theorem right16_tot (a : Bool) (b : Int) (l : List Int) (h : l.length ≤ 100) : ∃ r, gangwayref16_Right.f 2000 a b l = some r := by
 unfold gangwayref16_Right.f
 cases a
 ·exact ⟨_, rfl⟩
 ·simp only [Bool.not_true, cond_false]
  obtain ⟨r, hr, _⟩ := loop_tot0 (P := fun _ => True) l.length (fun i (st : Int) => True) (fun n st i => gangwayref16_Right.l2 l b 2000 n false st (i : Int)) (fun n st _ => by
   simp only [gangwayref16_Right.l2]
   rw [lt_f (Nat.le_refl _), cond_false]
   cases (b == 0)
   ·rw [cond_false, among_tot l b (by omega), Option.bind_some]; exact ⟨_, rfl, trivial⟩
   ·exact ⟨_, rfl, trivial⟩) (fun n i st hi _ hk => by
   have hk1 : ∀ a b', ∃ r, gangwayref16_Right.k1 l (i : Int) false (gangwayref16_Right.l2 l b 2000 n) a b' = some r ∧ True := fun a b' => by
    simp only [gangwayref16_Right.k1]
    cases b'
    ·rw [cond_false, getL_at hi, Option.bind_some, i64_next (by omega)]
     exact hk _ trivial
    ·exact ⟨_, rfl, trivial⟩
   simp only [gangwayref16_Right.l2]
   rw [lt_t hi, cond_true, getL_at hi, Option.bind_some, Option.bind_some]
   cases decide (l[i] ≤ st)
   ·rw [cond_false]; exact hk1 _ _
   ·rw [cond_true]; exact hk1 _ _) (fuel := 2000) 0 (by omega) trivial
  exact ⟨r, hr⟩
theorem new10_tot (a b : Int) : ∃ r, gangwayref10_New.f a b = some r := by
 unfold gangwayref10_New.f
 cases (((decide (a < 1)) || (decide (a > 4096))) || (decide (b < 1))) || (decide (b > 1099511627776)) <;> exact ⟨_, rfl⟩
theorem new12_tot (a b : Int) : ∃ r, gangwayref12_New.f a b = some r := by
 unfold gangwayref12_New.f
 cases (((decide (a < 1)) || (decide (a > 4096))) || (decide (b < 1))) || (decide (b > 1099511627776)) <;> exact ⟨_, rfl⟩
theorem new11_tot (a : api_Keep) : ∃ r, gangwayref11_New.f a = some r := by
 unfold gangwayref11_New.f
 obtain ⟨r, hr⟩ := new10_tot a.Room a.Life
 rw [hr, Option.bind_some]
 cases (((((r != 0) || (decide (a.Moves < 0))) || (decide (a.Moves > 64))) || (decide (a.Window < 1))) || (decide (a.Window > 1099511627776))) <;> exact ⟨_, rfl⟩
theorem own_tot (a : Int) : ∃ r, gangwayref02_Own.f a = some r := by
 unfold gangwayref02_Own.f
 cases ((decide (a > 0)) && (decide (a < 281474976710656))) <;> exact ⟨_, rfl⟩
theorem new19_tot (a : api_Near) : ∃ r, gangwayref19_New.f a = some r := by
 unfold gangwayref19_New.f
 obtain ⟨r, hr⟩ := new10_tot a.Room a.Life
 have h1 : ∀ b, ∃ r, gangwayref19_New.k1 b = some r := fun b => by cases b <;> exact ⟨_, rfl⟩
 have h2 : ∀ b, ∃ r, gangwayref19_New.k2 a b = some r := fun b => by
  unfold gangwayref19_New.k2 gangwayref19_few.f
  cases b
  ·rw [cond_false, Option.bind_some]; exact h1 _
  ·rw [cond_true]; exact h1 _
 have h3 : ∀ b, ∃ r, gangwayref19_New.k3 a b = some r := fun b => by
  unfold gangwayref19_New.k3 gangwayref19_few.f
  cases b
  ·rw [cond_false, Option.bind_some]; exact h2 _
  ·rw [cond_true]; exact h2 _
 have h4 : ∀ b, ∃ r, gangwayref19_New.k4 a b = some r := fun b => by
  unfold gangwayref19_New.k4 gangwayref19_few.f
  cases (b || (a.Ip == 0))
  ·rw [cond_false, Option.bind_some]; exact h3 _
  ·rw [cond_true]; exact h3 _
 rw [hr, Option.bind_some]
 obtain ⟨q, hq⟩ := own_tot a.Mac
 cases (r != 0)
 ·rw [cond_false, hq, Option.bind_some]; exact h4 _
 ·rw [cond_true]; exact h4 _
theorem new17_tot (l : List api_PortCfg) (a : api_Keep) (h : l.length ≤ 5) (hv : ∀ p ∈ l, p.Vids.length ≤ 12) : ∃ r, gangwayref17_New.f 2000 l a = some r := by
 unfold gangwayref17_New.f
 rw [show decide ((l.length : Int) > 64) = false by simp; omega, cond_false]
 obtain ⟨r, hr, _⟩ := loop_tot0 (P := fun _ => True) l.length (fun i (st : Unit) => True) (fun n st i => gangwayref17_New.l1 l 2000 a n 0 (i : Int)) (fun n st _ => by
   simp only [gangwayref17_New.l1]
   rw [lt_f (Nat.le_refl _), cond_false]
   obtain ⟨r, hr⟩ := new11_tot a
   rw [hr, Option.bind_some]
   cases (r != 0)
   ·rw [cond_false, room_ok (by omega) (by omega), Option.bind_some]
    have : mkLen 8 (l.length : Int) = some l.length := by unfold mkLen; rw [if_pos (by omega)]; simp
    rw [this]; exact ⟨_, rfl, trivial⟩
   ·exact ⟨_, rfl, trivial⟩) (fun n i st hi _ hk => by
   simp only [gangwayref17_New.l1]
   rw [lt_t hi, cond_true, getL_at hi, Option.bind_some]
   obtain ⟨r, hr⟩ := right16_tot l[i].Trunk l[i].Pvid l[i].Vids (by have := hv l[i] (List.getElem_mem hi); omega)
   rw [hr, Option.bind_some, i64_next (by omega)]
   cases r
   ·exact ⟨_, rfl, trivial⟩
   ·exact hk () trivial) (fuel := 2000) () (by omega) trivial
 exact ⟨r, hr⟩
theorem new15_tot (a : Int) (l : List Int) (e : List Bool) (h : l.length ≤ 5) : ∃ r, gangwayref15_New.f 2000 a l e = some r := by
 unfold gangwayref15_New.f
 by_cases he : l.length = e.length
 ·rw [show ((l.length : Int) != (e.length : Int)) = false by simp; omega, Bool.or_false, show decide ((l.length : Int) > 64) = false by simp; omega, cond_false]
  obtain ⟨r, hr, _⟩ := loop_tot0 (P := fun _ => True) l.length (fun i (st : List api_SpanPort) => st.length = i) (fun n st i => gangwayref15_New.l3 l e a n 0 (i : Int) st) (fun n st _ => by
    simp only [gangwayref15_New.l3]
    rw [lt_f (Nat.le_refl _), cond_false]
    exact ⟨_, rfl, trivial⟩) (fun n i st hi hst hk => by
    have hk2 : ∀ a' b', ∃ r, gangwayref15_New.k2 e (i : Int) l st 0 (gangwayref15_New.l3 l e a n) a' b' = some r ∧ True := fun a' b' => by
     simp only [gangwayref15_New.k2]
     cases b'
     ·rw [cond_false, getL_at (by omega), Option.bind_some, getL_at hi, Option.bind_some, room_ok (by simp; omega) (by simp; omega), Option.bind_some, i64_next (by omega)]
      exact hk _ (by simp [hst])
     ·exact ⟨_, rfl, trivial⟩
    simp only [gangwayref15_New.l3]
    rw [lt_t hi, cond_true, getL_at hi, Option.bind_some, Option.bind_some]
    cases decide (l[i] < 1)
    ·rw [cond_false]; exact hk2 _ _
    ·rw [cond_true]; exact hk2 _ _) (fuel := 2000) [] (by omega) rfl
  exact ⟨r, hr⟩
 ·rw [show ((l.length : Int) != (e.length : Int)) = true by simp; omega, Bool.or_true, cond_true]
  exact ⟨_, rfl⟩
theorem size02_tot (n : api_Net) (h : 0 ≤ n.Bits ∧ n.Bits ≤ 32) : ∃ r, gangwayref02_size.f 2000 n = some r ∧ r ≠ 0 := by
 unfold gangwayref02_size.f
 obtain ⟨b, hb⟩ : ∃ b : Nat, n.Bits = b := ⟨n.Bits.toNat, by omega⟩
 rw [hb]
 have key : ∀ (j b fuel x : Nat), b + j = 32 → j < fuel → 0 < x → x ≤ 2 ^ b → ∃ r, gangwayref02_size.l1 fuel (x : Int) (b : Int) = some r ∧ r ≠ 0 := by
  intro j
  induction j with
  | zero =>
   intro b fuel x e hf h0 h1
   obtain ⟨fuel, rfl⟩ : ∃ q, fuel = q + 1 := ⟨fuel - 1, by omega⟩
   obtain rfl : b = 32 := by omega
   exact ⟨x, rfl, by omega⟩
  | succ j ih =>
   intro b fuel x e hf h0 h1
   obtain ⟨fuel, rfl⟩ : ∃ q, fuel = q + 1 := ⟨fuel - 1, by omega⟩
   simp only [gangwayref02_size.l1]
   have hp : (2 : Nat) ^ b ≤ 2 ^ 32 := Nat.pow_le_pow_right (by omega) (by omega)
   rw [show decide ((b : Int) < 32) = true by simp; omega, cond_true, i64_next (by omega), u64_id (n := 2 * (x : Int)) (by omega)]
   have := ih (b + 1) fuel (2 * x) (by omega) (by omega) (by omega) (by rw [Nat.pow_succ]; omega)
   simpa using this
 exact key (32 - b) b 2000 1 (by omega) (by omega) (by omega) (Nat.one_le_two_pow)
theorem net02_tot (n : api_Net) : ∃ r, gangwayref02_Net.f 2000 n = some r := by
 unfold gangwayref02_Net.f
 by_cases h : 0 ≤ n.Bits ∧ n.Bits ≤ 32
 ·rw [show ((decide (n.Bits ≥ 0)) && (decide (n.Bits ≤ 32))) = true by simp; exact h, cond_true]
  obtain ⟨r, hr, h0⟩ := size02_tot n h
  rw [hr, Option.bind_some]
  unfold remI
  rw [if_neg h0]
  exact ⟨_, rfl⟩
 ·rw [show ((decide (n.Bits ≥ 0)) && (decide (n.Bits ≤ 32))) = false by simp; omega, cond_false]
  exact ⟨_, rfl⟩
theorem place18_tot (l : List api_Route) (n : api_Net) (h : l.length ≤ 100) : ∃ r, gangwayref18_Table_place_1.f 2000 l n = some r ∧ (r = -1 ∨ (0 ≤ r ∧ r < l.length)) := by
 unfold gangwayref18_Table_place_1.f
 refine loop_tot0 (P := fun r : Int => r = -1 ∨ (0 ≤ r ∧ r < l.length)) l.length (fun i (st : Unit) => True) (fun k st i => gangwayref18_Table_place_1.l1 l n k 0 (i : Int)) (fun k st _ => ?_) (fun k i st hi _ hk => ?_) (fuel := 2000) () (by omega) trivial
 ·simp only [gangwayref18_Table_place_1.l1]
  rw [lt_f (Nat.le_refl _), cond_false]
  exact ⟨_, rfl, .inl rfl⟩
 ·simp only [gangwayref18_Table_place_1.l1]
  rw [lt_t hi, cond_true, getL_at hi, Option.bind_some, i64_next (by omega)]
  cases ((l[i].To.Ip == n.Ip) && ((l[i].To.Bits == n.Bits) && true))
  ·exact hk () trivial
  ·exact ⟨_, rfl, .inr (by omega)⟩
theorem put18_tot (l : List api_Route) (a : api_Route) (h : l.length ≤ 100) : ∃ c r, gangwayref18_Table_Put_1.f 2000 l a = some (c, r) ∧ r.length ≤ l.length + 1 := by
 unfold gangwayref18_Table_Put_1.f
 obtain ⟨q, hq⟩ := net02_tot a.To
 rw [hq, Option.bind_some]
 cases q
 ·exact ⟨_, _, rfl, by omega⟩
 ·simp only [Bool.not_true, cond_false]
  obtain ⟨p, hp, h1⟩ := place18_tot l a.To h
  rw [hp, Option.bind_some]
  rcases h1 with rfl | h1
  ·rw [show decide ((-1 : Int) ≥ 0) = false by decide, cond_false, show decide ((l.length : Int) ≥ 256) = false by simp; omega, cond_false, room_ok (by simp; omega) (by simp; omega), Option.bind_some]
   exact ⟨_, _, rfl, by simp⟩
  ·obtain ⟨i, rfl⟩ : ∃ i : Nat, p = i := ⟨p.toNat, by omega⟩
   rw [show decide ((i : Int) ≥ 0) = true by simp, cond_true, getL_at (by omega), Option.bind_some]
   exact ⟨_, _, rfl, by simp⟩
theorem ways_tot (l : List api_Route) (h : l.length ≤ 8) : ∃ r, gangwayref24_ways.f 2000 l = some r := by
 unfold gangwayref24_ways.f
 obtain ⟨r, hr, _⟩ := loop_tot0 (P := fun _ => True) l.length (fun i (st : List api_Route) => st.length ≤ i) (fun n st i => gangwayref24_ways.l1 l 2000 n false (i : Int) st) (fun n st _ => by
   simp only [gangwayref24_ways.l1]
   rw [lt_f (Nat.le_refl _), cond_false]
   exact ⟨_, rfl, trivial⟩) (fun n i st hi hst hk => by
   simp only [gangwayref24_ways.l1]
   rw [lt_t hi, cond_true, getL_at hi, Option.bind_some]
   obtain ⟨c, r, hr, hl⟩ := put18_tot st l[i] (by omega)
   rw [hr, Option.bind_some, i64_next (by omega)]
   cases (c != 0)
   ·exact hk r (by omega)
   ·exact ⟨_, rfl, trivial⟩) (fuel := 2000) [] (by omega) (by simp)
 exact ⟨r, hr⟩
theorem often_tot (l : List Int) (a : Int) (h : l.length ≤ 100) : ∃ r, gangwayref21_often.f 2000 l a = some r := by
 unfold gangwayref21_often.f
 obtain ⟨r, hr, _⟩ := loop_tot0 (P := fun _ => True) l.length (fun i (st : Nat) => st ≤ i) (fun n st i => gangwayref21_often.l2 l a n (st : Int) (i : Int)) (fun n st _ => by
   simp only [gangwayref21_often.l2]
   rw [lt_f (Nat.le_refl _), cond_false]
   exact ⟨_, rfl, trivial⟩) (fun n i st hi hst hk => by
   simp only [gangwayref21_often.l2, gangwayref21_often.k1]
   rw [lt_t hi, cond_true, getL_at hi, Option.bind_some, i64_next (i := i) (by omega), i64_next (i := st) (by omega)]
   cases (l[i] == a)
   ·rw [cond_false]; exact hk _ (by omega)
   ·rw [cond_true]; exact hk _ (by omega)) (fuel := 2000) 0 (by omega) (by simp)
 exact ⟨r, hr⟩
theorem check21_l8 (t : api_Seg) (a x9 : Int) (rec : Bool → Int → Option Int) (hrec : ∀ b, ∃ r, rec b (i64 (x9 + 1)) = some r) (h : t.Peers.length ≤ 20) (b : Bool) : ∃ r, gangwayref21_Check.l8 t 2000 a x9 rec 2000 b 0 = some r := by
 obtain ⟨r, hr, _⟩ := loop_tot0 (P := fun _ => True) t.Peers.length (fun i (st : Bool) => True) (fun n st i => gangwayref21_Check.l8 t 2000 a x9 rec n st (i : Int)) (fun n st _ => by
   simp only [gangwayref21_Check.l8]
   rw [lt_f (Nat.le_refl _), cond_false]
   obtain ⟨r, hr⟩ := hrec st
   exact ⟨r, hr, trivial⟩) (fun n i st hi _ hk => by
   have h5 : ∀ c d, ∃ r, gangwayref21_Check.k5 (i : Int) (gangwayref21_Check.l8 t 2000 a x9 rec n) c d = some r ∧ True := fun c d => by
    unfold gangwayref21_Check.k5
    rw [i64_next (by omega)]; exact hk _ trivial
   have h6 : ∀ c d, ∃ r, gangwayref21_Check.k6 t (i : Int) 2000 (gangwayref21_Check.l8 t 2000 a x9 rec n) c d = some r ∧ True := fun c d => by
    unfold gangwayref21_Check.k6
    cases d
    ·rw [cond_false]; exact h5 _ _
    ·obtain ⟨q, hq⟩ := often_tot t.Peers t.Peers[i] (by omega)
     rw [cond_true, getL_at hi, Option.bind_some, hq, Option.bind_some]; exact h5 _ _
   have h7 : ∀ c d, ∃ r, gangwayref21_Check.k7 t (i : Int) 2000 a (gangwayref21_Check.l8 t 2000 a x9 rec n) c d = some r ∧ True := fun c d => by
    unfold gangwayref21_Check.k7
    cases d
    ·rw [cond_false]; exact h6 _ _
    ·rw [cond_true, getL_at hi, Option.bind_some]; exact h6 _ _
   simp only [gangwayref21_Check.l8]
   rw [lt_t hi, cond_true]
   cases st
   ·rw [cond_false]; exact h7 _ _
   ·rw [cond_true, getL_at hi, Option.bind_some]; exact h7 _ _) (fuel := 2000) b (by omega) trivial
 exact ⟨r, hr⟩
theorem check21_l4 (i9 : Nat) (l : List api_Seg) (h9 : i9 < l.length) (hl : l.length ≤ 12) (t : api_Seg) (a : Int) (rec : Bool → Int → Option Int) (hrec : ∀ b, ∃ r, rec b (i64 ((i9 : Int) + 1)) = some r) (h : t.Peers.length ≤ 20) (b : Bool) : ∃ r, gangwayref21_Check.l4 (i9 : Int) l t 2000 a rec 2000 b 0 = some r := by
 obtain ⟨r, hr, _⟩ := loop_tot0 (P := fun _ => True) i9 (fun i (st : Bool) => True) (fun n st i => gangwayref21_Check.l4 (i9 : Int) l t 2000 a rec n st (i : Int)) (fun n st _ => by
   simp only [gangwayref21_Check.l4]
   rw [lt_f (Nat.le_refl _), cond_false]
   obtain ⟨r, hr⟩ := check21_l8 t a i9 rec hrec h st
   exact ⟨r, hr, trivial⟩) (fun n i st hi _ hk => by
   have h2 : ∀ c d, ∃ r, gangwayref21_Check.k2 (i : Int) (gangwayref21_Check.l4 (i9 : Int) l t 2000 a rec n) c d = some r ∧ True := fun c d => by
    unfold gangwayref21_Check.k2
    rw [i64_next (by omega)]; exact hk _ trivial
   have h3 : ∀ c d, ∃ r, gangwayref21_Check.k3 l (i : Int) t (gangwayref21_Check.l4 (i9 : Int) l t 2000 a rec n) c d = some r ∧ True := fun c d => by
    unfold gangwayref21_Check.k3
    cases d
    ·rw [cond_false]; exact h2 _ _
    ·rw [cond_true, getL_at (by omega), Option.bind_some]; exact h2 _ _
   simp only [gangwayref21_Check.l4]
   rw [lt_t hi, cond_true]
   cases st
   ·rw [cond_false]; exact h3 _ _
   ·rw [cond_true, getL_at (by omega), Option.bind_some]; exact h3 _ _) (fuel := 2000) b (by omega) trivial
 exact ⟨r, hr⟩
theorem check21_tot (a : Int) (l : List api_Seg) (hl : l.length ≤ 12) (hp : ∀ s ∈ l, s.Peers.length ≤ 20) : ∃ r, gangwayref21_Check.f 2000 a l = some r := by
 unfold gangwayref21_Check.f
 have h9 : ∀ b, ∃ r, gangwayref21_Check.l9 l 2000 a 2000 b 0 = some r := fun b => by
  obtain ⟨r, hr, _⟩ := loop_tot0 (P := fun _ => True) l.length (fun i (st : Bool) => True) (fun n st i => gangwayref21_Check.l9 l 2000 a n st (i : Int)) (fun n st _ => by
    simp only [gangwayref21_Check.l9]
    rw [lt_f (Nat.le_refl _), cond_false]
    cases st <;> exact ⟨_, rfl, trivial⟩) (fun n i st hi _ hk => by
    simp only [gangwayref21_Check.l9]
    rw [lt_t hi, cond_true, getL_at hi, Option.bind_some]
    obtain ⟨r, hr⟩ := check21_l4 i l hi hl l[i] a (gangwayref21_Check.l9 l 2000 a n) (fun b => by
     rw [i64_next (by omega)]
     obtain ⟨r, hr, _⟩ := hk b trivial
     exact ⟨r, hr⟩) (hp _ (List.getElem_mem hi)) ((((st && (decide (l[i].Vid > 0))) && (decide (l[i].Vid < 4095))) && (decide (l[i].Vni ≥ 0))) && (decide (l[i].Vni < 16777216)))
    exact ⟨r, hr, trivial⟩) (fuel := 2000) b (by omega) trivial
  exact ⟨r, hr⟩
 obtain ⟨r, hr, _⟩ := loop_tot0 (P := fun _ => True) l.length (fun i (st : Unit) => True) (fun n st i => gangwayref21_Check.l1 l 2000 a n 0 (i : Int)) (fun n st _ => by
   simp only [gangwayref21_Check.l1]
   rw [lt_f (Nat.le_refl _), cond_false, show decide ((l.length : Int) > 256) = false by simp; omega, cond_false]
   obtain ⟨r, hr⟩ := h9 (decide (a > 0))
   exact ⟨r, hr, trivial⟩) (fun n i st hi _ hk => by
   simp only [gangwayref21_Check.l1]
   rw [lt_t hi, cond_true, getL_at hi, Option.bind_some, i64_next (by omega)]
   cases decide ((l[i].Peers.length : Int) > 16)
   ·rw [cond_false]; exact hk () trivial
   ·exact ⟨_, rfl, trivial⟩) (fuel := 2000) () (by omega) trivial
 exact ⟨r, hr⟩
theorem new24_tot (g : api_Gate) (h : GateOk g) : ∃ r, gangwayref24_New.f 2000 g.Bridge g.Mac g.Ip g.Ports g.Edges g.Keep g.Near g.Heard g.Segs g.Routes g.Most g.Answers = some r := by
 unfold gangwayref24_New.f
 have hk2 : ∀ b, ∃ r, gangwayref24_New.k2 g.Near g.Mac g.Ip g.Bridge g.Most b = some r := fun b => by
  unfold gangwayref24_New.k2
  cases ((((((!b) || (g.Near.Mac != g.Mac)) || (g.Near.Ip != g.Ip)) || (g.Bridge == 0)) || (decide (g.Most < 68))) || (decide (g.Most > 65535))) <;> exact ⟨_, rfl⟩
 obtain ⟨r, hr, _⟩ := loop_tot0 (P := fun _ => True) g.Ports.length (fun i (st : List Int) => st.length = i) (fun n st i => gangwayref24_New.l1 g.Ports 2000 g.Keep g.Bridge g.Edges g.Heard g.Near g.Routes g.Ip g.Segs g.Mac g.Most n st (i : Int)) (fun n st hst => by
   simp only [gangwayref24_New.l1]
   have := h.ports
   obtain ⟨r1, e1⟩ := new17_tot g.Ports g.Keep h.ports h.vids
   obtain ⟨⟨r2, r2'⟩, e2⟩ := new15_tot g.Bridge st g.Edges (by omega)
   obtain ⟨r3, e3⟩ := new12_tot g.Keep.Room g.Heard
   obtain ⟨r4, e4⟩ := new19_tot g.Near
   obtain ⟨r5, e5⟩ := ways_tot g.Routes h.routes
   obtain ⟨r6, e6⟩ := check21_tot g.Ip g.Segs h.segs h.peers
   rw [lt_f (Nat.le_refl _), cond_false, e1, Option.bind_some, e2, Option.bind_some, e3, Option.bind_some, e4, Option.bind_some, e5, Option.bind_some, e6]
   simp only [Option.bind_some]
   cases (((((r1 == 0) && (r2' == 0)) && (r3 == 0)) && (r4 == 0)) && r5)
   ·rw [cond_false]; obtain ⟨r, hr⟩ := hk2 false; exact ⟨r, hr, trivial⟩
   ·rw [cond_true]; obtain ⟨r, hr⟩ := hk2 (r6 == 0); exact ⟨r, hr, trivial⟩) (fun n i st hi hst hk => by
   simp only [gangwayref24_New.l1]
   have := h.ports
   rw [lt_t hi, cond_true, room_ok (by simp; omega) (by simp; omega), Option.bind_some, i64_next (by omega)]
   exact hk _ (by simp [hst])) (fuel := 2000) [] (by have := h.ports; omega) rfl
 exact ⟨r, hr⟩
theorem check26_tot (l : List api_Gate) (h : GatesOk l) : ∃ r, gangwayref26_Check.f 2000 l = some r := by
 obtain ⟨hl, hg⟩ := h
 unfold gangwayref26_Check.f
 rw [show decide ((l.length : Int) > 16) = false by simp; omega, cond_false]
 have h4 : ∀ (i9 : Nat) (h9 : i9 < l.length) (rec : Int → Int → Option Int) (hrec : ∃ r, rec 0 (i64 ((i9 : Int) + 1)) = some r), ∃ r, gangwayref26_Check.l4 (i9 : Int) l rec 2000 0 0 = some r := fun i9 h9 rec hrec => by
  obtain ⟨r, hr, _⟩ := loop_tot0 (P := fun _ => True) i9 (fun i (st : Unit) => True) (fun n st i => gangwayref26_Check.l4 (i9 : Int) l rec n 0 (i : Int)) (fun n st _ => by
    simp only [gangwayref26_Check.l4]
    rw [lt_f (Nat.le_refl _), cond_false]
    obtain ⟨r, hr⟩ := hrec
    exact ⟨r, hr, trivial⟩) (fun n i st hi _ hk => by
    have h2 : ∀ c d, ∃ r, gangwayref26_Check.k2 0 (i : Int) (gangwayref26_Check.l4 (i9 : Int) l rec n) c d = some r ∧ True := fun c d => by
     unfold gangwayref26_Check.k2
     cases d
     ·rw [cond_false, i64_next (by omega)]; exact hk () trivial
     ·exact ⟨_, rfl, trivial⟩
    have h3 : ∀ c d, ∃ r, gangwayref26_Check.k3 0 (i : Int) l (i9 : Int) (gangwayref26_Check.l4 (i9 : Int) l rec n) c d = some r ∧ True := fun c d => by
     unfold gangwayref26_Check.k3
     cases d
     ·rw [cond_false, getL_at h9, Option.bind_some, getL_at (by omega), Option.bind_some]; exact h2 _ _
     ·rw [cond_true]; exact h2 _ _
    simp only [gangwayref26_Check.l4]
    rw [lt_t hi, cond_true, getL_at h9, Option.bind_some, getL_at (by omega), Option.bind_some]
    cases (l[i9].Ip == (l[i]'(by omega)).Ip)
    ·rw [cond_false, Option.bind_some, Option.bind_some]; exact h3 _ _
    ·rw [cond_true]; exact h3 _ _) (fuel := 2000) () (by omega) trivial
  exact ⟨r, hr⟩
 have h5 : ∃ r, gangwayref26_Check.l5 l 2000 2000 0 0 = some r := by
  obtain ⟨r, hr, _⟩ := loop_tot0 (P := fun _ => True) l.length (fun i (st : Unit) => True) (fun n st i => gangwayref26_Check.l5 l 2000 n 0 (i : Int)) (fun n st _ => by
    simp only [gangwayref26_Check.l5]
    rw [lt_f (Nat.le_refl _), cond_false]
    exact ⟨_, rfl, trivial⟩) (fun n i st hi _ hk => by
    simp only [gangwayref26_Check.l5]
    rw [lt_t hi, cond_true]
    obtain ⟨r, hr⟩ := h4 i hi (gangwayref26_Check.l5 l 2000 n) (by
     rw [i64_next (by omega)]
     obtain ⟨r, hr, _⟩ := hk () trivial
     exact ⟨r, hr⟩)
    exact ⟨r, hr, trivial⟩) (fuel := 2000) () (by omega) trivial
  exact ⟨r, hr⟩
 obtain ⟨r, hr, _⟩ := loop_tot0 (P := fun _ => True) l.length (fun i (st : Unit) => True) (fun n st i => gangwayref26_Check.l1 l 2000 n 0 (i : Int)) (fun n st _ => by
   simp only [gangwayref26_Check.l1]
   rw [lt_f (Nat.le_refl _), cond_false]
   obtain ⟨r, hr⟩ := h5
   exact ⟨r, hr, trivial⟩) (fun n i st hi _ hk => by
   simp only [gangwayref26_Check.l1]
   obtain ⟨r, hr⟩ := new24_tot l[i] (hg _ (List.getElem_mem hi))
   rw [lt_t hi, cond_true, getL_at hi, Option.bind_some, hr, Option.bind_some, i64_next (by omega)]
   cases (r != 0)
   ·rw [cond_false]; exact hk () trivial
   ·exact ⟨_, rfl, trivial⟩) (fuel := 2000) () (by omega) trivial
 exact ⟨r, hr⟩
theorem bound28_spec (a0 : List api_Gate) (h9 : IpsOk a0) (a1 : List api_Event) (ha : a1.length ≤ 30) : ∃ g m, gangwaylaw28_bound.f 2000 a0 a1 = some (g, m) ∧ (GatesOk g ∧ (g = [] ∨ gangwayref26_Check.f 2000 g = some 0)) ∧ m.length = a1.length ∧ ∀ e ∈ m, e.S.size ≤ 200 := by
 unfold gangwaylaw28_bound.f
 obtain ⟨g, hg, hg2⟩ := bound27_spec a0 h9
 obtain ⟨c, hc⟩ := check26_tot g hg2
 rw [hg, Option.bind_some, hc, Option.bind_some]
 have key : ∀ q, (GatesOk q ∧ (q = [] ∨ gangwayref26_Check.f 2000 q = some 0)) → ∃ g m, gangwaylaw28_bound.k2 a1 2000 q = some (g, m) ∧ (GatesOk g ∧ (g = [] ∨ gangwayref26_Check.f 2000 g = some 0)) ∧ m.length = a1.length ∧ ∀ e ∈ m, e.S.size ≤ 200 := fun q hq => by
  unfold gangwaylaw28_bound.k2
  obtain ⟨⟨g, m⟩, hr, h1⟩ := loop_tot0 (P := fun r : List api_Gate × List api_Event => (GatesOk r.1 ∧ (r.1 = [] ∨ gangwayref26_Check.f 2000 r.1 = some 0)) ∧ r.2.length = a1.length ∧ ∀ e ∈ r.2, e.S.size ≤ 200) 30 (fun i (st : List api_Event) => (st.length = i ∧ i ≤ a1.length) ∧ ∀ e ∈ st, e.S.size ≤ 200) (fun n st i => gangwaylaw28_bound.l1 a1 q n st (i : Int)) (fun n st hst => by
    simp only [gangwaylaw28_bound.l1]
    rw [show decide (((30 : Nat) : Int) < 30) = false by simp, Bool.and_false, cond_false]
    exact ⟨_, rfl, hq, by dsimp only; omega, hst.2⟩) (fun n i st hi hst hk => by
    simp only [gangwaylaw28_bound.l1]
    rw [show decide ((i : Int) < 30) = true by simp; omega, Bool.and_true]
    by_cases hlt : i < a1.length
    ·rw [lt_t hlt, cond_true, getL_at hlt, Option.bind_some]
     obtain ⟨t, ht, ht2⟩ := cut_spec a1[i].S 200
     rw [show ((200 : Int)) = ((200 : Nat) : Int) from rfl, ht, Option.bind_some, room_ok (by simp; omega) (by simp; omega), Option.bind_some, i64_next (by omega)]
     refine hk _ ⟨⟨by simp [hst.1.1], by omega⟩, fun e he => ?_⟩
     rw [List.mem_append, List.mem_singleton] at he
     rcases he with he | rfl
     ·exact hst.2 e he
     ·exact ht2
    ·rw [lt_f (by omega), cond_false]
     exact ⟨_, rfl, hq, by dsimp only; omega, hst.2⟩) (fuel := 2000) [] (by omega) ⟨⟨rfl, by omega⟩, by simp⟩
  exact ⟨g, m, hr, h1⟩
 by_cases h0 : c = 0
 ·subst h0; exact key g ⟨hg2, .inr hc⟩
 ·rw [show (c != 0) = true by simp [h0], cond_true]; exact key [] ⟨⟨by simp, by simp⟩, .inl rfl⟩
end Go.Proofs.YtbbekdmndifkpaaGreatDoor
/- What an event is: its VLAN and its bare frame; whether two are of one segment; the message that a frame is. The program and the document's answer agree. -/
namespace Go.Proofs.YtbbekdmndifkpaaGreatDoor
open Go Eng
theorem index_spec (l : List Int) (a : Int) (h : l.length ≤ 1000) : slices_Contains_int_int.f 2000 l a = some (decide (a ∈ l)) := by
 unfold slices_Contains_int_int.f slices_Index_int_int.f
 have key : ∀ (r pre : List Int) (fuel : Nat), l = pre ++ r → r.length < fuel → ∃ v, slices_Index_int_int.l1 l a fuel 0 (pre.length : Int) = some v ∧ decide (v ≥ 0) = decide (a ∈ r) := by
  intro r
  induction r with
  | nil =>
   intro pre fuel e hf
   obtain ⟨fuel, rfl⟩ : ∃ q, fuel = q + 1 := ⟨fuel - 1, by omega⟩
   subst e
   exact ⟨-1, by simp [slices_Index_int_int.l1], by simp⟩
  | cons x r ih =>
   intro pre fuel e hf
   obtain ⟨fuel, rfl⟩ : ∃ q, fuel = q + 1 := ⟨fuel - 1, by omega⟩
   have hlen : l.length = pre.length + (r.length + 1) := by rw [e]; simp
   simp only [slices_Index_int_int.l1]
   rw [lt_t (by omega), cond_true, getL_at (by omega), Option.bind_some]
   have hx : l[pre.length]'(by omega) = x := by simp [e]
   rw [hx]
   cases hv : (a == x)
   ·rw [cond_false, i64_next (by omega)]
    have := ih (pre ++ [x]) fuel (by rw [e]; simp) (by simp at hf; omega)
    rw [List.length_append, List.length_singleton] at this
    obtain ⟨v, h1, h2⟩ := this
    refine ⟨v, h1, h2.trans ?_⟩
    have : a ≠ x := fun e => by simp [e] at hv
    simp [this]
   ·rw [cond_true]
    have : a = x := by simpa using hv
    exact ⟨_, rfl, by simp [this]⟩
 obtain ⟨v, h1, h2⟩ := key l [] 2000 rfl (by omega)
 rw [show (([] : List Int).length : Int) = 0 from rfl] at h1
 rw [h1, Option.bind_some, h2]
def hasR (p : api_PortCfg) (v : Int) : Bool := if p.Trunk then decide (v ∈ p.Vids) else v == p.Pvid
def bareR (f : api_Frame) : api_Frame := ⟨f.Dst, f.Src, tag0, f.Type_, f.Body⟩
def inR (p : api_PortCfg) (f : api_Frame) : Int × api_Frame × Bool :=
 let v := if f.Tag.Has && (f.Tag.Vid != 0) then f.Tag.Vid else p.Pvid
 if hasR p v then (v, bareR f, true) else (0, frame0, false)
theorem has_spec (p : api_PortCfg) (v : Int) (h : p.Vids.length ≤ 1000) : vlan_Has.f 2000 p.Trunk p.Pvid p.Vids v = some (hasR p v) := by
 unfold vlan_Has.f hasR
 cases p.Trunk
 ·rfl
 ·simp only [Bool.not_true, cond_false]
  rw [index_spec _ _ h]
  rfl
theorem in_spec (p : api_PortCfg) (f : api_Frame) (h : p.Vids.length ≤ 1000) : vlan_In.f 2000 p.Trunk p.Pvid p.Vids f = some (inR p f) := by
 have k1 : ∀ v, vlan_In.k1 2000 p.Trunk p.Pvid p.Vids f v = some (if hasR p v then (v, bareR f, true) else (0, frame0, false)) := fun v => by
  unfold vlan_In.k1
  rw [has_spec p v h, Option.bind_some]
  cases hasR p v <;> rfl
 unfold vlan_In.f inR
 have e : ((!f.Tag.Has) || (f.Tag.Vid == 0)) = !(f.Tag.Has && (f.Tag.Vid != 0)) := by cases f.Tag.Has <;> simp [bne]
 rw [e]
 cases (f.Tag.Has && (f.Tag.Vid != 0))
 ·exact k1 _
 ·exact k1 _
def none3 : Int × api_Frame × Bool := (0, frame0, false)
def ofR (g : List api_Gate) (e : api_Event) : Int × api_Frame × Bool :=
 if (parseR e.S).2 ≠ 0 ∨ e.Gate < 1 ∨ e.Gate > g.length then none3 else match g[(e.Gate - 1).toNat]? with
  | none => none3
  | some q => if e.Port < 1 ∨ e.Port > q.Ports.length then none3 else match q.Ports[(e.Port - 1).toNat]? with
   | none => none3
   | some p => inR p (parseR e.S).1
def seenR (g : List api_Gate) (e : api_Event) : trace_seen := ⟨e, (ofR g e).1, (ofR g e).2.1, (ofR g e).2.2⟩
theorem of_spec (g : List api_Gate) (hg : GatesOk g) (e : api_Event) : trace_of.f 2000 g e = some (seenR g e) := by
 unfold trace_of.f seenR ofR
 rw [parse_spec, Option.bind_some]
 by_cases h : (parseR e.S).2 ≠ 0 ∨ e.Gate < 1 ∨ e.Gate > g.length
 ·rw [if_pos h]
  have : ((((parseR e.S).2 != 0) || (decide (e.Gate < 1))) || (decide (e.Gate > (g.length : Int)))) = true := by simpa [or_assoc] using h
  dsimp only
  rw [this]
  rfl
 ·rw [if_neg h]
  have : ((((parseR e.S).2 != 0) || (decide (e.Gate < 1))) || (decide (e.Gate > (g.length : Int)))) = false := by
   rw [Bool.eq_false_iff]; intro hh; exact h (by simpa [or_assoc] using hh)
  dsimp only
  rw [this, cond_false]
  have h3 := hg.1
  rw [i64_id (by omega)]
  obtain ⟨i, hi⟩ : ∃ i : Nat, e.Gate - 1 = i := ⟨(e.Gate - 1).toNat, by omega⟩
  have hlt : i < g.length := by omega
  rw [hi, getL_at hlt, Option.bind_some, Int.toNat_natCast, List.getElem?_eq_getElem hlt]
  dsimp only
  have hq := hg.2 _ (List.getElem_mem hlt)
  generalize g[i] = q at hq
  by_cases h2 : e.Port < 1 ∨ e.Port > q.Ports.length
  ·rw [if_pos h2]
   have : ((decide (e.Port < 1)) || (decide (e.Port > (q.Ports.length : Int)))) = true := by simpa using h2
   rw [this]
   rfl
  ·rw [if_neg h2]
   have : ((decide (e.Port < 1)) || (decide (e.Port > (q.Ports.length : Int)))) = false := by
    rw [Bool.eq_false_iff]; intro hh; exact h2 (by simpa using hh)
   rw [this, cond_false]
   have := hq.ports
   rw [i64_id (by omega)]
   obtain ⟨j, hj⟩ : ∃ j : Nat, e.Port - 1 = j := ⟨(e.Port - 1).toNat, by omega⟩
   have hlt2 : j < q.Ports.length := by omega
   rw [hj, getL_at hlt2, Option.bind_some, Int.toNat_natCast, List.getElem?_eq_getElem hlt2]
   dsimp only
   have := hq.vids _ (List.getElem_mem hlt2)
   rw [in_spec _ _ (by omega)]
   rfl
theorem seen_in (g : List api_Gate) (e : api_Event) (h : (seenR g e).is_ = true) : 1 ≤ e.Gate ∧ e.Gate ≤ g.length := by
 unfold seenR ofR at h
 by_cases hh : (parseR e.S).2 ≠ 0 ∨ e.Gate < 1 ∨ e.Gate > g.length
 ·rw [if_pos hh] at h; cases h
 ·omega
def segOf (l : List api_Seg) (v : Int) : api_Seg × Bool := match l.find? (fun s => s.Vid == v) with
 | some s => (s, true)
 | none => (⟨0, 0, []⟩, false)
theorem vni_spec (l : List api_Seg) (v : Int) (hl : l.length ≤ 1000) (hp : ∀ s ∈ l, s.Peers.length ≤ 1000) : vni_Of.f 2000 l v = some (segOf l v) := by
 unfold vni_Of.f vni_first.f api_Seg.f segOf
 have key : ∀ (r pre : List api_Seg) (fuel : Nat), l = pre ++ r → r.length < fuel →
   ∃ u, api_Seg.l1 l v fuel 0 (pre.length : Int) = some u ∧ ((u = -1 ∧ r.find? (fun s => s.Vid == v) = none) ∨ (∃ (i : Nat) (s : api_Seg), u = i ∧ l[i]? = some s ∧ r.find? (fun s => s.Vid == v) = some s)) := by
  intro r
  induction r with
  | nil =>
   intro pre fuel e hf
   obtain ⟨fuel, rfl⟩ : ∃ q, fuel = q + 1 := ⟨fuel - 1, by omega⟩
   subst e
   exact ⟨-1, by simp [api_Seg.l1], .inl ⟨rfl, rfl⟩⟩
  | cons x r ih =>
   intro pre fuel e hf
   obtain ⟨fuel, rfl⟩ : ∃ q, fuel = q + 1 := ⟨fuel - 1, by omega⟩
   have hlen : l.length = pre.length + (r.length + 1) := by rw [e]; simp
   have hget : l[pre.length]? = some x := by rw [e]; simp
   simp only [api_Seg.l1]
   rw [lt_t (by omega), cond_true, getL_at (by omega), Option.bind_some]
   have hx : l[pre.length]'(by omega) = x := by simp [e]
   rw [hx]
   simp only [vni_Of_1.f, Option.bind_some]
   cases hv : (x.Vid == v)
   ·rw [cond_false, i64_next (by omega)]
    have := ih (pre ++ [x]) fuel (by rw [e]; simp) (by simp at hf; omega)
    rw [List.length_append, List.length_singleton] at this
    obtain ⟨u, h1, h2⟩ := this
    refine ⟨u, h1, ?_⟩
    rw [List.find?_cons, hv]
    exact h2
   ·rw [cond_true]
    refine ⟨_, rfl, .inr ⟨pre.length, x, rfl, hget, ?_⟩⟩
    rw [List.find?_cons, hv]
 obtain ⟨u, h1, h2⟩ := key l [] 2000 rfl (by omega)
 rw [show (([] : List api_Seg).length : Int) = 0 from rfl] at h1
 rw [h1, Option.bind_some]
 rcases h2 with ⟨rfl, h3⟩ | ⟨i, s, rfl, h3, h4⟩
 ·rw [h3]; rfl
 ·rw [h4]
  have hm : s ∈ l := List.mem_of_getElem? h3
  obtain ⟨hi, rfl⟩ := List.getElem?_eq_some_iff.1 h3
  rw [show decide ((i : Int) < 0) = false by simp, cond_false, getL_at hi, Option.bind_some]
  unfold slices_Clone_uint32_uint32.f
  have := hp _ hm
  rw [room_ok (by omega) (by omega)]
  rfl
def segAt (g : List api_Gate) (n v : Int) : api_Seg × Bool := match g[(n - 1).toNat]? with
 | none => (⟨0, 0, []⟩, false)
 | some q => segOf q.Segs v
def sameR (g : List api_Gate) (a b : trace_seen) : Bool :=
 a.is_ && b.is_ && (((a.Event.Gate == b.Event.Gate) && (a.vid == b.vid)) || (((segAt g a.Event.Gate a.vid).2 && (segAt g b.Event.Gate b.vid).2) && ((segAt g a.Event.Gate a.vid).1.Vni == (segAt g b.Event.Gate b.vid).1.Vni)))
theorem segAt_spec (g : List api_Gate) (hg : GatesOk g) (n v : Int) (h : 1 ≤ n ∧ n ≤ g.length) : ∃ q, getL g.length g (i64 (n - 1)) = some q ∧ vni_Of.f 2000 q.Segs v = some (segAt g n v) := by
 have h3 := hg.1
 obtain ⟨i, hi⟩ : ∃ i : Nat, n - 1 = i := ⟨(n - 1).toNat, by omega⟩
 have hlt : i < g.length := by omega
 rw [i64_id (by omega)]
 unfold segAt
 rw [hi, getL_at hlt, Int.toNat_natCast, List.getElem?_eq_getElem hlt]
 have hq := hg.2 _ (List.getElem_mem hlt)
 refine ⟨_, rfl, vni_spec _ _ (by have := hq.segs; omega) (fun s hs => by have := hq.peers s hs; omega)⟩
theorem same_spec (g : List api_Gate) (hg : GatesOk g) (a b : api_Event) : trace_same.f 2000 g (seenR g a) (seenR g b) = some (sameR g (seenR g a) (seenR g b)) := by
 unfold trace_same.f sameR
 have ha := seen_in g a
 have hb := seen_in g b
 have ea : (seenR g a).Event = a := rfl
 have eb : (seenR g b).Event = b := rfl
 rw [ea, eb]
 cases h1 : (seenR g a).is_
 ·rfl
 ·cases h2 : (seenR g b).is_
  ·rfl
  ·simp only [Bool.not_true, Bool.or_false, cond_false, Bool.true_and]
   cases hc : ((a.Gate == b.Gate) && ((seenR g a).vid == (seenR g b).vid))
   ·rw [cond_false]
    obtain ⟨p, p1, p2⟩ := segAt_spec g hg a.Gate (seenR g a).vid (ha h1)
    obtain ⟨q, q1, q2⟩ := segAt_spec g hg b.Gate (seenR g b).vid (hb h2)
    rw [p1, Option.bind_some, p2, Option.bind_some, q1, Option.bind_some, q2]
    rfl
   ·rfl
theorem fixed28 : gangwaylaw28_fixed.f 2000 = some true := by kernel_rfl
end Go.Proofs.YtbbekdmndifkpaaGreatDoor
/- A gateway's copy; lists without a number twice; sets of numbers. -/
namespace Go.Proofs.YtbbekdmndifkpaaGreatDoor
open Go Eng
def MTrue (m : MapS Bool) (s : List Int) : Prop := m.es.map (fun e => (e.1, e.2.1)) = s.map fun k => (k, true)
theorem mtrue_get {k : Int} : ∀ {es : List (Int × Bool × Nat)} {s : List Int}, es.map (fun e => (e.1, e.2.1)) = s.map (fun k => (k, true)) → ((es.find? fun e => k == e.1).map (·.2.1)).getD false = decide (k ∈ s)
 | [], [], _ => by simp
 | [], x :: s, h => by simp at h
 | e :: es, [], h => by simp at h
 | e :: es, x :: s, h => by
  simp only [List.map_cons, List.cons.injEq, Prod.mk.injEq] at h
  obtain ⟨⟨h1, h2⟩, h3⟩ := h
  have ih := mtrue_get (k := k) h3
  rw [List.find?_cons]
  by_cases hk : k = x
  ·subst hk
   simp [h1, h2]
  ·have hb : (k == e.1) = false := by rw [h1]; simpa using hk
   rw [hb]
   simp only
   rw [ih]
   simp [hk]
theorem mtrue_set {k : Int} : ∀ {es : List (Int × Bool × Nat)} {s : List Int}, es.map (fun e => (e.1, e.2.1)) = s.map (fun k => (k, true)) → k ∉ s → setE k true es = none
 | [], _, _, _ => rfl
 | e :: es, [], h, _ => by simp at h
 | e :: es, x :: s, h, hk => by
  simp only [List.map_cons, List.cons.injEq, Prod.mk.injEq] at h
  obtain ⟨⟨h1, h2⟩, h3⟩ := h
  have hb : (k == e.1) = false := by rw [h1]; simp only [beq_eq_false_iff_ne]; intro he; exact hk (he ▸ List.mem_cons_self ..)
  unfold setE
  rw [hb, cond_false, mtrue_set h3 (fun h => hk (List.mem_cons_of_mem _ h))]
  rfl
theorem MTrue.get {m : MapS Bool} {s : List Int} (h : MTrue m s) (k : Int) : (m.get k).getD false = decide (k ∈ s) := mtrue_get h
theorem MTrue.set {m : MapS Bool} {s : List Int} (h : MTrue m s) {k : Int} (hk : k ∉ s) : MTrue (m.set k true) (s ++ [k]) := by
 unfold MapS.set
 rw [mtrue_set h hk]
 unfold MTrue
 simp only [List.map_append, List.map_cons, List.map_nil]
 rw [h]
theorem MTrue.len {m : MapS Bool} {s : List Int} (h : MTrue m s) : m.len = s.length := by
 have := congrArg List.length h
 simp only [List.length_map] at this
 unfold MapS.len
 rw [this]
theorem MTrue.nil : MTrue (MapS.nil : MapS Bool) [] := rfl
theorem twice_no (l : List Int) (hl : l.length ≤ 1000) (h : l.Nodup) : vni_twice_int.f 2000 l = some false := by
 unfold vni_twice_int.f
 have key : ∀ (r pre : List Int) (fuel : Nat) (m : MapS Bool), l = pre ++ r → r.length < fuel → MTrue m pre → vni_twice_int.l1 l fuel false (pre.length : Int) m = some false := by
  intro r
  induction r with
  | nil =>
   intro pre fuel m e hf hm
   obtain ⟨fuel, rfl⟩ : ∃ q, fuel = q + 1 := ⟨fuel - 1, by omega⟩
   subst e
   simp only [vni_twice_int.l1]
   rw [lt_f (by simp), cond_false]
  | cons x r ih =>
   intro pre fuel m e hf hm
   obtain ⟨fuel, rfl⟩ : ∃ q, fuel = q + 1 := ⟨fuel - 1, by omega⟩
   have hlen : l.length = pre.length + (r.length + 1) := by rw [e]; simp
   simp only [vni_twice_int.l1]
   have hx : l[pre.length]'(by omega) = x := by simp [e]
   have hn : x ∉ pre := fun hm => by
    rw [e, List.nodup_append] at h
    exact h.2.2 x hm x (List.mem_cons_self ..) rfl
   rw [lt_t (by omega), cond_true, getL_at (by omega), Option.bind_some, hx, hm.get, decide_eq_false hn, cond_false, i64_next (by omega)]
   have := ih (pre ++ [x]) fuel (m.set x true) (by rw [e]; simp) (by simp at hf; omega) (hm.set hn)
   rw [List.length_append, List.length_singleton] at this
   exact this
 exact key l [] 2000 MapS.nil rfl (by omega) MTrue.nil
theorem twice_no32 (l : List Int) (hl : l.length ≤ 1000) (h : l.Nodup) : vni_twice_uint32.f 2000 l = some false := by
 unfold vni_twice_uint32.f
 have key : ∀ (r pre : List Int) (fuel : Nat) (m : MapS Bool), l = pre ++ r → r.length < fuel → MTrue m pre → vni_twice_uint32.l1 l fuel false (pre.length : Int) m = some false := by
  intro r
  induction r with
  | nil =>
   intro pre fuel m e hf hm
   obtain ⟨fuel, rfl⟩ : ∃ q, fuel = q + 1 := ⟨fuel - 1, by omega⟩
   subst e
   simp only [vni_twice_uint32.l1]
   rw [lt_f (by simp), cond_false]
  | cons x r ih =>
   intro pre fuel m e hf hm
   obtain ⟨fuel, rfl⟩ : ∃ q, fuel = q + 1 := ⟨fuel - 1, by omega⟩
   have hlen : l.length = pre.length + (r.length + 1) := by rw [e]; simp
   simp only [vni_twice_uint32.l1]
   have hx : l[pre.length]'(by omega) = x := by simp [e]
   have hn : x ∉ pre := fun hm => by
    rw [e, List.nodup_append] at h
    exact h.2.2 x hm x (List.mem_cons_self ..) rfl
   rw [lt_t (by omega), cond_true, getL_at (by omega), Option.bind_some, hx, hm.get, decide_eq_false hn, cond_false, i64_next (by omega)]
   have := ih (pre ++ [x]) fuel (m.set x true) (by rw [e]; simp) (by simp at hf; omega) (hm.set hn)
   rw [List.length_append, List.length_singleton] at this
   exact this
 exact key l [] 2000 MapS.nil rfl (by omega) MTrue.nil
theorem copied_spec (g : api_Gate) (hg : GateOk g) : vtep_copied.f 2000 g.Bridge g.Mac g.Ip g.Ports g.Edges g.Keep g.Near g.Heard g.Segs g.Routes g.Most g.Answers = some g := by
 have h1 := hg.ports; have h2 := hg.edges; have h3 := hg.segs; have h4 := hg.routes
 unfold vtep_copied.f api_PortCfg_1.f slices_Clone_bool_bool.f
 rw [room_ok (by omega) (by omega), Option.bind_some, Option.bind_some, room_ok (by omega) (by omega), Option.bind_some, Option.bind_some]
 have l2 : ∃ r, vtep_copied.l2 g.Segs g.Bridge g.Mac g.Ip g.Ports g.Edges g.Keep g.Near g.Heard g.Routes g.Most g.Answers 2000 0 g.Segs = some r ∧ r = g := by
  refine loop_tot0 (P := fun r => r = g) g.Segs.length (fun i (st : List api_Seg) => st = g.Segs) (fun n st i => vtep_copied.l2 g.Segs g.Bridge g.Mac g.Ip g.Ports g.Edges g.Keep g.Near g.Heard g.Routes g.Most g.Answers n (i : Int) st) ?_ ?_ (fuel := 2000) g.Segs (by omega) rfl
  ·rintro n st rfl
   simp only [vtep_copied.l2]
   rw [lt_f (Nat.le_refl _), cond_false]
   exact ⟨_, rfl, rfl⟩
  ·rintro n i st hi rfl hk
   have := hg.peers _ (List.getElem_mem hi)
   simp only [vtep_copied.l2]
   rw [lt_t hi, cond_true, getL_at hi, Option.bind_some]
   unfold slices_Clone_uint32_uint32.f
   rw [room_ok (by omega) (by omega), Option.bind_some, Option.bind_some, Option.bind_some, i64_next (by omega)]
   exact hk _ (by rw [Int.toNat_natCast]; exact List.set_getElem_self hi)
 have l1 : ∃ r, vtep_copied.l1 g.Ports g.Routes g.Segs 2000 g.Bridge g.Mac g.Ip g.Edges g.Keep g.Near g.Heard g.Most g.Answers 2000 0 g.Ports = some r ∧ r = g := by
  refine loop_tot0 (P := fun r => r = g) g.Ports.length (fun i (st : List api_PortCfg) => st = g.Ports) (fun n st i => vtep_copied.l1 g.Ports g.Routes g.Segs 2000 g.Bridge g.Mac g.Ip g.Edges g.Keep g.Near g.Heard g.Most g.Answers n (i : Int) st) ?_ ?_ (fuel := 2000) g.Ports (by omega) rfl
  ·rintro n st rfl
   simp only [vtep_copied.l1]
   rw [lt_f (Nat.le_refl _), cond_false]
   unfold api_Route.f api_Seg_1.f
   rw [room_ok (by omega) (by omega), Option.bind_some, Option.bind_some, room_ok (by omega) (by omega), Option.bind_some, Option.bind_some]
   exact l2
  ·rintro n i st hi rfl hk
   have := hg.vids _ (List.getElem_mem hi)
   simp only [vtep_copied.l1]
   rw [lt_t hi, cond_true, getL_at hi, Option.bind_some]
   unfold slices_Clone_int_int.f
   rw [room_ok (by omega) (by omega), Option.bind_some, Option.bind_some, Option.bind_some, i64_next (by omega)]
   exact hk _ (by rw [Int.toNat_natCast]; exact List.set_getElem_self hi)
 obtain ⟨r, hr, rfl⟩ := l1
 exact hr
theorem repeat_spec : ∀ n : Nat, n ≤ 5 → slices_Repeat_int_int.f 2000 ([1] : List Int) (n : Int) = some (List.replicate n 1)
 | 0, _ => by kernel_rfl
 | 1, _ => by kernel_rfl
 | 2, _ => by kernel_rfl
 | 3, _ => by kernel_rfl
 | 4, _ => by kernel_rfl
 | 5, _ => by kernel_rfl
 | n + 6, h => by omega
end Go.Proofs.YtbbekdmndifkpaaGreatDoor
/- Ports, spans, tables: what the document's answer lets pass, the program does. -/
namespace Go.Proofs.YtbbekdmndifkpaaGreatDoor
open Go Eng
theorem and_pow (x n : Nat) : x &&& 2 ^ n = (x / 2 ^ n % 2) * 2 ^ n := by
 refine Nat.eq_of_testBit_eq fun i => ?_
 rw [Nat.testBit_and, Nat.testBit_two_pow, Nat.testBit_mul_two_pow]
 by_cases h : n = i
 ·subst h
  rw [Nat.testBit_eq_decide_div_mod_eq, Nat.testBit_eq_decide_div_mod_eq]
  simp
 ·by_cases h2 : n ≤ i
  ·have : (x / 2 ^ n % 2).testBit (i - n) = false := Nat.testBit_lt_two_pow (Nat.lt_of_lt_of_le (Nat.mod_lt _ (by decide)) (by
    have : 2 ^ 1 ≤ 2 ^ (i - n) := Nat.pow_le_pow_right (by decide) (by omega)
    omega))
   simp [h, this]
  ·simp [h, h2]
theorem bAnd_u64' {x y : Nat} (hx : x < 2 ^ 64) (hy : y < 2 ^ 64) : bAnd .u64 x y = ((x &&& y : Nat) : Int) := by
 have h : x &&& y < 2 ^ 64 := Nat.and_lt_two_pow x hy
 show IntKind.u64.wrap ((BitVec.ofInt 64 x &&& BitVec.ofInt 64 y).toNat : Int) = _
 rw [BitVec.toNat_and, BitVec.ofInt_natCast, BitVec.ofInt_natCast, BitVec.toNat_ofNat, BitVec.toNat_ofNat]
 rw [Nat.mod_eq_of_lt (by omega), Nat.mod_eq_of_lt (by omega)]
 exact u64_id (by omega)
def ownR (v : Nat) : Bool := (decide (0 < v) && decide (v < 281474976710656)) && (v / 1099511627776 % 2 == 0)
theorem own_spec (v : Nat) (h : v < 2 ^ 64) : addrs_Own.f (v : Int) = some (ownR v) := by
 unfold addrs_Own.f addrs_Own.k1 addrs_Group.f ownR
 have e0 : ((v : Int) != 0) = decide (0 < v) := by
  by_cases h : v = 0
  ·subst h; rfl
  ·rw [decide_eq_true (by omega)]; simp; omega
 have e1 : decide ((v : Int) < 281474976710656) = decide (v < 281474976710656) := lt_lit 281474976710656 v
 have e2 : bAnd .u64 (v : Int) 1099511627776 = (((v / 1099511627776 % 2) * 1099511627776 : Nat) : Int) := by
  have := bAnd_u64' (x := v) (y := 2 ^ 40) h (by decide)
  rw [and_pow] at this
  exact this
 rw [e0, e1, e2]
 cases (decide (0 < v) && decide (v < 281474976710656))
 ·rfl
 ·rw [cond_true, Option.bind_some]
  simp only [Bool.true_and]
  rcases Nat.mod_two_eq_zero_or_one (v / 1099511627776) with h | h <;> rw [h] <;> rfl
theorem rown_spec (v : Nat) (h : v < 2 ^ 64) : gangwayref02_Own.f (v : Int) = some (ownR v) := by
 unfold gangwayref02_Own.f gangwayref02_Own.k1 gangwayref02_Group.f ownR
 have e0 : decide ((v : Int) > 0) = decide (0 < v) := by
  by_cases h : 0 < v
  ·rw [decide_eq_true h]; simp; omega
  ·rw [decide_eq_false h]; simp; omega
 have e1 : decide ((v : Int) < 281474976710656) = decide (v < 281474976710656) := lt_lit 281474976710656 v
 have e2 : Int.tmod (u64 (Int.tdiv (v : Int) 1099511627776)) 2 = ((v / 1099511627776 % 2 : Nat) : Int) := by
  rw [show Int.tdiv (v : Int) 1099511627776 = ((v / 1099511627776 : Nat) : Int) from rfl, u64_id (by omega)]
  rfl
 rw [e0, e1, e2]
 cases (decide (0 < v) && decide (v < 281474976710656))
 ·rfl
 ·rw [cond_true, Option.bind_some]
  simp only [Bool.true_and]
  rcases Nat.mod_two_eq_zero_or_one (v / 1099511627776) with h | h <;> rw [h] <;> rfl
theorem right_imp (a : Bool) (b : Int) (l : List Int) (hl : l.length ≤ 100) (h : gangwayref16_Right.f 2000 a b l = some true) : vlan_Right.f 2000 a b l = some true := by
 unfold gangwayref16_Right.f at h
 unfold vlan_Right.f
 cases a
 ·simp only [Bool.not_false, cond_true, vlan_vlan.f, Option.bind_some] at h ⊢
  exact h
 ·simp only [Bool.not_true, cond_false] at h ⊢
  have key : ∀ (r pre : List Int) (f1 f2 : Nat) (prev : Int), l = pre ++ r → r.length < f1 → r.length < f2 → ((pre = [] ∧ prev = 0) ∨ ∃ p0, pre = p0 ++ [prev]) → 0 ≤ prev → gangwayref16_Right.l2 l b 2000 f1 false prev (pre.length : Int) = some true → vlan_Right.l3 l b 2000 f2 false (pre.length : Int) = some true := by
   intro r
   induction r with
   | nil =>
    intro pre f1 f2 prev e hf1 hf2 hp h0 hr
    obtain ⟨f1, rfl⟩ : ∃ q, f1 = q + 1 := ⟨f1 - 1, by omega⟩
    obtain ⟨f2, rfl⟩ : ∃ q, f2 = q + 1 := ⟨f2 - 1, by omega⟩
    have hlen : l.length = pre.length := by rw [e]; simp
    simp only [gangwayref16_Right.l2, vlan_Right.l3] at hr ⊢
    rw [lt_f (by omega), cond_false] at hr ⊢
    cases hb : (b == 0)
    ·rw [hb, cond_false, among_tot l b (by omega), Option.bind_some] at hr
     rw [cond_false, index_spec l b (by omega), Option.bind_some]
     exact hr
    ·rw [cond_true]; rfl
   | cons x r ih =>
    intro pre f1 f2 prev e hf1 hf2 hp h0 hr
    obtain ⟨f1, rfl⟩ : ∃ q, f1 = q + 1 := ⟨f1 - 1, by omega⟩
    obtain ⟨f2, rfl⟩ : ∃ q, f2 = q + 1 := ⟨f2 - 1, by omega⟩
    have hlen : l.length = pre.length + (r.length + 1) := by rw [e]; simp
    have hx : l[pre.length]'(by omega) = x := by simp [e]
    simp only [gangwayref16_Right.l2, vlan_Right.l3] at hr ⊢
    rw [lt_t (by omega), cond_true, getL_at (by omega), Option.bind_some, hx] at hr ⊢
    by_cases h1 : x ≤ prev
    ·rw [decide_eq_true h1, cond_true] at hr
     cases hr
    ·rw [decide_eq_false h1, cond_false, Option.bind_some] at hr
     by_cases h2 : x > 4094
     ·rw [decide_eq_true h2] at hr
      cases hr
     ·rw [decide_eq_false h2] at hr
      unfold gangwayref16_Right.k1 at hr
      rw [cond_false, getL_at (by omega), Option.bind_some, hx, i64_next (by omega)] at hr
      have hv : ((decide (x ≥ 1)) && (decide (x ≤ 4094))) = true := by
       rw [decide_eq_true (by omega), decide_eq_true (by omega)]; rfl
      have hn := ih (pre ++ [x]) f1 f2 x (by rw [e]; simp) (by simp at hf1; omega) (by simp at hf2; omega) (.inr ⟨pre, rfl⟩) (by omega) (by rw [List.length_append, List.length_singleton]; exact hr)
      rw [List.length_append, List.length_singleton] at hn
      unfold vlan_vlan.f
      rw [Option.bind_some, hv, Bool.not_true, cond_false]
      rcases hp with ⟨rfl, rfl⟩ | ⟨p0, rfl⟩
      ·rw [show decide ((([] : List Int).length : Int) > 0) = false by decide, cond_false]
       unfold vlan_Right.k1 vlan_Right.k2
       rw [cond_false, i64_next (by simp)]
       exact hn
      ·have hpl : (p0 ++ [prev]).length = p0.length + 1 := by simp
       have hg : getL l.length l (i64 (((p0 ++ [prev]).length : Int) - 1)) = some prev := by
        rw [i64_id (by omega), show ((p0 ++ [prev]).length : Int) - 1 = (p0.length : Int) by omega, getL_at (by omega)]
        simp [e]
       rw [show decide (((p0 ++ [prev]).length : Int) > 0) = true by rw [hpl]; simp, cond_true, hg, Option.bind_some, decide_eq_false h1]
       unfold vlan_Right.k1 vlan_Right.k2
       rw [cond_false, i64_next (by omega)]
       exact hn
  exact key l [] 2000 2000 0 rfl (by omega) (by omega) (.inl ⟨rfl, rfl⟩) (by omega) h
theorem new17_ok (l : List api_PortCfg) (a : api_Keep) (hl : l.length ≤ 5) (h : gangwayref17_New.f 2000 l a = some 0) : (∀ (i : Nat) (hi : i < l.length), gangwayref16_Right.f 2000 l[i].Trunk l[i].Pvid l[i].Vids = some true) ∧ gangwayref11_New.f a = some 0 := by
 unfold gangwayref17_New.f at h
 rw [show decide ((l.length : Int) > 64) = false by simp; omega, cond_false] at h
 have key : ∀ (fuel i : Nat), i ≤ l.length → gangwayref17_New.l1 l 2000 a fuel 0 (i : Int) = some 0 → (∀ (k : Nat) (hk : k < l.length), i ≤ k → gangwayref16_Right.f 2000 l[k].Trunk l[k].Pvid l[k].Vids = some true) ∧ gangwayref11_New.f a = some 0 := by
  intro fuel
  induction fuel with
  | zero => intro i _ h; cases h
  | succ fuel ih =>
   intro i hi h
   simp only [gangwayref17_New.l1] at h
   by_cases hlt : i < l.length
   ·rw [lt_t hlt, cond_true, getL_at hlt, Option.bind_some] at h
    obtain ⟨r, hr, h⟩ := bind_some h
    cases r
    ·rw [Bool.not_false, cond_true] at h; cases h
    ·rw [Bool.not_true, cond_false, i64_next (by omega)] at h
     obtain ⟨h1, h2⟩ := ih (i + 1) (by omega) h
     refine ⟨fun k hk hik => ?_, h2⟩
     by_cases e : k = i
     ·subst e; exact hr
     ·exact h1 k hk (by omega)
   ·rw [lt_f (by omega), cond_false] at h
    obtain ⟨r, hr, h⟩ := bind_some h
    refine ⟨fun k hk hik => by omega, ?_⟩
    by_cases e : r = 0
    ·subst e; exact hr
    ·rw [show (r != 0) = true by simp [e], cond_true] at h
     rw [hr, h]
 obtain ⟨h1, h2⟩ := key 2000 0 (by omega) h
 exact ⟨fun i hi => h1 i hi (by omega), h2⟩
theorem ports_none (l : List api_PortCfg) (hl : l.length ≤ 100) (h : ∀ (i : Nat) (hi : i < l.length), vlan_Right.f 2000 l[i].Trunk l[i].Pvid l[i].Vids = some true) : api_PortCfg_2.f 2000 l = some false := by
 unfold api_PortCfg_2.f api_PortCfg_3.f
 have key : ∀ (j i fuel : Nat), i + j = l.length → j < fuel → api_PortCfg_3.l1 l 2000 fuel 0 (i : Int) = some (-1) := by
  intro j
  induction j with
  | zero =>
   intro i fuel e hf
   obtain ⟨fuel, rfl⟩ : ∃ q, fuel = q + 1 := ⟨fuel - 1, by omega⟩
   simp only [api_PortCfg_3.l1]
   rw [lt_f (by omega), cond_false]
  | succ j ih =>
   intro i fuel e hf
   obtain ⟨fuel, rfl⟩ : ∃ q, fuel = q + 1 := ⟨fuel - 1, by omega⟩
   simp only [api_PortCfg_3.l1, bridge_New_1.f]
   rw [lt_t (by omega), cond_true, getL_at (by omega), Option.bind_some, h i (by omega), Option.bind_some, Option.bind_some, Bool.not_true, cond_false, i64_next (by omega)]
   exact ih (i + 1) fuel (by omega) (by omega)
 rw [show api_PortCfg_3.l1 l 2000 2000 0 0 = some (-1) from key l.length 0 2000 (by omega) (by omega), Option.bind_some]
 rfl
theorem bridge_ok (l : List api_PortCfg) (a : api_Keep) (hl : l.length ≤ 5) (hv : ∀ p ∈ l, p.Vids.length ≤ 12) (h : gangwayref17_New.f 2000 l a = some 0) : bridge_New.f 2000 l a = some 0 := by
 obtain ⟨h1, h2⟩ := new17_ok l a hl h
 unfold bridge_New.f
 rw [show decide ((l.length : Int) > 64) = false by simp; omega, cond_false, ports_none l (by omega) (fun i hi => right_imp _ _ _ (by have := hv _ (List.getElem_mem hi); omega) (h1 i hi)), Option.bind_some]
 unfold bridge_New.k1
 rw [cond_false, show fdb_New.f a = some 0 from h2, Option.bind_some, show ((0 : Int) != 0) = false by rfl, cond_false]
 obtain ⟨r, hr, rfl⟩ := loop_tot0 (P := fun r : Int => r = 0) l.length (fun i (st : List api_PortCfg) => st.length = i) (fun n st i => bridge_New.l2 l n (i : Int) st) (fun n st hst => by
   simp only [bridge_New.l2]
   rw [lt_f (Nat.le_refl _), cond_false]
   exact ⟨_, rfl, rfl⟩) (fun n i st hi hst hk => by
   have := hv _ (List.getElem_mem hi)
   simp only [bridge_New.l2]
   unfold slices_Clone_int_int.f
   rw [lt_t hi, cond_true, getL_at hi, Option.bind_some, room_ok (by omega) (by omega), Option.bind_some, Option.bind_some, room_ok (by simp; omega) (by simp; omega), Option.bind_some, i64_next (by omega)]
   exact hk _ (by simp [hst])) (fuel := 2000) [] (by omega) rfl
 exact hr
theorem new15_ok (b : Int) (n : Nat) (e : List Bool) (r : api_Span) (hn : n ≤ 5) (h : gangwayref15_New.f 2000 b (List.replicate n 1) e = some (r, 0)) : e.length = n := by
 unfold gangwayref15_New.f at h
 apply Classical.byContradiction
 intro hne
 rw [List.length_replicate, show (((n : Nat) : Int) != (e.length : Int)) = true by simp; omega, Bool.or_true, cond_true] at h
 cases h
theorem span_ok (b : Int) (n : Nat) (e : List Bool) (hn : n ≤ 5) (he : e.length = n) : ∃ s, span_New.f 2000 b (List.replicate n 1) e = some (s, 0) := by
 unfold span_New.f
 rw [List.length_replicate, show decide (((n : Nat) : Int) > 64) = false by simp; omega, he, show (((n : Nat) : Int) != (n : Int)) = false by simp, Bool.or_false, cond_false]
 have hl : (List.replicate n (1 : Int)).length = n := List.length_replicate
 have hc : slices_ContainsFunc_int_int.f 2000 (List.replicate n 1) = some false := by
  unfold slices_ContainsFunc_int_int.f slices_IndexFunc_int_int.f
  have key : ∀ (j i fuel : Nat), i + j = n → j < fuel → slices_IndexFunc_int_int.l1 (List.replicate n 1) fuel 0 (i : Int) = some (-1) := by
   intro j
   induction j with
   | zero =>
    intro i fuel e hf
    obtain ⟨fuel, rfl⟩ : ∃ q, fuel = q + 1 := ⟨fuel - 1, by omega⟩
    simp only [slices_IndexFunc_int_int.l1]
    rw [lt_f (by omega), cond_false]
   | succ j ih =>
    intro i fuel e hf
    obtain ⟨fuel, rfl⟩ : ∃ q, fuel = q + 1 := ⟨fuel - 1, by omega⟩
    simp only [slices_IndexFunc_int_int.l1]
    rw [lt_t (by omega), cond_true, getL_at (by omega), Option.bind_some, List.getElem_replicate, show span_New_1.f 1 = some false from rfl, Option.bind_some, cond_false, i64_next (by omega)]
    exact ih (i + 1) fuel (by omega) (by omega)
  rw [show slices_IndexFunc_int_int.l1 (List.replicate n 1) 2000 0 0 = some (-1) from key n 0 2000 (by omega) (by omega), Option.bind_some]
  rfl
 rw [hc, Option.bind_some]
 unfold span_New.k1
 rw [cond_false]
 obtain ⟨r, hr, h0⟩ := loop_tot0 (P := fun r : api_Span × Int => r.2 = 0) n (fun i (st : List api_SpanPort) => st.length = i) (fun q st i => span_New.l2 (List.replicate n 1) e b q (i : Int) st) (fun q st hst => by
   simp only [span_New.l2]
   rw [lt_f (by omega), cond_false]
   exact ⟨_, rfl, rfl⟩) (fun q i st hi hst hk => by
   simp only [span_New.l2]
   rw [lt_t (by omega), cond_true, getL_at (by omega), Option.bind_some, getL_at (by omega), Option.bind_some, room_ok (by simp; omega) (by simp; omega), Option.bind_some, i64_next (by omega)]
   exact hk _ (by simp [hst])) (fuel := 2000) [] (by omega) rfl
 obtain ⟨s, c⟩ := r
 obtain rfl : c = 0 := h0
 exact ⟨s, hr⟩
theorem binding_ok (a b : Int) (h : gangwayref12_New.f a b = some 0) : binding_New.f a b = some 0 := by
 unfold binding_New.f
 rw [show ages_New.f a b = some 0 from h, Option.bind_some]
 rfl
theorem own_imp (m : Int) (h : gangwayref02_Own.f m = some true) : addrs_Own.f m = some true := by
 have hb : 0 < m ∧ m < 281474976710656 := by
  unfold gangwayref02_Own.f at h
  by_cases h1 : 0 < m ∧ m < 281474976710656
  ·exact h1
  ·exfalso
   have : ((decide (m > 0)) && (decide (m < 281474976710656))) = false := by
    rw [Bool.eq_false_iff]
    intro hh
    rw [Bool.and_eq_true, decide_eq_true_eq, decide_eq_true_eq] at hh
    exact h1 hh
   rw [this, cond_false] at h
   cases h
 obtain ⟨v, rfl⟩ : ∃ v : Nat, m = v := ⟨m.toNat, by omega⟩
 rw [rown_spec v (by omega)] at h
 rw [own_spec v (by omega)]
 exact h
theorem neigh_ok (a : api_Near) (h : gangwayref19_New.f a = some 0) : neigh_New.f a = some 0 := by
 unfold gangwayref19_New.f at h
 unfold neigh_New.f
 obtain ⟨r, hr, h⟩ := bind_some h
 rw [show ages_New.f a.Room a.Life = some r from hr, Option.bind_some]
 cases h0 : (r != 0)
 ·rw [h0, cond_false] at h
  rw [cond_false]
  obtain ⟨q, hq, h⟩ := bind_some h
  cases q
  ·exfalso
   unfold gangwayref19_New.k4 gangwayref19_New.k3 gangwayref19_New.k2 gangwayref19_New.k1 at h
   simp at h
  ·rw [own_imp _ hq, Option.bind_some]
   exact h
 ·rw [h0, cond_true] at h
  rw [cond_true]
  exact h
end Go.Proofs.YtbbekdmndifkpaaGreatDoor
/- Routes: what the document's answer lets pass, the program does. -/
namespace Go.Proofs.YtbbekdmndifkpaaGreatDoor
open Go Eng
theorem rest_spec (ip : Int) : ∀ b : Nat, b ≤ 32 → addrs_rest.f 2000 ⟨ip, (b : Int)⟩ = some ((2 ^ (32 - b) - 1 : Nat) : Int)
 | 0, _ => by kernel_rfl
 | 1, _ => by kernel_rfl
 | 2, _ => by kernel_rfl
 | 3, _ => by kernel_rfl
 | 4, _ => by kernel_rfl
 | 5, _ => by kernel_rfl
 | 6, _ => by kernel_rfl
 | 7, _ => by kernel_rfl
 | 8, _ => by kernel_rfl
 | 9, _ => by kernel_rfl
 | 10, _ => by kernel_rfl
 | 11, _ => by kernel_rfl
 | 12, _ => by kernel_rfl
 | 13, _ => by kernel_rfl
 | 14, _ => by kernel_rfl
 | 15, _ => by kernel_rfl
 | 16, _ => by kernel_rfl
 | 17, _ => by kernel_rfl
 | 18, _ => by kernel_rfl
 | 19, _ => by kernel_rfl
 | 20, _ => by kernel_rfl
 | 21, _ => by kernel_rfl
 | 22, _ => by kernel_rfl
 | 23, _ => by kernel_rfl
 | 24, _ => by kernel_rfl
 | 25, _ => by kernel_rfl
 | 26, _ => by kernel_rfl
 | 27, _ => by kernel_rfl
 | 28, _ => by kernel_rfl
 | 29, _ => by kernel_rfl
 | 30, _ => by kernel_rfl
 | 31, _ => by kernel_rfl
 | 32, _ => by kernel_rfl
 | n + 33, h => by omega
theorem nsize_spec (ip : Int) : ∀ b : Nat, b ≤ 32 → gangwayref02_size.f 2000 ⟨ip, (b : Int)⟩ = some ((2 ^ (32 - b) : Nat) : Int)
 | 0, _ => by kernel_rfl
 | 1, _ => by kernel_rfl
 | 2, _ => by kernel_rfl
 | 3, _ => by kernel_rfl
 | 4, _ => by kernel_rfl
 | 5, _ => by kernel_rfl
 | 6, _ => by kernel_rfl
 | 7, _ => by kernel_rfl
 | 8, _ => by kernel_rfl
 | 9, _ => by kernel_rfl
 | 10, _ => by kernel_rfl
 | 11, _ => by kernel_rfl
 | 12, _ => by kernel_rfl
 | 13, _ => by kernel_rfl
 | 14, _ => by kernel_rfl
 | 15, _ => by kernel_rfl
 | 16, _ => by kernel_rfl
 | 17, _ => by kernel_rfl
 | 18, _ => by kernel_rfl
 | 19, _ => by kernel_rfl
 | 20, _ => by kernel_rfl
 | 21, _ => by kernel_rfl
 | 22, _ => by kernel_rfl
 | 23, _ => by kernel_rfl
 | 24, _ => by kernel_rfl
 | 25, _ => by kernel_rfl
 | 26, _ => by kernel_rfl
 | 27, _ => by kernel_rfl
 | 28, _ => by kernel_rfl
 | 29, _ => by kernel_rfl
 | 30, _ => by kernel_rfl
 | 31, _ => by kernel_rfl
 | 32, _ => by kernel_rfl
 | n + 33, h => by omega
theorem bAnd_u32 {x y : Nat} (hx : x < 2 ^ 32) (hy : y < 2 ^ 32) : bAnd .u32 x y = ((x &&& y : Nat) : Int) := by
 have h : x &&& y < 2 ^ 32 := Nat.and_lt_two_pow x hy
 show IntKind.u32.wrap ((BitVec.ofInt 32 x &&& BitVec.ofInt 32 y).toNat : Int) = _
 rw [BitVec.toNat_and, BitVec.ofInt_natCast, BitVec.ofInt_natCast, BitVec.toNat_ofNat, BitVec.toNat_ofNat]
 rw [Nat.mod_eq_of_lt (by omega), Nat.mod_eq_of_lt (by omega)]
 simp [IntKind.wrap, IntKind.bits, IntKind.signed]; omega
theorem net_imp (n : api_Net) (hi : 0 ≤ n.Ip ∧ n.Ip ≤ 4294967295) (h : gangwayref02_Net.f 2000 n = some true) : (0 ≤ n.Bits ∧ n.Bits ≤ 32) ∧ addrs_Net.f 2000 n = some true := by
 obtain ⟨ip, bits⟩ := n
 dsimp only at hi
 unfold gangwayref02_Net.f at h
 dsimp only at h
 have hb : 0 ≤ bits ∧ bits ≤ 32 := by
  apply Classical.byContradiction
  intro hh
  have : ((decide (bits ≥ 0)) && (decide (bits ≤ 32))) = false := by
   rw [Bool.eq_false_iff]; intro h2
   rw [Bool.and_eq_true, decide_eq_true_eq, decide_eq_true_eq] at h2
   exact hh h2
  rw [this, cond_false] at h
  cases h
 refine ⟨hb, ?_⟩
 have hc : ((decide (bits ≥ 0)) && (decide (bits ≤ 32))) = true := by
  rw [decide_eq_true hb.1, decide_eq_true hb.2]; rfl
 obtain ⟨b, rfl⟩ : ∃ b : Nat, bits = b := ⟨bits.toNat, by omega⟩
 obtain ⟨v, rfl⟩ : ∃ v : Nat, ip = v := ⟨ip.toNat, by omega⟩
 have hbl : b ≤ 32 := by omega
 have hp : (2 : Nat) ^ (32 - b) ≤ 2 ^ 32 := Nat.pow_le_pow_right (by omega) (by omega)
 have hp0 : 0 < (2 : Nat) ^ (32 - b) := Nat.pow_pos (by omega)
 rw [hc, cond_true, nsize_spec _ b hbl, Option.bind_some, u64_id (by omega)] at h
 unfold addrs_Net.f
 dsimp only
 rw [hc, cond_true, rest_spec _ b hbl, Option.bind_some]
 unfold remI at h
 rw [if_neg (by omega), Option.bind_some, show Int.tmod (v : Int) ((2 ^ (32 - b) : Nat) : Int) = ((v % 2 ^ (32 - b) : Nat) : Int) from rfl] at h
 rw [bAnd_u32 (by omega) (by omega), Nat.and_two_pow_sub_one_eq_mod]
 exact h
theorem ways_ok (l : List api_Route) (hl : l.length ≤ 8) (h : gangwayref24_ways.f 2000 l = some true) : ∀ (i : Nat) (hi : i < l.length), gangwayref02_Net.f 2000 l[i].To = some true := by
 unfold gangwayref24_ways.f at h
 have key : ∀ (fuel i : Nat) (st : List api_Route), i ≤ l.length → gangwayref24_ways.l1 l 2000 fuel false (i : Int) st = some true → ∀ (k : Nat) (hk : k < l.length), i ≤ k → gangwayref02_Net.f 2000 l[k].To = some true := by
  intro fuel
  induction fuel with
  | zero => intro i st _ h; cases h
  | succ fuel ih =>
   intro i st hi h k hk hik
   simp only [gangwayref24_ways.l1] at h
   by_cases hlt : i < l.length
   ·rw [lt_t hlt, cond_true, getL_at hlt, Option.bind_some] at h
    obtain ⟨⟨c, r⟩, hr, h⟩ := bind_some h
    dsimp only at h
    by_cases hc : c = 0
    ·subst hc
     rw [show ((0 : Int) != 0) = false by rfl, cond_false, i64_next (by omega)] at h
     by_cases e : k = i
     ·subst e
      unfold gangwayref18_Table_Put_1.f at hr
      obtain ⟨q, hq, hr⟩ := bind_some hr
      cases q
      ·rw [Bool.not_false, cond_true] at hr
       cases hr
      ·exact hq
     ·exact ih (i + 1) r (by omega) h k hk (by omega)
    ·rw [show (c != 0) = true by simp [hc], cond_true] at h
     cases h
   ·omega
 exact fun i hi => key 2000 0 [] (by omega) h i hi (by omega)
def total (ms : List (MapS Int)) : Nat := (ms.map fun m => m.es.length).sum
theorem setE_len {k v : Int} : ∀ {es es' : List (Int × Int × Nat)}, setE k v es = some es' → es'.length = es.length
 | [], _, h => by cases h
 | e :: es, es', h => by
  unfold setE at h
  cases hb : (k == e.1)
  ·rw [hb, cond_false] at h
   obtain ⟨q, hq, rfl⟩ := Option.map_eq_some_iff.1 h
   simp [setE_len hq]
  ·rw [hb, cond_true] at h
   obtain rfl := Option.some.inj h
   simp
theorem set_len (m : MapS Int) (k v : Int) : (m.set k v).es.length ≤ m.es.length + 1 := by
 unfold MapS.set
 cases h : setE k v m.es with
 | none => simp
 | some es => simp [setE_len h]
theorem total_set : ∀ (ms : List (MapS Int)) (i : Nat) (h : i < ms.length) (m : MapS Int), m.es.length ≤ ms[i].es.length + 1 → total (ms.set i m) ≤ total ms + 1
 | [], i, h, m, _ => by simp at h
 | x :: ms, 0, h, m, hm => by
  simp only [total, List.set_cons_zero, List.map_cons, List.sum_cons, List.getElem_cons_zero] at hm ⊢
  omega
 | x :: ms, i + 1, h, m, hm => by
  have ih := total_set ms i (by simpa using h) m (by simpa using hm)
  simp only [total, List.set_cons_succ, List.map_cons, List.sum_cons] at ih ⊢
  omega
theorem total_take (ms : List (MapS Int)) (i : Nat) (h : i < ms.length) : total (ms.take (i + 1)) = total (ms.take i) + ms[i].es.length := by
 unfold total
 rw [List.take_succ_eq_append_getElem h, List.map_append, List.sum_append, List.map_cons, List.map_nil, List.sum_cons, List.sum_nil, Nat.add_zero]
theorem total_le (ms : List (MapS Int)) (i : Nat) : total (ms.take i) ≤ total ms := by
 have h := List.take_append_drop i ms
 have : total ms = total (ms.take i) + total (ms.drop i) := by
  conv => lhs; rw [← h]
  unfold total
  rw [List.map_append, List.sum_append]
 omega
theorem getL33 {ms : List (MapS Int)} (hl : ms.length = 33) {i : Nat} (h : i < 33) : getL 33 ms (i : Int) = some (ms[i]'(by omega)) := by
 unfold getL
 rw [if_pos ⟨by omega, by omega⟩, Int.toNat_natCast, List.getElem?_eq_getElem (by omega)]
theorem size33 (ms : List (MapS Int)) (hl : ms.length = 33) (ht : total ms ≤ 1000) : routes_Table_size.f 2000 ms = some (total ms : Int) := by
 unfold routes_Table_size.f
 obtain ⟨r, hr, rfl⟩ := loop_tot0 (P := fun r : Int => r = (total ms : Int)) 33 (fun i (st : Int) => st = (total (ms.take i) : Int)) (fun n st i => routes_Table_size.l1 ms n st (i : Int)) (fun n st hst => by
   simp only [routes_Table_size.l1]
   rw [show decide (((33 : Nat) : Int) < 33) = false by simp, cond_false]
   rw [List.take_of_length_le (by omega)] at hst
   exact ⟨_, rfl, hst⟩) (fun n i st hi hst hk => by
   subst hst
   simp only [routes_Table_size.l1]
   have h1 := total_take ms i (by omega)
   have h2 := total_le ms (i + 1)
   rw [show decide ((i : Int) < 33) = true by simp; omega, cond_true, getL33 hl hi, Option.bind_some, i64_next (by omega)]
   refine hk _ ?_
   unfold MapS.len
   rw [i64_id (by omega), h1]
   omega) (fuel := 2000) 0 (by omega) (by rfl)
 exact hr
theorem put33 (ms : List (MapS Int)) (r : api_Route) (hl : ms.length = 33) (ht : total ms ≤ 100) (hb : 0 ≤ r.To.Bits ∧ r.To.Bits ≤ 32) (hn : addrs_Net.f 2000 r.To = some true) : ∃ ms', routes_Table_Put.f 2000 ms r = some (0, ms') ∧ ms'.length = 33 ∧ total ms' ≤ total ms + 1 := by
 unfold routes_Table_Put.f
 obtain ⟨b, hb'⟩ : ∃ b : Nat, r.To.Bits = b := ⟨r.To.Bits.toNat, by omega⟩
 have hbl : b < 33 := by omega
 rw [hn, Option.bind_some, Bool.not_true, cond_false, hb', getL33 hl hbl, Option.bind_some]
 have hk1 : ∃ ms', routes_Table_Put.k1 ms r false = some (0, ms') ∧ ms'.length = 33 ∧ total ms' ≤ total ms + 1 := by
  unfold routes_Table_Put.k1
  rw [cond_false, hb', getL33 hl hbl, Option.bind_some, Int.toNat_natCast]
  exact ⟨_, rfl, by rw [List.length_set]; exact hl, total_set ms b (by omega) _ (set_len _ _ _)⟩
 cases ((MapS.get (ms[b]'(by omega)) r.To.Ip).isSome)
 ·rw [Bool.not_false, cond_true, size33 ms hl (by omega), Option.bind_some, show decide ((total ms : Int) ≥ 256) = false by simp; omega]
  exact hk1
 ·rw [Bool.not_true, cond_false]
  exact hk1
theorem laid_ok (l : List api_Route) (hl : l.length ≤ 8) (hi : ∀ x ∈ l, 0 ≤ x.To.Ip ∧ x.To.Ip ≤ 4294967295) (h : gangwayref24_ways.f 2000 l = some true) : vtep_laid.f 2000 l = some true := by
 have hn := ways_ok l hl h
 unfold vtep_laid.f routes_New.f
 rw [if_pos (by omega), Option.bind_some]
 obtain ⟨r, hr, rfl⟩ := loop_tot0 (P := fun r : Bool => r = true) l.length (fun i (st : List (MapS Int)) => st.length = 33 ∧ total st ≤ i) (fun n st i => vtep_laid.l1 l 2000 n false (i : Int) st) (fun n st hst => by
   simp only [vtep_laid.l1]
   rw [lt_f (Nat.le_refl _), cond_false]
   exact ⟨_, rfl, rfl⟩) (fun n i st hi2 hst hk => by
   simp only [vtep_laid.l1]
   obtain ⟨hb, hn2⟩ := net_imp l[i].To (hi _ (List.getElem_mem hi2)) (hn i hi2)
   obtain ⟨ms', hp, h1, h2⟩ := put33 st l[i] hst.1 (by omega) hb hn2
   rw [lt_t hi2, cond_true, getL_at hi2, Option.bind_some, hp, Option.bind_some]
   dsimp only
   rw [show ((0 : Int) != 0) = false by rfl, cond_false, i64_next (by omega)]
   exact hk _ ⟨h1, by omega⟩) (fuel := 2000) (List.replicate 33 (MapS.nil : MapS Int)) (by omega) ⟨rfl, by decide⟩
 exact hr
end Go.Proofs.YtbbekdmndifkpaaGreatDoor
/- Segments: what the document's answer lets pass, the program does. -/
namespace Go.Proofs.YtbbekdmndifkpaaGreatDoor
open Go Eng
theorem getL_ofNat {α : Type} {xs : List α} {i : Nat} {x : α} (h : xs[i]? = some x) : getL xs.length xs (i : Int) = some x := by
 have hlt : i < xs.length := by
  rcases Nat.lt_or_ge i xs.length with h1 | h1
  ·exact h1
  ·rw [List.getElem?_eq_none h1] at h; cases h
 unfold getL
 rw [if_pos (by omega), Int.toNat_natCast, h]
theorem int_idx (l : List Int) (a : Int) (hl : l.length ≤ 1000) : ∀ (r pre : List Int) (fuel : Nat), l = pre ++ r → r.length < fuel →
  ∃ v, slices_Index_uint32_uint32.l1 l a fuel 0 (pre.length : Int) = some v ∧ (v ≥ 0 ↔ a ∈ r)
 | r, pre, 0, _, h => by omega
 | [], pre, fuel + 1, e, h => by
  subst e
  simp only [slices_Index_uint32_uint32.l1]
  exact ⟨-1, by simp, by simp⟩
 | s :: r, pre, fuel + 1, e, h => by
  have hlen : l.length = pre.length + (r.length + 1) := by rw [e]; simp
  have hget : l[pre.length]? = some s := by rw [e]; simp
  simp only [slices_Index_uint32_uint32.l1]
  rw [show decide ((pre.length : Int) < (l.length : Int)) = true by simp; omega, cond_true, getL_ofNat hget, Option.bind_some]
  cases hv : (a == s)
  ·rw [cond_false, i64_id (by omega)]
   have := int_idx l a hl r (pre ++ [s]) fuel (by rw [e]; simp) (by simp at h; omega)
   rw [List.length_append, List.length_singleton] at this
   obtain ⟨v, h1, h2⟩ := this
   refine ⟨v, h1, ?_⟩
   have hne : a ≠ s := by simpa using hv
   rw [h2]; simp [hne]
  ·rw [cond_true]
   have he : a = s := by simpa using hv
   exact ⟨_, rfl, by simp [he]⟩
theorem contains_spec (l : List Int) (a : Int) (hl : l.length ≤ 1000) : slices_Contains_uint32_uint32.f 2000 l a = some (decide (a ∈ l)) := by
 unfold slices_Contains_uint32_uint32.f slices_Index_uint32_uint32.f
 obtain ⟨v, h1, h2⟩ := int_idx l a hl l [] 2000 rfl (by omega)
 have h1' : slices_Index_uint32_uint32.l1 l a 2000 0 0 = some v := h1
 rw [h1', Option.bind_some]
 congr 1
 exact decide_eq_decide.2 h2
theorem often_loop (l : List Int) (a : Int) (hl : l.length ≤ 1000) : ∀ (r pre : List Int) (fuel c : Nat), l = pre ++ r → r.length < fuel → c ≤ pre.length →
  gangwayref21_often.l2 l a fuel (c : Int) (pre.length : Int) = some ((c + r.count a : Nat) : Int)
 | r, pre, 0, c, _, h, _ => by omega
 | [], pre, fuel + 1, c, e, h, hc => by
  subst e
  simp only [gangwayref21_often.l2]
  simp
 | s :: r, pre, fuel + 1, c, e, h, hc => by
  have hlen : l.length = pre.length + (r.length + 1) := by rw [e]; simp
  have hget : l[pre.length]? = some s := by rw [e]; simp
  simp only [gangwayref21_often.l2, gangwayref21_often.k1]
  rw [show decide ((pre.length : Int) < (l.length : Int)) = true by simp; omega, cond_true, getL_ofNat hget, Option.bind_some, i64_id (n := (pre.length : Int) + 1) (by omega), show ((pre.length : Int) + 1) = ((pre.length + 1 : Nat) : Int) by omega]
  have ih := fun c' hc' => often_loop l a hl r (pre ++ [s]) fuel c' (by rw [e]; simp) (by simp at h; omega) hc'
  rw [List.length_append, List.length_singleton] at ih
  cases hv : (s == a)
  ·rw [cond_false, ih c (by omega), List.count_cons, hv]
   simp
  ·rw [cond_true, i64_id (by omega), show ((c : Int) + 1) = ((c + 1 : Nat) : Int) by omega, ih (c + 1) (by omega), List.count_cons, hv]
   congr 2
   simp
   omega
theorem often_spec (l : List Int) (a : Int) (hl : l.length ≤ 1000) : gangwayref21_often.f 2000 l a = some ((l.count a : Nat) : Int) := by
 unfold gangwayref21_often.f
 have := often_loop l a hl l [] 2000 0 rfl (by omega) (by omega)
 rw [Nat.zero_add] at this
 exact this
def PeerGood (t : api_Seg) (a p : Int) : Prop := p > 0 ∧ p ≠ a ∧ t.Peers.count p = 1
theorem l8_spec (t : api_Seg) (a x9 : Int) (rec : Bool → Int → Option Int) (hl : t.Peers.length ≤ 100) : ∀ (j' j fuel : Nat) (b : Bool), j + j' = t.Peers.length → j' < fuel →
  ∃ c : Bool, gangwayref21_Check.l8 t 2000 a x9 rec fuel b (j : Int) = rec (b && c) (i64 (x9 + 1)) ∧ (c = true → ∀ (q : Nat) (hq : q < t.Peers.length), j ≤ q → PeerGood t a t.Peers[q])
 | _, _, 0, _, _, h => by omega
 | 0, j, fuel + 1, b, e, h => by
  refine ⟨true, ?_, fun _ q hq hj => by omega⟩
  simp only [gangwayref21_Check.l8]
  rw [lt_f (by omega), cond_false, Bool.and_true]
 | j' + 1, j, fuel + 1, b, e, h => by
  have hlt : j < t.Peers.length := by omega
  have ih := fun b => l8_spec t a x9 rec hl j' (j + 1) fuel b (by omega) (by omega)
  have bad : ∃ c : Bool, gangwayref21_Check.l8 t 2000 a x9 rec fuel false (i64 ((j : Int) + 1)) = rec (b && c) (i64 (x9 + 1)) ∧ (c = true → ∀ (q : Nat) (hq : q < t.Peers.length), j ≤ q → PeerGood t a t.Peers[q]) := by
   obtain ⟨c, h1, _⟩ := ih false
   refine ⟨false, ?_, fun h => by cases h⟩
   rw [i64_next (by omega), h1, Bool.false_and, Bool.and_false]
  simp only [gangwayref21_Check.l8]
  rw [lt_t hlt, cond_true]
  cases b
  ·rw [cond_false]
   unfold gangwayref21_Check.k7 gangwayref21_Check.k6 gangwayref21_Check.k5
   rw [cond_false, cond_false]
   exact bad
  ·rw [cond_true, getL_at hlt, Option.bind_some]
   unfold gangwayref21_Check.k7
   by_cases h1 : t.Peers[j] > 0
   ·rw [decide_eq_true h1, cond_true, getL_at hlt, Option.bind_some]
    unfold gangwayref21_Check.k6
    by_cases h2 : t.Peers[j] = a
    ·rw [show (t.Peers[j] != a) = false by simp [h2], cond_false]
     unfold gangwayref21_Check.k5
     exact bad
    ·rw [show (t.Peers[j] != a) = true by simp [h2], cond_true, getL_at hlt, Option.bind_some, often_spec _ _ (by omega), Option.bind_some]
     unfold gangwayref21_Check.k5
     by_cases h3 : t.Peers.count t.Peers[j] = 1
     ·obtain ⟨c, h4, h5⟩ := ih true
      refine ⟨c, ?_, fun hc q hq hj => ?_⟩
      ·rw [h3, show (((1 : Nat) : Int) == 1) = true by rfl, i64_next (by omega), h4]
      ·by_cases e : q = j
       ·subst e; exact ⟨h1, h2, h3⟩
       ·exact h5 hc q hq (by omega)
     ·rw [show ((((t.Peers.count t.Peers[j] : Nat)) : Int) == 1) = false by rw [beq_eq_false_iff_ne]; omega]
      exact bad
   ·rw [decide_eq_false h1, cond_false]
    unfold gangwayref21_Check.k6 gangwayref21_Check.k5
    rw [cond_false]
    exact bad
theorem l4_spec (i9 : Nat) (l : List api_Seg) (h9 : i9 ≤ l.length) (hl : l.length ≤ 100) (t : api_Seg) (a : Int) (rec : Bool → Int → Option Int) : ∀ (j' j fuel : Nat) (b : Bool), j + j' = i9 → j' < fuel →
  ∃ c : Bool, gangwayref21_Check.l4 (i9 : Int) l t 2000 a rec fuel b (j : Int) = gangwayref21_Check.l8 t 2000 a (i9 : Int) rec 2000 (b && c) 0 ∧ (c = true → ∀ (q : Nat) (hq : q < i9), j ≤ q → l[q].Vid ≠ t.Vid ∧ l[q].Vni ≠ t.Vni)
 | _, _, 0, _, _, h => by omega
 | 0, j, fuel + 1, b, e, h => by
  refine ⟨true, ?_, fun _ q hq hj => by omega⟩
  simp only [gangwayref21_Check.l4]
  rw [lt_f (by omega), cond_false, Bool.and_true]
 | j' + 1, j, fuel + 1, b, e, h => by
  have hlt : j < l.length := by omega
  have ih := fun b => l4_spec i9 l h9 hl t a rec j' (j + 1) fuel b (by omega) (by omega)
  have bad : ∃ c : Bool, gangwayref21_Check.l4 (i9 : Int) l t 2000 a rec fuel false (i64 ((j : Int) + 1)) = gangwayref21_Check.l8 t 2000 a (i9 : Int) rec 2000 (b && c) 0 ∧ (c = true → ∀ (q : Nat) (hq : q < i9), j ≤ q → l[q].Vid ≠ t.Vid ∧ l[q].Vni ≠ t.Vni) := by
   obtain ⟨c, h1, _⟩ := ih false
   refine ⟨false, ?_, fun h => by cases h⟩
   rw [i64_next (by omega), h1, Bool.false_and, Bool.and_false]
  simp only [gangwayref21_Check.l4]
  rw [lt_t (by omega), cond_true]
  cases b
  ·rw [cond_false]
   unfold gangwayref21_Check.k3 gangwayref21_Check.k2
   rw [cond_false]
   exact bad
  ·rw [cond_true, getL_at hlt, Option.bind_some]
   unfold gangwayref21_Check.k3
   by_cases h1 : l[j].Vid = t.Vid
   ·rw [show (l[j].Vid != t.Vid) = false by simp [h1], cond_false]
    unfold gangwayref21_Check.k2
    exact bad
   ·rw [show (l[j].Vid != t.Vid) = true by simp [h1], cond_true, getL_at hlt, Option.bind_some]
    unfold gangwayref21_Check.k2
    by_cases h2 : l[j].Vni = t.Vni
    ·rw [show (l[j].Vni != t.Vni) = false by simp [h2]]
     exact bad
    ·obtain ⟨c, h4, h5⟩ := ih true
     refine ⟨c, ?_, fun hc q hq hj => ?_⟩
     ·rw [show (l[j].Vni != t.Vni) = true by simp [h2], i64_next (by omega), h4]
     ·by_cases e : q = j
      ·subst e; exact ⟨h1, h2⟩
      ·exact h5 hc q hq (by omega)
structure SegGood (l : List api_Seg) (a : Int) (i : Nat) (t : api_Seg) : Prop where
 vid : 0 < t.Vid ∧ t.Vid < 4095
 vni : 0 ≤ t.Vni ∧ t.Vni < 16777216
 other : ∀ (q : Nat) (hq : q < l.length), q < i → l[q].Vid ≠ t.Vid ∧ l[q].Vni ≠ t.Vni
 peers : ∀ (q : Nat) (hq : q < t.Peers.length), PeerGood t a t.Peers[q]
theorem l9_ok (l : List api_Seg) (a : Int) (hl : l.length ≤ 100) (hp : ∀ s ∈ l, s.Peers.length ≤ 100) : ∀ (fuel i : Nat) (b : Bool), i ≤ l.length → gangwayref21_Check.l9 l 2000 a fuel b (i : Int) = some 0 →
  b = true ∧ ∀ (k : Nat) (hk : k < l.length), i ≤ k → SegGood l a k l[k]
 | 0, i, b, _, h => by cases h
 | fuel + 1, i, b, hi, h => by
  simp only [gangwayref21_Check.l9] at h
  by_cases hlt : i < l.length
  ·rw [lt_t hlt, cond_true, getL_at hlt, Option.bind_some] at h
   obtain ⟨c, h1, h2⟩ := l4_spec i l hi hl l[i] a (gangwayref21_Check.l9 l 2000 a fuel) i 0 2000 ((((b && (decide (l[i].Vid > 0))) && (decide (l[i].Vid < 4095))) && (decide (l[i].Vni ≥ 0))) && (decide (l[i].Vni < 16777216))) (by omega) (by omega)
   obtain ⟨c', h3, h4⟩ := l8_spec l[i] a (i : Int) (gangwayref21_Check.l9 l 2000 a fuel) (hp _ (List.getElem_mem hlt)) l[i].Peers.length 0 2000 (((((b && (decide (l[i].Vid > 0))) && (decide (l[i].Vid < 4095))) && (decide (l[i].Vni ≥ 0))) && (decide (l[i].Vni < 16777216))) && c) (by omega) (by have := hp _ (List.getElem_mem hlt); omega)
   have h1' : gangwayref21_Check.l4 (i : Int) l l[i] 2000 a (gangwayref21_Check.l9 l 2000 a fuel) 2000 ((((b && (decide (l[i].Vid > 0))) && (decide (l[i].Vid < 4095))) && (decide (l[i].Vni ≥ 0))) && (decide (l[i].Vni < 16777216))) 0 = _ := h1
   have h3' : gangwayref21_Check.l8 l[i] 2000 a (i : Int) (gangwayref21_Check.l9 l 2000 a fuel) 2000 (((((b && (decide (l[i].Vid > 0))) && (decide (l[i].Vid < 4095))) && (decide (l[i].Vni ≥ 0))) && (decide (l[i].Vni < 16777216))) && c) 0 = _ := h3
   rw [h1', h3', i64_next (by omega)] at h
   obtain ⟨h5, h6⟩ := l9_ok l a hl hp fuel (i + 1) _ (by omega) h
   simp only [Bool.and_eq_true, decide_eq_true_eq] at h5
   obtain ⟨⟨⟨⟨⟨⟨q1, q2⟩, q3⟩, q4⟩, q5⟩, q6⟩, q7⟩ := h5
   refine ⟨q1, fun k hk hik => ?_⟩
   by_cases e : k = i
   ·subst e
    exact ⟨⟨q2, q3⟩, ⟨q4, q5⟩, fun q hq hqi => h2 q6 q hqi (by omega), fun q hq => h4 q7 q hq (by omega)⟩
   ·exact h6 k hk (by omega)
  ·rw [lt_f (by omega), cond_false] at h
   cases b
   ·cases h
   ·exact ⟨rfl, fun k hk hik => by omega⟩
theorem check21_ok (a : Int) (l : List api_Seg) (hl : l.length ≤ 12) (hp : ∀ s ∈ l, s.Peers.length ≤ 20) (h : gangwayref21_Check.f 2000 a l = some 0) : a > 0 ∧ (∀ s ∈ l, s.Peers.length ≤ 16) ∧ ∀ (k : Nat) (hk : k < l.length), SegGood l a k l[k] := by
 unfold gangwayref21_Check.f at h
 have key : ∀ (fuel i : Nat), i ≤ l.length → gangwayref21_Check.l1 l 2000 a fuel 0 (i : Int) = some 0 → (∀ (k : Nat) (hk : k < l.length), i ≤ k → l[k].Peers.length ≤ 16) ∧ gangwayref21_Check.l9 l 2000 a 2000 (decide (a > 0)) 0 = some 0 := by
  intro fuel
  induction fuel with
  | zero => intro i _ h; cases h
  | succ fuel ih =>
   intro i hi h
   simp only [gangwayref21_Check.l1] at h
   by_cases hlt : i < l.length
   ·rw [lt_t hlt, cond_true, getL_at hlt, Option.bind_some] at h
    by_cases h16 : l[i].Peers.length ≤ 16
    ·rw [show decide ((l[i].Peers.length : Int) > 16) = false by simp; omega, cond_false, i64_next (by omega)] at h
     obtain ⟨h1, h2⟩ := ih (i + 1) (by omega) h
     refine ⟨fun k hk hik => ?_, h2⟩
     by_cases e : k = i
     ·subst e; exact h16
     ·exact h1 k hk (by omega)
    ·rw [show decide ((l[i].Peers.length : Int) > 16) = true by simp; omega, cond_true] at h
     cases h
   ·rw [lt_f (by omega), cond_false, show decide ((l.length : Int) > 256) = false by simp; omega, cond_false] at h
    exact ⟨fun k hk hik => by omega, h⟩
 obtain ⟨h1, h2⟩ := key 2000 0 (by omega) h
 obtain ⟨h3, h4⟩ := l9_ok l a (by omega) (fun s hs => by have := hp s hs; omega) 2000 0 _ (by omega) h2
 refine ⟨of_decide_eq_true h3, fun s hs => ?_, fun k hk => h4 k hk (by omega)⟩
 obtain ⟨i, hi, rfl⟩ := List.getElem_of_mem hs
 exact h1 i hi (by omega)
theorem segs_none (l : List api_Seg) (hl : l.length ≤ 100) (h : ∀ s ∈ l, s.Peers.length ≤ 16) : api_Seg_2.f 2000 l = some false := by
 unfold api_Seg_2.f api_Seg_3.f
 have key : ∀ (j i fuel : Nat), i + j = l.length → j < fuel → api_Seg_3.l1 l fuel 0 (i : Int) = some (-1) := by
  intro j
  induction j with
  | zero =>
   intro i fuel e hf
   obtain ⟨fuel, rfl⟩ : ∃ q, fuel = q + 1 := ⟨fuel - 1, by omega⟩
   simp only [api_Seg_3.l1]
   rw [lt_f (by omega), cond_false]
  | succ j ih =>
   intro i fuel e hf
   obtain ⟨fuel, rfl⟩ : ∃ q, fuel = q + 1 := ⟨fuel - 1, by omega⟩
   have := h _ (List.getElem_mem (show i < l.length by omega))
   simp only [api_Seg_3.l1, vni_Check_1.f]
   rw [lt_t (by omega), cond_true, getL_at (by omega), Option.bind_some, Option.bind_some, show decide ((l[i].Peers.length : Int) > 16) = false by simp; omega, cond_false, i64_next (by omega)]
   exact ih (i + 1) fuel (by omega) (by omega)
 rw [show api_Seg_3.l1 l 2000 0 0 = some (-1) from key l.length 0 2000 (by omega) (by omega), Option.bind_some]
 rfl
theorem right_ok (l : List api_Seg) (a : Int) (i : Nat) (t : api_Seg) (ha : a > 0) (hp : t.Peers.length ≤ 100) (h : SegGood l a i t) : vni_right.f 2000 a t.Vid t.Vni t.Peers = some true := by
 unfold vni_right.f
 have h1 := h.vid; have h2 := h.vni
 have hnd : t.Peers.Nodup := List.nodup_iff_count.2 fun p => by
  by_cases hm : p ∈ t.Peers
  ·obtain ⟨q, hq, rfl⟩ := List.getElem_of_mem hm
   exact Nat.le_of_eq (h.peers q hq).2.2
  ·rw [List.count_eq_zero_of_not_mem hm]; omega
 have h0 : (0 : Int) ∉ t.Peers := fun hm => by
  obtain ⟨q, hq, e⟩ := List.getElem_of_mem hm
  have := (h.peers q hq).1
  omega
 have ha' : a ∉ t.Peers := fun hm => by
  obtain ⟨q, hq, e⟩ := List.getElem_of_mem hm
  exact (h.peers q hq).2.1 e
 rw [decide_eq_true (show t.Vid ≥ 1 by omega), decide_eq_true (show t.Vid ≤ 4094 by omega), decide_eq_true (show t.Vni ≥ 0 by omega), decide_eq_true (show t.Vni ≤ 16777215 by omega)]
 rw [Bool.and_true, Bool.and_true, Bool.and_true, cond_true, twice_no32 _ (by omega) hnd, Option.bind_some]
 unfold vni_right.k3
 rw [Bool.not_false, cond_true, contains_spec _ _ (by omega), Option.bind_some, decide_eq_false h0]
 unfold vni_right.k2
 rw [Bool.not_false, cond_true, contains_spec _ _ (by omega), Option.bind_some, decide_eq_false ha']
 rfl
theorem vni_ok (a : Int) (l : List api_Seg) (hl : l.length ≤ 12) (hp : ∀ s ∈ l, s.Peers.length ≤ 20) (h : gangwayref21_Check.f 2000 a l = some 0) : vni_Check.f 2000 a l = some 0 := by
 obtain ⟨ha, h16, hg⟩ := check21_ok a l hl hp h
 unfold vni_Check.f
 rw [show decide ((l.length : Int) > 256) = false by simp; omega, cond_false, segs_none l (by omega) h16, Option.bind_some]
 unfold vni_Check.k1
 rw [cond_false, show (a != 0) = true by simp; omega]
 have nv : (l.map (·.Vid)).Nodup := List.pairwise_iff_getElem.2 fun i j hi hj hij => by
  simp only [List.length_map] at hi hj
  rw [List.getElem_map, List.getElem_map]
  exact ((hg j hj).other i hi hij).1
 have nn : (l.map (·.Vni)).Nodup := List.pairwise_iff_getElem.2 fun i j hi hj hij => by
  simp only [List.length_map] at hi hj
  rw [List.getElem_map, List.getElem_map]
  exact ((hg j hj).other i hi hij).2
 obtain ⟨r, hr, rfl⟩ := loop_tot0 (P := fun r : Int => r = 0) l.length (fun i (st : List Int × List Int) => st = ((l.take i).map (·.Vid), (l.take i).map (·.Vni))) (fun n st i => vni_Check.l3 l 2000 a n st.1 st.2 true (i : Int)) (fun n st hst => by
   subst hst
   simp only [vni_Check.l3]
   rw [lt_f (Nat.le_refl _), cond_false, Bool.not_true, cond_false, List.take_length, twice_no _ (by simp; omega) nv, Option.bind_some]
   unfold vni_Check.k5
   rw [cond_false, twice_no _ (by simp; omega) nn, Option.bind_some]
   exact ⟨_, rfl, rfl⟩) (fun n i st hi hst hk => by
   subst hst
   have h20 := hp _ (List.getElem_mem hi)
   simp only [vni_Check.l3]
   rw [lt_t hi, cond_true, getL_at hi, Option.bind_some, room_ok (by simp; omega) (by simp; omega), Option.bind_some, room_ok (by simp; omega) (by simp; omega), Option.bind_some, cond_true, right_ok l a i l[i] ha (by omega) (hg i hi), Option.bind_some]
   unfold vni_Check.k2
   rw [i64_next (by omega)]
   exact hk (_, _) (by rw [List.take_succ_eq_append_getElem hi, List.map_append, List.map_append]; rfl)) (fuel := 2000) ([], []) (by omega) (by simp)
 exact hr
end Go.Proofs.YtbbekdmndifkpaaGreatDoor
/- Gateways that may work together by the document may by the program. -/
namespace Go.Proofs.YtbbekdmndifkpaaGreatDoor
open Go Eng
theorem vtep_ok (g : api_Gate) (hg : GateOk g) (h : gangwayref24_New.f 2000 g.Bridge g.Mac g.Ip g.Ports g.Edges g.Keep g.Near g.Heard g.Segs g.Routes g.Most g.Answers = some 0) : vtep_New.f 2000 g.Bridge g.Mac g.Ip g.Ports g.Edges g.Keep g.Near g.Heard g.Segs g.Routes g.Most g.Answers = some 0 := by
 have hp := hg.ports
 unfold gangwayref24_New.f at h
 obtain ⟨r, hr, h0⟩ := loop_tot0 (P := fun r : Int => r = 0 → vtep_New.f 2000 g.Bridge g.Mac g.Ip g.Ports g.Edges g.Keep g.Near g.Heard g.Segs g.Routes g.Most g.Answers = some 0) g.Ports.length (fun i (st : List Int) => st = List.replicate i 1) (fun n st i => gangwayref24_New.l1 g.Ports 2000 g.Keep g.Bridge g.Edges g.Heard g.Near g.Routes g.Ip g.Segs g.Mac g.Most n st (i : Int)) (fun n st hst => by
   subst hst
   simp only [gangwayref24_New.l1]
   obtain ⟨r1, e1⟩ := new17_tot g.Ports g.Keep hg.ports hg.vids
   obtain ⟨⟨r2, r2'⟩, e2⟩ := new15_tot g.Bridge (List.replicate g.Ports.length 1) g.Edges (by simp; omega)
   obtain ⟨r3, e3⟩ := new12_tot g.Keep.Room g.Heard
   obtain ⟨r4, e4⟩ := new19_tot g.Near
   obtain ⟨r5, e5⟩ := ways_tot g.Routes hg.routes
   obtain ⟨r6, e6⟩ := check21_tot g.Ip g.Segs hg.segs hg.peers
   rw [lt_f (Nat.le_refl _), cond_false, e1, Option.bind_some, e2, Option.bind_some, e3, Option.bind_some, e4, Option.bind_some, e5, Option.bind_some, e6]
   simp only [Option.bind_some]
   have bad : ∃ r, gangwayref24_New.k2 g.Near g.Mac g.Ip g.Bridge g.Most false = some r ∧ (r = 0 → vtep_New.f 2000 g.Bridge g.Mac g.Ip g.Ports g.Edges g.Keep g.Near g.Heard g.Segs g.Routes g.Most g.Answers = some 0) := ⟨240, rfl, fun h => by cases h⟩
   by_cases hc : (((((r1 == 0) && (r2' == 0)) && (r3 == 0)) && (r4 == 0)) && r5) = true
   ·rw [hc, cond_true]
    simp only [Bool.and_eq_true, beq_iff_eq] at hc
    obtain ⟨⟨⟨⟨rfl, rfl⟩, rfl⟩, rfl⟩, rfl⟩ := hc
    by_cases h6 : r6 = 0
    ·subst h6
     unfold gangwayref24_New.k2
     rw [show ((0 : Int) == 0) = true by rfl, Bool.not_true, Bool.false_or]
     cases hf : (((((g.Near.Mac != g.Mac) || (g.Near.Ip != g.Ip)) || (g.Bridge == 0)) || (decide (g.Most < 68))) || (decide (g.Most > 65535)))
     ·rw [cond_false]
      refine ⟨0, rfl, fun _ => ?_⟩
      unfold vtep_New.f
      obtain ⟨s, hs⟩ := span_ok g.Bridge g.Ports.length g.Edges hp (new15_ok g.Bridge g.Ports.length g.Edges r2 hp e2)
      rw [copied_spec g hg, Option.bind_some, repeat_spec _ hp, Option.bind_some, bridge_ok _ _ hp hg.vids e1, Option.bind_some, hs, Option.bind_some]
      dsimp only
      rw [binding_ok _ _ e3, Option.bind_some, neigh_ok _ e4, Option.bind_some, laid_ok _ hg.routes hg.ips e5, Option.bind_some, vni_ok _ _ hg.segs hg.peers e6, Option.bind_some]
      rw [show (!(((((true && ((0 : Int) == 0)) && ((0 : Int) == 0)) && ((0 : Int) == 0)) && ((0 : Int) == 0)) && ((0 : Int) == 0))) = false by rfl, Bool.false_or, hf, cond_false]
     ·exact ⟨240, rfl, fun h => by cases h⟩
    ·rw [show (r6 == 0) = false by simp [h6]]
     exact bad
   ·rw [Bool.not_eq_true] at hc
    rw [hc, cond_false]
    exact bad) (fun n i st hi hst hk => by
   subst hst
   simp only [gangwayref24_New.l1]
   rw [lt_t hi, cond_true, room_ok (by simp; omega) (by simp; omega), Option.bind_some, i64_next (by omega)]
   exact hk _ (by rw [List.replicate_succ'])) (fuel := 2000) [] (by omega) rfl
 have hr' : gangwayref24_New.l1 g.Ports 2000 g.Keep g.Bridge g.Edges g.Heard g.Near g.Routes g.Ip g.Segs g.Mac g.Most 2000 [] 0 = some r := hr
 rw [hr'] at h
 exact h0 (Option.some.inj h)
def Apart (x y : api_Gate) : Prop := x.Ip ≠ y.Ip ∧ x.Mac ≠ y.Mac ∧ x.Bridge ≠ y.Bridge
theorem c4_ok (i9 : Nat) (l : List api_Gate) (h9 : i9 < l.length) (hl : l.length ≤ 3) (rec : Int → Int → Option Int) : ∀ (fuel j : Nat), j ≤ i9 → gangwayref26_Check.l4 (i9 : Int) l rec fuel 0 (j : Int) = some 0 →
  (∀ (q : Nat) (hq : q < i9), j ≤ q → Apart l[i9] l[q]) ∧ rec 0 (((i9 + 1 : Nat)) : Int) = some 0
 | 0, j, _, h => by cases h
 | fuel + 1, j, hj, h => by
  simp only [gangwayref26_Check.l4] at h
  by_cases hlt : j < i9
  ·rw [lt_t hlt, cond_true, getL_at h9, Option.bind_some, getL_at (by omega), Option.bind_some] at h
   by_cases h1 : l[i9].Ip = l[j].Ip
   ·rw [show (l[i9].Ip == l[j].Ip) = true by simp [h1], cond_true] at h
    unfold gangwayref26_Check.k3 gangwayref26_Check.k2 at h
    rw [cond_true, cond_true] at h
    cases h
   ·rw [show (l[i9].Ip == l[j].Ip) = false by simp [h1], cond_false, Option.bind_some, Option.bind_some] at h
    unfold gangwayref26_Check.k3 at h
    by_cases h2 : l[i9].Mac = l[j].Mac
    ·rw [show (l[i9].Mac == l[j].Mac) = true by simp [h2], cond_true] at h
     unfold gangwayref26_Check.k2 at h
     rw [cond_true] at h
     cases h
    ·rw [show (l[i9].Mac == l[j].Mac) = false by simp [h2], cond_false, getL_at h9, Option.bind_some, getL_at (by omega), Option.bind_some] at h
     unfold gangwayref26_Check.k2 at h
     by_cases h3 : l[i9].Bridge = l[j].Bridge
     ·rw [show (l[i9].Bridge == l[j].Bridge) = true by simp [h3], cond_true] at h
      cases h
     ·rw [show (l[i9].Bridge == l[j].Bridge) = false by simp [h3], cond_false, i64_next (by omega)] at h
      obtain ⟨h4, h5⟩ := c4_ok i9 l h9 hl rec fuel (j + 1) (by omega) h
      refine ⟨fun q hq hjq => ?_, h5⟩
      by_cases e : q = j
      ·subst e; exact ⟨h1, h2, h3⟩
      ·exact h4 q hq (by omega)
  ·rw [lt_f (by omega), cond_false, i64_next (by omega)] at h
   exact ⟨fun q hq hjq => by omega, h⟩
theorem c5_ok (l : List api_Gate) (hl : l.length ≤ 3) : ∀ (fuel i : Nat), i ≤ l.length → gangwayref26_Check.l5 l 2000 fuel 0 (i : Int) = some 0 → ∀ (k : Nat) (hk : k < l.length), i ≤ k → ∀ (q : Nat) (hq : q < k), Apart l[k] l[q]
 | 0, i, _, h => by cases h
 | fuel + 1, i, hi, h => by
  intro k hk hik q hq
  have hlt : i < l.length := by omega
  simp only [gangwayref26_Check.l5] at h
  rw [lt_t hlt, cond_true] at h
  have h' : gangwayref26_Check.l4 (i : Int) l (gangwayref26_Check.l5 l 2000 fuel) 2000 0 ((0 : Nat) : Int) = some 0 := h
  obtain ⟨h1, h2⟩ := c4_ok i l hlt hl _ 2000 0 (by omega) h'
  by_cases e : k = i
  ·subst e; exact h1 q hq (by omega)
  ·exact c5_ok l hl fuel (i + 1) (by omega) h2 k hk (by omega) q hq
theorem check26_ok (l : List api_Gate) (hl : l.length ≤ 3) (h : gangwayref26_Check.f 2000 l = some 0) : (∀ (k : Nat) (hk : k < l.length), gangwayref24_New.f 2000 l[k].Bridge l[k].Mac l[k].Ip l[k].Ports l[k].Edges l[k].Keep l[k].Near l[k].Heard l[k].Segs l[k].Routes l[k].Most l[k].Answers = some 0) ∧ ∀ (k : Nat) (hk : k < l.length) (q : Nat) (hq : q < k), Apart l[k] l[q] := by
 unfold gangwayref26_Check.f at h
 rw [show decide ((l.length : Int) > 16) = false by simp; omega, cond_false] at h
 have key : ∀ (fuel i : Nat), i ≤ l.length → gangwayref26_Check.l1 l 2000 fuel 0 (i : Int) = some 0 → (∀ (k : Nat) (hk : k < l.length), i ≤ k → gangwayref24_New.f 2000 l[k].Bridge l[k].Mac l[k].Ip l[k].Ports l[k].Edges l[k].Keep l[k].Near l[k].Heard l[k].Segs l[k].Routes l[k].Most l[k].Answers = some 0) ∧ gangwayref26_Check.l5 l 2000 2000 0 0 = some 0 := by
  intro fuel
  induction fuel with
  | zero => intro i _ h; cases h
  | succ fuel ih =>
   intro i hi h
   simp only [gangwayref26_Check.l1] at h
   by_cases hlt : i < l.length
   ·rw [lt_t hlt, cond_true, getL_at hlt, Option.bind_some] at h
    obtain ⟨r, hr, h⟩ := bind_some h
    by_cases h0 : r = 0
    ·subst h0
     rw [show ((0 : Int) != 0) = false by rfl, cond_false, i64_next (by omega)] at h
     obtain ⟨h1, h2⟩ := ih (i + 1) (by omega) h
     refine ⟨fun k hk hik => ?_, h2⟩
     by_cases e : k = i
     ·subst e; exact hr
     ·exact h1 k hk (by omega)
    ·rw [show (r != 0) = true by simp [h0], cond_true] at h
     exact absurd (Option.some.inj h) h0
   ·rw [lt_f (by omega), cond_false] at h
    exact ⟨fun k hk hik => by omega, h⟩
 obtain ⟨h1, h2⟩ := key 2000 0 (by omega) h
 exact ⟨fun k hk => h1 k hk (by omega), fun k hk q hq => c5_ok l hl 2000 0 (by omega) h2 k hk (by omega) q hq⟩
theorem config_ok (l : List api_Gate) (hg : GatesOk l) (h : gangwayref26_Check.f 2000 l = some 0) : config_Check.f 2000 l = some 0 := by
 obtain ⟨hl, hg⟩ := hg
 obtain ⟨h1, h2⟩ := check26_ok l hl h
 unfold config_Check.f
 rw [show decide ((l.length : Int) > 16) = false by simp; omega, cond_false]
 obtain ⟨r, hr, rfl⟩ := loop_tot0 (P := fun r : Int => r = 0) l.length (fun i (st : MapS Bool × MapS Bool × MapS Bool) => MTrue st.1 ((l.take i).map (·.Ip)) ∧ MTrue st.2.1 ((l.take i).map (·.Mac)) ∧ MTrue st.2.2 ((l.take i).map (·.Bridge))) (fun n st i => config_Check.l1 l 2000 n 0 (i : Int) st.1 st.2.1 st.2.2) (fun n st hst => by
   obtain ⟨m1, m2, m3⟩ := hst
   simp only [config_Check.l1]
   rw [lt_f (Nat.le_refl _), cond_false, m1.len, m2.len]
   unfold config_Check.k3 config_Check.k2
   rw [m3.len, List.length_map, List.length_map, List.length_map, List.take_length, lt_f (Nat.le_refl _), cond_false, cond_false, cond_false]
   exact ⟨_, rfl, rfl⟩) (fun n i st hi hst hk => by
   obtain ⟨m1, m2, m3⟩ := hst
   simp only [config_Check.l1]
   rw [lt_t hi, cond_true, getL_at hi, Option.bind_some, vtep_ok _ (hg _ (List.getElem_mem hi)) (h1 i hi), Option.bind_some, show ((0 : Int) != 0) = false by rfl, cond_false, i64_next (by omega)]
   have hx : ∀ {β : Type} (f : api_Gate → β) (hf : ∀ (q : Nat) (hq : q < i), f l[i] ≠ f l[q]), f l[i] ∉ (l.take i).map f := fun f hf hm => by
    obtain ⟨q, hq, e⟩ := List.getElem_of_mem hm
    simp only [List.length_map, List.length_take] at hq
    rw [List.getElem_map, List.getElem_take] at e
    exact hf q (by omega) e.symm
   refine hk (_, _, _) ⟨?_, ?_, ?_⟩
   ·rw [List.take_succ_eq_append_getElem hi, List.map_append]
    exact m1.set (hx (·.Ip) fun q hq => (h2 i hi q hq).1)
   ·rw [List.take_succ_eq_append_getElem hi, List.map_append]
    exact m2.set (hx (·.Mac) fun q hq => (h2 i hi q hq).2.1)
   ·rw [List.take_succ_eq_append_getElem hi, List.map_append]
    exact m3.set (hx (·.Bridge) fun q hq => (h2 i hi q hq).2.2)) (fuel := 2000) (MapS.nil, MapS.nil, MapS.nil) (by omega) ⟨MTrue.nil, MTrue.nil, MTrue.nil⟩
 exact hr
end Go.Proofs.YtbbekdmndifkpaaGreatDoor