/- Plain arithmetic of the functions' models: no conditions but those that each theorem bears. -/
import Derived.Test.YtbbekdmndifkpaaGreatDoorF1
import Derived.Test.YtbbekdmndifkpaaGreatDoorE2
import Derived.Test.YtbbekdmndifkpaaGreatDoorF2
import Derived.Test.YtbbekdmndifkpaaGreatDoorF3
import Derived.Test.YtbbekdmndifkpaaGreatDoorF4

namespace Go.Proofs.YtbbekdmndifkpaaGreatDoor
open Go Eng
set_option linter.unusedVariables false

def api_Keep.enc (x : api_Keep) : List Value := [.int .i64 x.Room, .int .i64 x.Life, .int .i64 x.Moves, .int .i64 x.Window]

def api_Near.enc (x : api_Near) : List Value := [.int .u64 x.Mac, .int .u32 x.Ip, .int .i64 x.Room, .int .i64 x.Life, .int .i64 x.Pend, .int .i64 x.Tries, .int .i64 x.Apart]

def api_Net.enc (x : api_Net) : List Value := [.int .u32 x.Ip, .int .i64 x.Bits]

def Ok36 (n : Int) : Prop := 0 ≤ n ∧ n ≤ 18446744073709551615
theorem dec36 (W : World) : Dec Tryz.prog W 36 (pl (encI .u64)) noK Ok36 := (Dec.int Tryz.underlying36).mono fun _ h => Eng.wf_u64 h

def Ok49 (n : Int) : Prop := 0 ≤ n ∧ n ≤ 4294967295
theorem dec49 (W : World) : Dec Tryz.prog W 49 (pl (encI .u32)) noK Ok49 := (Dec.int Tryz.underlying49).mono fun _ h => Eng.wf_u32 h

def Ok4 (_ : Bool) : Prop := True
theorem dec4 (W : World) : Dec Tryz.prog W 4 (pl encB) noK Ok4 := Dec.bool Tryz.underlying4

def Ok3 (n : Int) : Prop := (-9223372036854775808) ≤ n ∧ n ≤ 9223372036854775807
theorem dec3 (W : World) : Dec Tryz.prog W 3 (pl (encI .i64)) noK Ok3 := (Dec.int Tryz.underlying3).mono fun _ h => Eng.wf_i64 h

def Ok82 (xs : (List Int)) : Prop := (∀ x ∈ xs, Ok3 x) ∧ xs.length * 8 ≤ 140737488351232
set_option maxRecDepth 100000 in
theorem dec82 (W : World) : Dec Tryz.prog W 82 (fun (xs : (List Int)) s => [slcV s xs.length]) (fun (xs : (List Int)) s => Row 1 (pl (encI .i64)) noK s xs) Ok82 := Dec.slice 0 () (by kernel_rfl) (by kernel_rfl) (by decide) (fun _ _ => rfl) (by kernel_rfl : _ = 8) (dec3 W)

def Ok84 (x : api_PortCfg) : Prop := Ok4 x.Trunk ∧ Ok3 x.Pvid ∧ Ok82 x.Vids
set_option maxRecDepth 100000 in
theorem dec84 (W : World) : Dec Tryz.prog W 84 api_PortCfg.encS api_PortCfg.inK Ok84 := fun H enc fuel cs d h hw => by
  obtain ⟨ps, r0, rfl⟩ := Dec.fields [4, 3, 82] Tryz.underlying84 (by kernel_rfl) (by kernel_rfl) h hw
  obtain ⟨p0, ps0, rfl, ⟨f0, d0, h0, w0⟩, r1⟩ := r0.cons
  obtain ⟨x0, s0, rfl, k0, q0⟩ := dec4 W H enc f0 p0 d0 h0 w0
  obtain ⟨p1, ps1, rfl, ⟨f1, d1, h1, w1⟩, r2⟩ := r1.cons
  obtain ⟨x1, s1, rfl, k1, q1⟩ := dec3 W H enc f1 p1 d1 h1 w1
  obtain ⟨p2, ps2, rfl, ⟨f2, d2, h2, w2⟩, r3⟩ := r2.cons
  obtain ⟨x2, s2, rfl, k2, q2⟩ := dec82 W H enc f2 p2 d2 h2 w2
  obtain rfl := r3.nil
  exact ⟨⟨x0, x1, x2⟩, s2, rfl, k2, q0, q1, q2⟩
theorem up84 : Up api_PortCfg.inK := fun x s w w' h k => (Up.row Up.no) x.Vids s w w' h k

def Ok64 (xs : (List api_PortCfg)) : Prop := (∀ x ∈ xs, Ok84 x) ∧ xs.length * 40 ≤ 140737488351232
set_option maxRecDepth 100000 in
theorem dec64 (W : World) : Dec Tryz.prog W 64 (fun (xs : (List api_PortCfg)) s => [slcV s xs.length]) (fun (xs : (List api_PortCfg)) s => Row 3 api_PortCfg.encS api_PortCfg.inK s xs) Ok64 := Dec.slice (api_PortCfg.mk false 0 ([] : List Int)) (SkL.nil (fun _ => ())) (by kernel_rfl) (by kernel_rfl) (by decide) (fun _ _ => rfl) (by kernel_rfl : _ = 40) (dec84 W)

def Ok65 (xs : (List Bool)) : Prop := (∀ x ∈ xs, Ok4 x) ∧ xs.length * 1 ≤ 140737488351232
set_option maxRecDepth 100000 in
theorem dec65 (W : World) : Dec Tryz.prog W 65 (fun (xs : (List Bool)) s => [slcV s xs.length]) (fun (xs : (List Bool)) s => Row 1 (pl encB) noK s xs) Ok65 := Dec.slice false () (by kernel_rfl) (by kernel_rfl) (by decide) (fun _ _ => rfl) (by kernel_rfl : _ = 1) (dec4 W)

def Ok67 (x : api_Keep) : Prop := Ok3 x.Room ∧ Ok3 x.Life ∧ Ok3 x.Moves ∧ Ok3 x.Window
set_option maxRecDepth 100000 in
theorem dec67 (W : World) : Dec Tryz.prog W 67 (pl api_Keep.enc) noK Ok67 := fun H enc fuel cs d h hw => by
  obtain ⟨ps, r0, rfl⟩ := Dec.fields [3, 3, 3, 3] Tryz.underlying67 (by kernel_rfl) (by kernel_rfl) h hw
  obtain ⟨p0, ps0, rfl, ⟨f0, d0, h0, w0⟩, r1⟩ := r0.cons
  obtain ⟨x0, s0, rfl, k0, q0⟩ := dec3 W H enc f0 p0 d0 h0 w0
  obtain ⟨p1, ps1, rfl, ⟨f1, d1, h1, w1⟩, r2⟩ := r1.cons
  obtain ⟨x1, s1, rfl, k1, q1⟩ := dec3 W H enc f1 p1 d1 h1 w1
  obtain ⟨p2, ps2, rfl, ⟨f2, d2, h2, w2⟩, r3⟩ := r2.cons
  obtain ⟨x2, s2, rfl, k2, q2⟩ := dec3 W H enc f2 p2 d2 h2 w2
  obtain ⟨p3, ps3, rfl, ⟨f3, d3, h3, w3⟩, r4⟩ := r3.cons
  obtain ⟨x3, s3, rfl, k3, q3⟩ := dec3 W H enc f3 p3 d3 h3 w3
  obtain rfl := r4.nil
  exact ⟨⟨x0, x1, x2, x3⟩, (), rfl, trivial, q0, q1, q2, q3⟩

def Ok69 (x : api_Near) : Prop := Ok36 x.Mac ∧ Ok49 x.Ip ∧ Ok3 x.Room ∧ Ok3 x.Life ∧ Ok3 x.Pend ∧ Ok3 x.Tries ∧ Ok3 x.Apart
set_option maxRecDepth 100000 in
theorem dec69 (W : World) : Dec Tryz.prog W 69 (pl api_Near.enc) noK Ok69 := fun H enc fuel cs d h hw => by
  obtain ⟨ps, r0, rfl⟩ := Dec.fields [36, 49, 3, 3, 3, 3, 3] Tryz.underlying69 (by kernel_rfl) (by kernel_rfl) h hw
  obtain ⟨p0, ps0, rfl, ⟨f0, d0, h0, w0⟩, r1⟩ := r0.cons
  obtain ⟨x0, s0, rfl, k0, q0⟩ := dec36 W H enc f0 p0 d0 h0 w0
  obtain ⟨p1, ps1, rfl, ⟨f1, d1, h1, w1⟩, r2⟩ := r1.cons
  obtain ⟨x1, s1, rfl, k1, q1⟩ := dec49 W H enc f1 p1 d1 h1 w1
  obtain ⟨p2, ps2, rfl, ⟨f2, d2, h2, w2⟩, r3⟩ := r2.cons
  obtain ⟨x2, s2, rfl, k2, q2⟩ := dec3 W H enc f2 p2 d2 h2 w2
  obtain ⟨p3, ps3, rfl, ⟨f3, d3, h3, w3⟩, r4⟩ := r3.cons
  obtain ⟨x3, s3, rfl, k3, q3⟩ := dec3 W H enc f3 p3 d3 h3 w3
  obtain ⟨p4, ps4, rfl, ⟨f4, d4, h4, w4⟩, r5⟩ := r4.cons
  obtain ⟨x4, s4, rfl, k4, q4⟩ := dec3 W H enc f4 p4 d4 h4 w4
  obtain ⟨p5, ps5, rfl, ⟨f5, d5, h5, w5⟩, r6⟩ := r5.cons
  obtain ⟨x5, s5, rfl, k5, q5⟩ := dec3 W H enc f5 p5 d5 h5 w5
  obtain ⟨p6, ps6, rfl, ⟨f6, d6, h6, w6⟩, r7⟩ := r6.cons
  obtain ⟨x6, s6, rfl, k6, q6⟩ := dec3 W H enc f6 p6 d6 h6 w6
  obtain rfl := r7.nil
  exact ⟨⟨x0, x1, x2, x3, x4, x5, x6⟩, (), rfl, trivial, q0, q1, q2, q3, q4, q5, q6⟩

def Ok91 (xs : (List Int)) : Prop := (∀ x ∈ xs, Ok49 x) ∧ xs.length * 4 ≤ 140737488351232
set_option maxRecDepth 100000 in
theorem dec91 (W : World) : Dec Tryz.prog W 91 (fun (xs : (List Int)) s => [slcV s xs.length]) (fun (xs : (List Int)) s => Row 1 (pl (encI .u32)) noK s xs) Ok91 := Dec.slice 0 () (by kernel_rfl) (by kernel_rfl) (by decide) (fun _ _ => rfl) (by kernel_rfl : _ = 4) (dec49 W)

def Ok93 (x : api_Seg) : Prop := Ok3 x.Vid ∧ Ok3 x.Vni ∧ Ok91 x.Peers
set_option maxRecDepth 100000 in
theorem dec93 (W : World) : Dec Tryz.prog W 93 api_Seg.encS api_Seg.inK Ok93 := fun H enc fuel cs d h hw => by
  obtain ⟨ps, r0, rfl⟩ := Dec.fields [3, 3, 91] Tryz.underlying93 (by kernel_rfl) (by kernel_rfl) h hw
  obtain ⟨p0, ps0, rfl, ⟨f0, d0, h0, w0⟩, r1⟩ := r0.cons
  obtain ⟨x0, s0, rfl, k0, q0⟩ := dec3 W H enc f0 p0 d0 h0 w0
  obtain ⟨p1, ps1, rfl, ⟨f1, d1, h1, w1⟩, r2⟩ := r1.cons
  obtain ⟨x1, s1, rfl, k1, q1⟩ := dec3 W H enc f1 p1 d1 h1 w1
  obtain ⟨p2, ps2, rfl, ⟨f2, d2, h2, w2⟩, r3⟩ := r2.cons
  obtain ⟨x2, s2, rfl, k2, q2⟩ := dec91 W H enc f2 p2 d2 h2 w2
  obtain rfl := r3.nil
  exact ⟨⟨x0, x1, x2⟩, s2, rfl, k2, q0, q1, q2⟩
theorem up93 : Up api_Seg.inK := fun x s w w' h k => (Up.row Up.no) x.Peers s w w' h k

def Ok70 (xs : (List api_Seg)) : Prop := (∀ x ∈ xs, Ok93 x) ∧ xs.length * 40 ≤ 140737488351232
set_option maxRecDepth 100000 in
theorem dec70 (W : World) : Dec Tryz.prog W 70 (fun (xs : (List api_Seg)) s => [slcV s xs.length]) (fun (xs : (List api_Seg)) s => Row 3 api_Seg.encS api_Seg.inK s xs) Ok70 := Dec.slice (api_Seg.mk 0 0 ([] : List Int)) (SkL.nil (fun _ => ())) (by kernel_rfl) (by kernel_rfl) (by decide) (fun _ _ => rfl) (by kernel_rfl : _ = 40) (dec93 W)

def Ok160 (x : api_Net) : Prop := Ok49 x.Ip ∧ Ok3 x.Bits
set_option maxRecDepth 100000 in
theorem dec160 (W : World) : Dec Tryz.prog W 160 (pl api_Net.enc) noK Ok160 := fun H enc fuel cs d h hw => by
  obtain ⟨ps, r0, rfl⟩ := Dec.fields [49, 3] Tryz.underlying160 (by kernel_rfl) (by kernel_rfl) h hw
  obtain ⟨p0, ps0, rfl, ⟨f0, d0, h0, w0⟩, r1⟩ := r0.cons
  obtain ⟨x0, s0, rfl, k0, q0⟩ := dec49 W H enc f0 p0 d0 h0 w0
  obtain ⟨p1, ps1, rfl, ⟨f1, d1, h1, w1⟩, r2⟩ := r1.cons
  obtain ⟨x1, s1, rfl, k1, q1⟩ := dec3 W H enc f1 p1 d1 h1 w1
  obtain rfl := r2.nil
  exact ⟨⟨x0, x1⟩, (), rfl, trivial, q0, q1⟩

def Ok162 (x : api_Route) : Prop := Ok160 x.To ∧ Ok49 x.Via
set_option maxRecDepth 100000 in
theorem dec162 (W : World) : Dec Tryz.prog W 162 (pl api_Route.enc) noK Ok162 := fun H enc fuel cs d h hw => by
  obtain ⟨ps, r0, rfl⟩ := Dec.fields [160, 49] Tryz.underlying162 (by kernel_rfl) (by kernel_rfl) h hw
  obtain ⟨p0, ps0, rfl, ⟨f0, d0, h0, w0⟩, r1⟩ := r0.cons
  obtain ⟨x0, s0, rfl, k0, q0⟩ := dec160 W H enc f0 p0 d0 h0 w0
  obtain ⟨p1, ps1, rfl, ⟨f1, d1, h1, w1⟩, r2⟩ := r1.cons
  obtain ⟨x1, s1, rfl, k1, q1⟩ := dec49 W H enc f1 p1 d1 h1 w1
  obtain rfl := r2.nil
  exact ⟨⟨x0, x1⟩, (), rfl, trivial, q0, q1⟩

def Ok71 (xs : (List api_Route)) : Prop := (∀ x ∈ xs, Ok162 x) ∧ xs.length * 24 ≤ 140737488351232
set_option maxRecDepth 100000 in
theorem dec71 (W : World) : Dec Tryz.prog W 71 (fun (xs : (List api_Route)) s => [slcV s xs.length]) (fun (xs : (List api_Route)) s => Row 3 (pl api_Route.enc) noK s xs) Ok71 := Dec.slice (api_Route.mk (api_Net.mk 0 0) 0) () (by kernel_rfl) (by kernel_rfl) (by decide) (fun _ _ => rfl) (by kernel_rfl : _ = 24) (dec162 W)

def Ok73 (x : api_Gate) : Prop := Ok36 x.Bridge ∧ Ok36 x.Mac ∧ Ok49 x.Ip ∧ Ok64 x.Ports ∧ Ok65 x.Edges ∧ Ok67 x.Keep ∧ Ok69 x.Near ∧ Ok3 x.Heard ∧ Ok70 x.Segs ∧ Ok71 x.Routes ∧ Ok3 x.Most ∧ Ok4 x.Answers
set_option maxRecDepth 100000 in
theorem dec73 (W : World) : Dec Tryz.prog W 73 api_Gate.encS api_Gate.inK Ok73 := fun H enc fuel cs d h hw => by
  obtain ⟨ps, r0, rfl⟩ := Dec.fields [36, 36, 49, 64, 65, 67, 69, 3, 70, 71, 3, 4] Tryz.underlying73 (by kernel_rfl) (by kernel_rfl) h hw
  obtain ⟨p0, ps0, rfl, ⟨f0, d0, h0, w0⟩, r1⟩ := r0.cons
  obtain ⟨x0, s0, rfl, k0, q0⟩ := dec36 W H enc f0 p0 d0 h0 w0
  obtain ⟨p1, ps1, rfl, ⟨f1, d1, h1, w1⟩, r2⟩ := r1.cons
  obtain ⟨x1, s1, rfl, k1, q1⟩ := dec36 W H enc f1 p1 d1 h1 w1
  obtain ⟨p2, ps2, rfl, ⟨f2, d2, h2, w2⟩, r3⟩ := r2.cons
  obtain ⟨x2, s2, rfl, k2, q2⟩ := dec49 W H enc f2 p2 d2 h2 w2
  obtain ⟨p3, ps3, rfl, ⟨f3, d3, h3, w3⟩, r4⟩ := r3.cons
  obtain ⟨x3, s3, rfl, k3, q3⟩ := dec64 W H enc f3 p3 d3 h3 w3
  obtain ⟨p4, ps4, rfl, ⟨f4, d4, h4, w4⟩, r5⟩ := r4.cons
  obtain ⟨x4, s4, rfl, k4, q4⟩ := dec65 W H enc f4 p4 d4 h4 w4
  obtain ⟨p5, ps5, rfl, ⟨f5, d5, h5, w5⟩, r6⟩ := r5.cons
  obtain ⟨x5, s5, rfl, k5, q5⟩ := dec67 W H enc f5 p5 d5 h5 w5
  obtain ⟨p6, ps6, rfl, ⟨f6, d6, h6, w6⟩, r7⟩ := r6.cons
  obtain ⟨x6, s6, rfl, k6, q6⟩ := dec69 W H enc f6 p6 d6 h6 w6
  obtain ⟨p7, ps7, rfl, ⟨f7, d7, h7, w7⟩, r8⟩ := r7.cons
  obtain ⟨x7, s7, rfl, k7, q7⟩ := dec3 W H enc f7 p7 d7 h7 w7
  obtain ⟨p8, ps8, rfl, ⟨f8, d8, h8, w8⟩, r9⟩ := r8.cons
  obtain ⟨x8, s8, rfl, k8, q8⟩ := dec70 W H enc f8 p8 d8 h8 w8
  obtain ⟨p9, ps9, rfl, ⟨f9, d9, h9, w9⟩, r10⟩ := r9.cons
  obtain ⟨x9, s9, rfl, k9, q9⟩ := dec71 W H enc f9 p9 d9 h9 w9
  obtain ⟨p10, ps10, rfl, ⟨f10, d10, h10, w10⟩, r11⟩ := r10.cons
  obtain ⟨x10, s10, rfl, k10, q10⟩ := dec3 W H enc f10 p10 d10 h10 w10
  obtain ⟨p11, ps11, rfl, ⟨f11, d11, h11, w11⟩, r12⟩ := r11.cons
  obtain ⟨x11, s11, rfl, k11, q11⟩ := dec4 W H enc f11 p11 d11 h11 w11
  obtain rfl := r12.nil
  exact ⟨⟨x0, x1, x2, x3, x4, x5, x6, x7, x8, x9, x10, x11⟩, (s3, s4, s8, s9), rfl, ⟨k3, k4, k8, k9⟩, q0, q1, q2, q3, q4, q5, q6, q7, q8, q9, q10, q11⟩
theorem up73 : Up api_Gate.inK := fun x s w w' h k => ⟨(Up.row up84) x.Ports s.1 w w' h k.1, (Up.row Up.no) x.Edges s.2.1 w w' h k.2.1, (Up.row up93) x.Segs s.2.2.1 w w' h k.2.2.1, (Up.row Up.no) x.Routes s.2.2.2 w w' h k.2.2.2⟩

def Ok22 (xs : (List api_Gate)) : Prop := (∀ x ∈ xs, Ok73 x) ∧ xs.length * 232 ≤ 140737488351232
set_option maxRecDepth 100000 in
theorem dec22 (W : World) : Dec Tryz.prog W 22 (fun (xs : (List api_Gate)) s => [slcV s xs.length]) (fun (xs : (List api_Gate)) s => Row 21 api_Gate.encS api_Gate.inK s xs) Ok22 := Dec.slice (api_Gate.mk 0 0 0 ([] : List api_PortCfg) ([] : List Bool) (api_Keep.mk 0 0 0 0) (api_Near.mk 0 0 0 0 0 0 0) 0 ([] : List api_Seg) ([] : List api_Route) 0 false) ((SkL.nil (fun _ => (SkL.nil (fun _ => ())))), (SkL.nil (fun _ => ())), (SkL.nil (fun _ => (SkL.nil (fun _ => ())))), (SkL.nil (fun _ => ()))) (by kernel_rfl) (by kernel_rfl) (by decide) (fun _ _ => rfl) (by kernel_rfl : _ = 232) (dec73 W)

def Ok9 (s : ByteArray) : Prop := s.size ≤ 140737488351232
theorem dec9 (W : World) : Dec Tryz.prog W 9 (pl encS) noK Ok9 := Dec.str Tryz.underlying9

def Ok28 (x : api_Event) : Prop := Ok4 x.In ∧ Ok3 x.Gate ∧ Ok3 x.Port ∧ Ok9 x.S
set_option maxRecDepth 100000 in
theorem dec28 (W : World) : Dec Tryz.prog W 28 (pl api_Event.enc) noK Ok28 := fun H enc fuel cs d h hw => by
  obtain ⟨ps, r0, rfl⟩ := Dec.fields [4, 3, 3, 9] Tryz.underlying28 (by kernel_rfl) (by kernel_rfl) h hw
  obtain ⟨p0, ps0, rfl, ⟨f0, d0, h0, w0⟩, r1⟩ := r0.cons
  obtain ⟨x0, s0, rfl, k0, q0⟩ := dec4 W H enc f0 p0 d0 h0 w0
  obtain ⟨p1, ps1, rfl, ⟨f1, d1, h1, w1⟩, r2⟩ := r1.cons
  obtain ⟨x1, s1, rfl, k1, q1⟩ := dec3 W H enc f1 p1 d1 h1 w1
  obtain ⟨p2, ps2, rfl, ⟨f2, d2, h2, w2⟩, r3⟩ := r2.cons
  obtain ⟨x2, s2, rfl, k2, q2⟩ := dec3 W H enc f2 p2 d2 h2 w2
  obtain ⟨p3, ps3, rfl, ⟨f3, d3, h3, w3⟩, r4⟩ := r3.cons
  obtain ⟨x3, s3, rfl, k3, q3⟩ := dec9 W H enc f3 p3 d3 h3 w3
  obtain rfl := r4.nil
  exact ⟨⟨x0, x1, x2, x3⟩, (), rfl, trivial, q0, q1, q2, q3⟩

def Ok23 (xs : (List api_Event)) : Prop := (∀ x ∈ xs, Ok28 x) ∧ xs.length * 40 ≤ 140737488351232
set_option maxRecDepth 100000 in
theorem dec23 (W : World) : Dec Tryz.prog W 23 (fun (xs : (List api_Event)) s => [slcV s xs.length]) (fun (xs : (List api_Event)) s => Row 4 (pl api_Event.enc) noK s xs) Ok23 := Dec.slice (api_Event.mk false 0 0 (⟨#[]⟩ : ByteArray)) () (by kernel_rfl) (by kernel_rfl) (by decide) (fun _ _ => rfl) (by kernel_rfl : _ = 40) (dec28 W)
end Go.Proofs.YtbbekdmndifkpaaGreatDoor

namespace Go.Proofs.YtbbekdmndifkpaaGreatDoor
open Go Eng
set_option linter.unusedVariables false
set_option linter.unusedSimpArgs false

/-! ### Get -/
theorem mul_or {a c : Nat} (ha : a < 72057594037927936) (hc : c < 256) : bOr .u64 (u64 ((a : Int) * 256)) (u64 (c : Int)) = ((a * 256 + c : Nat) : Int) := by
  rw [u64_id (by omega), u64_id (by omega)]
  have e : ((a : Int) * 256) = ((a * 256 : Nat) : Int) := by omega
  rw [e]
  have h1 : a * 256 < 2 ^ 64 := by omega
  have h2 : c < 2 ^ 64 := by omega
  have h3 := bOr_u64 h1 h2
  rw [h3]
  have h4 := or_add 8 (x := a) (y := c) (by omega)
  rw [show (2 : Nat) ^ 8 = 256 from rfl] at h4
  rw [h4]
theorem get_loop (r : ByteArray) (n : Nat) (hn : n ≤ 8) (hr : r.size = n) : ∀ (j i fuel : Nat), i + j = n → j < fuel → octets_Get.l1 n r fuel ((beV ((L r).take i) : Nat) : Int) i = some (((beV (L r) : Nat) : Int), 0)
  | 0, i, 0, hij, hf => by omega
  | 0, i, fuel + 1, hij, hf => by
    obtain rfl : i = n := by omega
    simp only [octets_Get.l1]
    rw [show decide ((i : Int) < (i : Int)) = false by simp]
    rw [List.take_of_length_le (by rw [L_length]; omega)]
    rfl
  | j + 1, i, 0, hij, hf => by omega
  | j + 1, i, fuel + 1, hij, hf => by
    simp only [octets_Get.l1]
    rw [show decide ((i : Int) < (n : Int)) = true by simp; omega]
    simp only [cond_true]
    have hlen : i < (L r).length := by rw [L_length]; omega
    have hidx : idxS r i = some (((L r)[i].toNat : Nat) : Int) := by
      unfold idxS
      rw [if_pos (by omega)]
      have : (r.data[(i : Int).toNat]?) = some (L r)[i] := by
        rw [← Array.getElem?_toList]
        exact List.getElem?_eq_getElem hlen
      rw [this]; rfl
    rw [hidx, Option.bind_some]
    have ht : (L r).take (i + 1) = (L r).take i ++ [(L r)[i]] := by rw [List.take_append_getElem]
    have hb := beV_lt ((L r).take i)
    rw [List.length_take, Nat.min_eq_left (by omega)] at hb
    have hp : 256 ^ i ≤ 256 ^ 7 := Nat.pow_le_pow_right (by decide) (by omega)
    have h7 : (256 : Nat) ^ 7 = 72057594037927936 := by decide
    have hc := (L r)[i].toNat_lt
    have hval : beV ((L r).take (i + 1)) = beV ((L r).take i) * 256 + (L r)[i].toNat := by
      rw [ht]
      show List.foldl _ 0 (_ ++ _) = _
      rw [List.foldl_append]
      rfl
    have hstep := mul_or (a := beV ((L r).take i)) (c := (L r)[i].toNat) (by omega) (by omega)
    rw [← hval] at hstep
    rw [hstep, i64_id (by omega)]
    have := get_loop r n hn hr j (i + 1) fuel (by omega) (by omega)
    exact this

theorem part_in (s : ByteArray) (o n : Nat) (h : o + n ≤ s.size) (hs : s.size ≤ 140737488351232) : octets_part.f s o n = some (s.extract o (o + n), none) := by
  simp only [octets_part.f]
  rw [show ((decide ((o : Int) < 0)) || (decide ((n : Int) < 0))) = false by simp]
  simp only [cond_false]
  rw [i64_id (by omega), i64_id (by omega)]
  rw [show ((decide ((o : Int) > (s.size : Int))) || (decide ((n : Int) > (s.size : Int) - (o : Int)))) = false by simp; omega]
  simp only [cond_false]
  rw [sliceS_eq (by omega)]
  rfl
theorem part_out (s : ByteArray) (o n : Nat) (h : s.size < o + n) (hs : s.size ≤ 140737488351232) : octets_part.f s o n = some ((⟨#[]⟩ : ByteArray), some ((o : Int), 10)) := by
  simp only [octets_part.f]
  rw [show ((decide ((o : Int) < 0)) || (decide ((n : Int) < 0))) = false by simp]
  simp only [cond_false]
  by_cases ho : s.size < o
  · rw [show decide ((o : Int) > (s.size : Int)) = true by simp; omega]
    rfl
  · rw [i64_id (by omega)]
    rw [show ((decide ((o : Int) > (s.size : Int))) || (decide ((n : Int) > (s.size : Int) - (o : Int)))) = true by simp; omega]
    rfl

theorem get_in (s : ByteArray) (o n : Nat) (hn : 1 ≤ n ∧ n ≤ 8) (h : o + n ≤ s.size) (hs : s.size ≤ 140737488351232) : octets_Get.f 2000 s o n = some (((beV (((L s).drop o).take n) : Nat) : Int), 0) := by
  simp only [octets_Get.f]
  rw [show ((decide ((n : Int) < 1)) || (decide ((n : Int) > 8))) = false by simp; omega]
  simp only [cond_false]
  rw [part_in s o n h hs, Option.bind_some]
  have e : L (s.extract o (o + n)) = ((L s).drop o).take n := by rw [L_extract]; congr 1; omega
  have hz : (s.extract o (o + n)).size = n := by rw [← L_length, e]; simp [L_length]; omega
  have := get_loop (s.extract o (o + n)) n (by omega) hz n 0 2000 (by omega) (by omega)
  rw [e] at this
  exact this
theorem get_out (s : ByteArray) (o n : Nat) (hn : 1 ≤ n ∧ n ≤ 8) (h : s.size < o + n) (hs : s.size ≤ 140737488351232) : octets_Get.f 2000 s o n = some (0, 10) := by
  simp only [octets_Get.f]
  rw [show ((decide ((n : Int) < 1)) || (decide ((n : Int) > 8))) = false by simp; omega]
  simp only [cond_false]
  rw [part_out s o n h hs, Option.bind_some]
  rfl
end Go.Proofs.YtbbekdmndifkpaaGreatDoor

namespace Go.Proofs.YtbbekdmndifkpaaGreatDoor
open Go Eng
set_option linter.unusedVariables false
set_option linter.unusedSimpArgs false

def tag0 : api_Tag := ⟨false, 0, false, 0⟩
def frame0 : api_Frame := ⟨0, 0, tag0, 0, ⟨#[]⟩⟩

/-! ### Build -/
end Go.Proofs.YtbbekdmndifkpaaGreatDoor

namespace Go.Proofs.YtbbekdmndifkpaaGreatDoor
open Go Eng
set_option linter.unusedVariables false
set_option linter.unusedSimpArgs false

theorem rget_in (s : ByteArray) (o n : Nat) (oi ni : Int) (ho : oi = o) (hni : ni = n) (nm : ByteArray) (hn : 1 ≤ n ∧ n ≤ 8) (h : o + n ≤ s.size) (hs : s.size ≤ 1600) :
    ether_reader_get.f 2000 ⟨s, oi⟩ ni nm = some (((beV (((L s).drop o).take n) : Nat) : Int), none, ⟨s, ((o + n : Nat) : Int)⟩) := by
  subst ho; subst hni
  unfold ether_reader_get.f
  simp only
  rw [get_in s o n hn h (by omega), Option.bind_some]
  simp only [bne_self_eq_false, cond_false]
  rw [i64_id (by omega)]
  rfl
theorem rget_out (s : ByteArray) (o n : Nat) (oi ni : Int) (ho : oi = o) (hni : ni = n) (nm : ByteArray) (hn : 1 ≤ n ∧ n ≤ 8) (h : s.size < o + n) (hs : s.size ≤ 1600) :
    ether_reader_get.f 2000 ⟨s, oi⟩ ni nm = some (0, some (nm, 40), ⟨s, oi⟩) := by
  subst ho; subst hni
  unfold ether_reader_get.f
  simp only
  rw [get_out s o n hn h (by omega), Option.bind_some]
  rfl

/-- What the reader ends with, as a Parse: the frame, or why there is none. -/
def ends (x : api_Frame × Un1 × ether_reader) : api_Frame × Int := match x.2.1 with
  | none => (x.1, 0)
  | some (_, e) => (frame0, e)

theorem parse_of (s : ByteArray) (hs : s.size ≤ 1600) (x : api_Frame × Un1 × ether_reader) (h : ether_reader_frame.f 2000 ⟨s, 0⟩ = some x) : ether_Parse.f 2000 s = some (ends x) := by
  unfold ether_Parse.f
  rw [show decide ((s.size : Int) > 1600) = false by simp; omega]
  simp only [cond_false]
  rw [h, Option.bind_some]
  obtain ⟨g, u, r⟩ := x
  rcases u with _ | ⟨q, e⟩
  · rfl
  · simp only [ends]
    by_cases he : e = 40
    · subst he; rfl
    · have h1 : errors_Is_1.f q e 40 = some false := by
        unfold errors_Is_1.f errors_is.f ether_odd_Unwrap.f
        rw [Option.bind_some]
        rw [show (true && (e == 40)) = false by simp [he]]
        rfl
      rw [h1, Option.bind_some]
      rfl

/-- The number behind the two addresses (and the tag). -/
def bodyR (s : ByteArray) (p : Nat) (a : api_Frame) (n : Nat) : api_Frame × Int :=
  if n = 33024 ∨ (1500 < n ∧ n < 1536) then (frame0, 41)
  else if 1500 < n then (⟨a.Dst, a.Src, a.Tag, n, s.extract p s.size⟩, 0)
  else if s.size < p + n then (frame0, 40)
  else (⟨a.Dst, a.Src, a.Tag, a.Type_, (s.extract p s.size).extract 0 n⟩, 0)

theorem body_spec (s : ByteArray) (p n : Nat) (pi ni : Int) (hpi : pi = p) (hni : ni = n) (a : api_Frame) (hp : p ≤ s.size) (hs : s.size ≤ 1600) (r : ether_reader) :
    ∃ u g, ether_reader_body.f ⟨s, pi⟩ a ni = some (u, g) ∧ ends (g, u, r) = bodyR s p a n := by
  subst hpi; subst hni
  unfold ether_reader_body.f
  simp only
  rw [sliceS_eq (by omega), Option.bind_some]
  simp only [Int.toNat_natCast]
  have hz : (s.extract p s.size).size = s.size - p := by simp
  by_cases h1 : n = 33024
  · subst h1
    refine ⟨_, _, rfl, ?_⟩
    simp [ends, bodyR]
  · rw [show (((n : Int)) == 33024) = false by simp; omega]
    simp only [cond_false]
    by_cases h2 : 1500 < n ∧ n < 1536
    · rw [show ((decide ((n : Int) > 1500)) && (decide ((n : Int) < 1536))) = true by simp; omega]
      refine ⟨_, _, rfl, ?_⟩
      simp [ends, bodyR, h2]
    · rw [show ((decide ((n : Int) > 1500)) && (decide ((n : Int) < 1536))) = false by simp; omega]
      simp only [ether_reader_body.k1, cond_false]
      by_cases h3 : 1500 < n
      · rw [show decide ((n : Int) > 1500) = true by simp; omega]
        refine ⟨_, _, rfl, ?_⟩
        simp only [ends, bodyR]
        rw [if_neg (by omega), if_pos h3]
      · rw [show decide ((n : Int) > 1500) = false by simp; omega]
        simp only [cond_false]
        by_cases h4 : s.size < p + n
        · rw [show decide ((n : Int) > ((s.extract p s.size).size : Int)) = true by rw [hz]; simp; omega]
          refine ⟨_, _, rfl, ?_⟩
          simp only [ends, bodyR]
          rw [if_neg (by omega), if_neg h3, if_pos h4]
        · rw [show decide ((n : Int) > ((s.extract p s.size).size : Int)) = false by rw [hz]; simp; omega]
          simp only [cond_false]
          rw [sliceS_eq (by rw [hz]; omega), Option.bind_some]
          refine ⟨_, _, rfl, ?_⟩
          simp only [ends, bodyR]
          rw [if_neg (by omega), if_neg h3, if_neg h4]
          rfl

theorem k1_spec (s : ByteArray) (p n : Nat) (pi ni d e : Int) (hpi : pi = p) (hni : ni = n) (t : api_Tag) (hp : p ≤ s.size) (hs : s.size ≤ 1600) :
    ∃ x, ether_reader_frame.k1 none ni s pi d e t.Has t.Pri t.Dei t.Vid 0 ⟨#[]⟩ = some x ∧ ends x = bodyR s p ⟨d, e, t, 0, ⟨#[]⟩⟩ n := by
  obtain ⟨u, g, h, he⟩ := body_spec s p n pi ni hpi hni ⟨d, e, t, 0, ⟨#[]⟩⟩ hp hs ⟨s, pi⟩
  unfold ether_reader_frame.k1
  simp only
  rw [h, Option.bind_some]
  rcases u with _ | ⟨q, w⟩
  · exact ⟨_, rfl, he⟩
  · exact ⟨_, rfl, he⟩

def at2 (s : ByteArray) (o n : Nat) : Nat := beV (((L s).drop o).take n)
def tagOf (v : Nat) : api_Tag := ⟨true, ((v / 8192 : Nat) : Int), decide (v / 4096 % 2 = 1), ((v % 4096 : Nat) : Int)⟩

/-- Parse, in plain words. -/
def parseR (s : ByteArray) : api_Frame × Int :=
  if 1600 < s.size then (frame0, 41)
  else if s.size < 14 then (frame0, 40)
  else if at2 s 12 2 = 33024 then
    (if s.size < 18 then (frame0, 40) else bodyR s 18 ⟨(at2 s 0 6 : Nat), (at2 s 6 6 : Nat), tagOf (at2 s 14 2), 0, ⟨#[]⟩⟩ (at2 s 16 2))
  else bodyR s 14 ⟨(at2 s 0 6 : Nat), (at2 s 6 6 : Nat), tag0, 0, ⟨#[]⟩⟩ (at2 s 12 2)

theorem at2_lt (s : ByteArray) (o n : Nat) : at2 s o n < 256 ^ n := by
  refine Nat.lt_of_lt_of_le (beV_lt _) (Nat.pow_le_pow_right (by decide) ?_)
  rw [List.length_take]; omega

theorem tagOf_spec (v : Nat) (hv : v < 65536) : (⟨true, Int.fdiv (i64 (v : Int)) 8192, (bAnd .i64 (i64 (v : Int)) 4096) != 0, Int.tmod (i64 (v : Int)) 4096⟩ : api_Tag) = tagOf v := by
  rw [i64_id (by omega), bAnd_4096 (by omega)]
  unfold tagOf
  have e1 : Int.fdiv (v : Int) 8192 = ((v / 8192 : Nat) : Int) := by
    rw [Int.fdiv_eq_ediv_of_nonneg _ (by decide)]; omega
  have e2 : Int.tmod (v : Int) 4096 = ((v % 4096 : Nat) : Int) := by
    rw [Int.tmod_eq_emod_of_nonneg (by omega)]; omega
  have e3 : ((((v / 4096 % 2) * 4096 : Nat) : Int) != 0) = decide (v / 4096 % 2 = 1) := by
    rcases Nat.mod_two_eq_zero_or_one (v / 4096) with h | h <;> simp [h]
  rw [e1, e2, e3]

theorem parse_spec (s : ByteArray) : ether_Parse.f 2000 s = some (parseR s) := by
  by_cases hs : 1600 < s.size
  · unfold ether_Parse.f parseR
    rw [if_pos hs, show decide ((s.size : Int) > 1600) = true by simp; omega]
    rfl
  · have hs' : s.size ≤ 1600 := by omega
    suffices h : ∃ x, ether_reader_frame.f 2000 ⟨s, 0⟩ = some x ∧ ends x = parseR s by
      obtain ⟨x, h1, h2⟩ := h
      rw [parse_of s hs' x h1, h2]
    unfold ether_reader_frame.f
    by_cases h6 : s.size < 6
    · rw [rget_out s 0 6 0 6 rfl rfl _ (by omega) (by omega) hs', Option.bind_some]
      refine ⟨_, rfl, ?_⟩
      simp only [ends, parseR]
      rw [if_neg hs, if_pos (by omega)]
    · rw [rget_in s 0 6 0 6 rfl rfl _ (by omega) (by omega) hs', Option.bind_some]
      simp only
      by_cases h12 : s.size < 12
      · rw [rget_out s 6 6 _ 6 rfl rfl _ (by omega) (by omega) hs', Option.bind_some]
        refine ⟨_, rfl, ?_⟩
        simp only [ends, parseR]
        rw [if_neg hs, if_pos (by omega)]
      · rw [rget_in s 6 6 _ 6 rfl rfl _ (by omega) (by omega) hs', Option.bind_some]
        simp only
        by_cases h14 : s.size < 14
        · rw [rget_out s 12 2 _ 2 rfl rfl _ (by omega) (by omega) hs', Option.bind_some]
          refine ⟨_, rfl, ?_⟩
          simp only [ends, parseR]
          rw [if_neg hs, if_pos h14]
        · rw [rget_in s 12 2 _ 2 rfl rfl _ (by omega) (by omega) hs', Option.bind_some]
          simp only
          have h2 := at2_lt s 12 2
          have hi : i64 ((beV (((L s).drop 12).take 2) : Nat) : Int) = ((at2 s 12 2 : Nat) : Int) := i64_id (by unfold at2 at h2; omega)
          rw [hi]
          unfold parseR
          rw [if_neg hs, if_neg h14]
          by_cases h81 : at2 s 12 2 = 33024
          · rw [if_pos h81, h81, show (((33024 : Nat) : Int) == 33024) = true from rfl]
            simp only [cond_true]
            unfold ether_reader_tagged.f
            by_cases h16 : s.size < 16
            · rw [rget_out s 14 2 _ 2 rfl rfl _ (by omega) (by omega) hs', Option.bind_some]
              refine ⟨_, rfl, ?_⟩
              rw [if_pos (by omega)]
              rfl
            · rw [rget_in s 14 2 _ 2 rfl rfl _ (by omega) (by omega) hs', Option.bind_some]
              simp only
              by_cases h18 : s.size < 18
              · rw [rget_out s 16 2 _ 2 rfl rfl _ (by omega) (by omega) hs', Option.bind_some]
                refine ⟨_, rfl, ?_⟩
                rw [if_pos h18]
                rfl
              · rw [rget_in s 16 2 _ 2 rfl rfl _ (by omega) (by omega) hs', Option.bind_some, if_neg h18]
                simp only [Option.bind_some]
                have ht := tagOf_spec (at2 s 14 2) (at2_lt s 14 2)
                have e16 := at2_lt s 16 2
                rw [← ht]
                exact k1_spec s 18 (at2 s 16 2) _ _ _ _ rfl (i64_id (by omega)) (⟨true, Int.fdiv (i64 ((at2 s 14 2 : Nat) : Int)) 8192, (bAnd .i64 (i64 ((at2 s 14 2 : Nat) : Int)) 4096) != 0, Int.tmod (i64 ((at2 s 14 2 : Nat) : Int)) 4096⟩ : api_Tag) (by omega) hs'
          · rw [if_neg h81, show ((((at2 s 12 2 : Nat) : Int)) == 33024) = false by simp; omega]
            simp only [cond_false]
            exact k1_spec s 14 (at2 s 12 2) _ _ _ _ rfl rfl tag0 (by omega) hs'
end Go.Proofs.YtbbekdmndifkpaaGreatDoor

namespace Go.Proofs.YtbbekdmndifkpaaGreatDoor
open Go Eng
set_option linter.unusedVariables false
set_option linter.unusedSimpArgs false

/-! ### What is built is parsed as it was -/
def more (g : api_Frame) (rest : List UInt8) : api_Frame := ⟨g.Dst, g.Src, g.Tag, g.Type_, if g.Type_ = 0 then g.Body else ⟨(L g.Body ++ rest).toArray⟩⟩

theorem L_drop (s : ByteArray) (p : Nat) : L (s.extract p s.size) = (L s).drop p := by
  rw [L_extract, List.take_of_length_le (by rw [List.length_drop, L_length]; exact Nat.le_refl _)]

/-! ### What is parsed may be, and, built, is the beginning of the bytes -/
end Go.Proofs.YtbbekdmndifkpaaGreatDoor

namespace Go.Proofs.YtbbekdmndifkpaaGreatDoor
open Go Eng
set_option linter.unusedVariables false
set_option linter.unusedSimpArgs false


theorem cut_spec (s : ByteArray) (m : Nat) : ∃ t, sliceS s 0 (imin (s.size : Int) m) = some t ∧ t.size ≤ m := by
  refine ⟨s.extract 0 (imin (s.size : Int) m).toNat, sliceS_eq ?_, ?_⟩
  · unfold imin; split <;> omega
  · have : (s.extract 0 (imin (s.size : Int) m).toNat).size = min (imin (s.size : Int) m).toNat s.size - 0 := by simp
    rw [this]
    unfold imin; split <;> omega

end Go.Proofs.YtbbekdmndifkpaaGreatDoor

/- Loops of the models, in general. -/
namespace Go.Proofs.YtbbekdmndifkpaaGreatDoor
open Go Eng
set_option linter.unusedVariables false
set_option linter.unusedSimpArgs false

theorem getL_at {α : Type} {xs : List α} {i : Nat} (h : i < xs.length) : getL xs.length xs (i : Int) = some xs[i] := by
  unfold getL
  rw [if_pos (by omega), Int.toNat_natCast, List.getElem?_eq_getElem h]
theorem lt_t {i n : Nat} (h : i < n) : decide ((i : Int) < (n : Int)) = true := by simp; omega
theorem lt_f {i n : Nat} (h : n ≤ i) : decide ((i : Int) < (n : Int)) = false := by simp; omega
theorem i64_next {i : Nat} (h : i ≤ 1000000) : i64 ((i : Int) + 1) = ((i + 1 : Nat) : Int) := by rw [i64_id (by omega)]; omega
theorem room_ok {b n : Nat} (h : n * b ≤ 140737488355328) (h2 : n ≤ 4611686018427387904) : roomL b n = some () := if_pos ⟨h, h2⟩
theorem imin_le (n : Nat) (m : Nat) : ∃ k : Nat, imin (n : Int) (m : Int) = k ∧ k ≤ n ∧ k ≤ m := by
  by_cases h : n ≤ m
  · exact ⟨n, by unfold imin; split <;> omega, Nat.le_refl _, h⟩
  · exact ⟨m, by unfold imin; split <;> omega, by omega, Nat.le_refl _⟩
theorem sliceL_take {α : Type} {l : List α} {m : Nat} (h : m ≤ l.length) : sliceL l 0 (m : Int) = some (l.take m) := by
  unfold sliceL
  rw [if_pos (by omega)]
  simp

/-- A loop over i, up to len: where the rest is told, a round is. -/
theorem loop_tot {σ α : Type} {P : α → Prop} (len : Nat) (I : Nat → σ → Prop) (f : Nat → σ → Nat → Option α) (hend : ∀ n st, I len st → ∃ r, f (n + 1) st len = some r ∧ P r)
    (hstep : ∀ n i st, i < len → I i st → (∀ st', I (i + 1) st' → ∃ r, f n st' (i + 1) = some r ∧ P r) → ∃ r, f (n + 1) st i = some r ∧ P r) : ∀ (j i fuel : Nat) (st : σ), i + j = len → j < fuel → I i st → ∃ r, f fuel st i = some r ∧ P r
  | _, _, 0, _, _, h, _ => by omega
  | 0, i, fuel + 1, st, e, _, hI => by
    obtain rfl : i = len := by omega
    exact hend fuel st hI
  | j + 1, i, fuel + 1, st, e, h, hI => hstep fuel i st (by omega) hI fun st' h' => loop_tot len I f hend hstep j (i + 1) fuel st' (by omega) (by omega) h'
theorem loop_tot0 {σ α : Type} {P : α → Prop} (len : Nat) (I : Nat → σ → Prop) (f : Nat → σ → Nat → Option α) (hend : ∀ n st, I len st → ∃ r, f (n + 1) st len = some r ∧ P r)
    (hstep : ∀ n i st, i < len → I i st → (∀ st', I (i + 1) st' → ∃ r, f n st' (i + 1) = some r ∧ P r) → ∃ r, f (n + 1) st i = some r ∧ P r) {fuel : Nat} (st : σ) (h : len < fuel) (hI : I 0 st) : ∃ r, f fuel st 0 = some r ∧ P r :=
  loop_tot len I f hend hstep len 0 fuel st (by omega) h hI
end Go.Proofs.YtbbekdmndifkpaaGreatDoor

/- What any gateways are bound to, and that whether they may work together is answered. -/
namespace Go.Proofs.YtbbekdmndifkpaaGreatDoor
open Go Eng
set_option linter.unusedVariables false
set_option linter.unusedSimpArgs false

theorem bound21_spec (l : List api_Seg) : ∃ r, gangwaylaw21_Bound.f 2000 l = some r ∧ r.length ≤ 12 ∧ ∀ s ∈ r, s.Peers.length ≤ 20 := by
  unfold gangwaylaw21_Bound.f
  refine loop_tot0 (P := fun r => r.length ≤ 12 ∧ ∀ s ∈ r, s.Peers.length ≤ 20) 12 (fun i (out : List api_Seg) => out.length = i ∧ ∀ s ∈ out, s.Peers.length ≤ 20) (fun n out i => gangwaylaw21_Bound.l1 l n out (i : Int)) ?_ ?_ (fuel := 2000) [] (by omega) ⟨rfl, by simp⟩
  · rintro n out ⟨ho, hp⟩
    simp only [gangwaylaw21_Bound.l1]
    rw [show decide (((12 : Nat) : Int) < 12) = false by simp, Bool.and_false, cond_false]
    exact ⟨out, rfl, by omega, hp⟩
  · rintro n i out hi ⟨ho, hp⟩ hk
    simp only [gangwaylaw21_Bound.l1]
    rw [show decide ((i : Int) < 12) = true by simp; omega, Bool.and_true]
    by_cases hlt : i < l.length
    · rw [lt_t hlt, cond_true, getL_at hlt, Option.bind_some]
      generalize l[i] = s
      obtain ⟨m, hm, hm1, hm2⟩ := imin_le s.Peers.length 20
      rw [show imin (s.Peers.length : Int) 20 = (m : Int) from hm, sliceL_take hm1, Option.bind_some]
      have htl : (s.Peers.take m).length ≤ 20 := by rw [List.length_take]; omega
      have hol : (out ++ [(⟨s.Vid, s.Vni, s.Peers.take m⟩ : api_Seg)]).length = i + 1 := by rw [List.length_append, ho]; rfl
      rw [room_ok (by omega) (by omega), Option.bind_some, room_ok (by omega) (by omega), Option.bind_some, i64_next (by omega)]
      refine hk _ ⟨hol, fun q hq => ?_⟩
      rw [List.mem_append, List.mem_singleton] at hq
      rcases hq with hq | rfl
      · exact hp q hq
      · exact htl
    · rw [lt_f (by omega), cond_false]
      exact ⟨out, rfl, by omega, hp⟩

/-- What a gateway is bound to. -/
structure GateOk (g : api_Gate) : Prop where
  ports : g.Ports.length ≤ 5
  vids : ∀ p ∈ g.Ports, p.Vids.length ≤ 12
  edges : g.Edges.length ≤ 5
  segs : g.Segs.length ≤ 12
  peers : ∀ s ∈ g.Segs, s.Peers.length ≤ 20
  routes : g.Routes.length ≤ 8

theorem bound16_spec (a : Bool) (b : Int) (l : List Int) : ∃ p, gangwaylaw16_Bound.f a b l = some p ∧ p.Vids.length ≤ 12 := by
  unfold gangwaylaw16_Bound.f
  obtain ⟨m, hm, hm1, hm2⟩ := imin_le l.length 12
  rw [show imin (l.length : Int) 12 = (m : Int) from hm, sliceL_take hm1, Option.bind_some]
  have htl : (l.take m).length ≤ 12 := by rw [List.length_take]; omega
  rw [room_ok (by omega) (by omega), Option.bind_some]
  exact ⟨_, rfl, htl⟩

theorem bound24_k1 (a0_4 : List Bool) (a0_8 : List api_Seg) (a0_9 : List api_Route) (a0 a0_1 a0_2 : Int) (a0_5 : api_Keep) (a0_6 : api_Near) (a0_7 a0_10 : Int) (a0_11 : Bool) (ps : List api_PortCfg) (h1 : ps.length ≤ 5) (h2 : ∀ p ∈ ps, p.Vids.length ≤ 12) :
    ∃ g, gangwaylaw24_Bound.k1 a0_4 2000 a0_8 a0_9 a0 a0_1 a0_2 a0_5 a0_6 a0_7 a0_10 a0_11 ps = some g ∧ GateOk g := by
  unfold gangwaylaw24_Bound.k1
  obtain ⟨m, hm, hm1, hm2⟩ := imin_le a0_4.length 5
  rw [show imin (a0_4.length : Int) 5 = (m : Int) from hm, sliceL_take hm1, Option.bind_some]
  have htl : (a0_4.take m).length ≤ 5 := by rw [List.length_take]; omega
  rw [room_ok (by omega) (by omega), Option.bind_some]
  obtain ⟨ss, hs, hs1, hs2⟩ := bound21_spec a0_8
  rw [hs, Option.bind_some]
  obtain ⟨n, hn, hn1, hn2⟩ := imin_le a0_9.length 8
  rw [show imin (a0_9.length : Int) 8 = (n : Int) from hn, sliceL_take hn1, Option.bind_some]
  have htn : (a0_9.take n).length ≤ 8 := by rw [List.length_take]; omega
  rw [room_ok (by omega) (by omega), Option.bind_some]
  exact ⟨_, rfl, ⟨h1, h2, htl, hs1, hs2, htn⟩⟩

theorem lt_lit (n m : Nat) : decide ((m : Int) < (n : Int)) = decide (m < n) := by
  by_cases h : m < n
  · rw [decide_eq_true h]; exact lt_t h
  · rw [decide_eq_false h]; exact lt_f (by omega)

theorem bound24_spec (g : api_Gate) : ∃ r, gangwaylaw24_Bound.f 2000 g.Bridge g.Mac g.Ip g.Ports g.Edges g.Keep g.Near g.Heard g.Segs g.Routes g.Most g.Answers = some r ∧ GateOk r := by
  have hget : ∀ (i : Nat) (h : i < g.Ports.length), ∃ p, getL g.Ports.length g.Ports (i : Int) = some p := fun i h => ⟨_, getL_at h⟩
  have hb : ∀ p : api_PortCfg, ∃ q, gangwaylaw16_Bound.f p.Trunk p.Pvid p.Vids = some q ∧ q.Vids.length ≤ 12 := fun p => bound16_spec _ _ _
  have e0 := lt_lit g.Ports.length 0
  have e1 := lt_lit g.Ports.length 1
  have e2 := lt_lit g.Ports.length 2
  have e3 := lt_lit g.Ports.length 3
  have e4 := lt_lit g.Ports.length 4
  simp only [gangwaylaw24_Bound.f]
  rw [show decide (0 < (g.Ports.length : Int)) = decide (0 < g.Ports.length) from e0]
  by_cases h0 : 0 < g.Ports.length
  · rw [decide_eq_true h0, cond_true, show getL g.Ports.length g.Ports 0 = some g.Ports[0] from getL_at (i := 0) h0, Option.bind_some]
    obtain ⟨q0, hq0, v0⟩ := hb g.Ports[0]
    rw [hq0, Option.bind_some, room_ok (by simp) (by simp), Option.bind_some, show decide (1 < (g.Ports.length : Int)) = decide (1 < g.Ports.length) from e1]
    by_cases h1 : 1 < g.Ports.length
    · rw [decide_eq_true h1, cond_true, show getL g.Ports.length g.Ports 1 = some g.Ports[1] from getL_at (i := 1) h1, Option.bind_some]
      obtain ⟨q1, hq1, v1⟩ := hb g.Ports[1]
      rw [hq1, Option.bind_some, room_ok (by simp) (by simp), Option.bind_some, show decide (2 < (g.Ports.length : Int)) = decide (2 < g.Ports.length) from e2]
      by_cases h2 : 2 < g.Ports.length
      · rw [decide_eq_true h2, cond_true, show getL g.Ports.length g.Ports 2 = some g.Ports[2] from getL_at (i := 2) h2, Option.bind_some]
        obtain ⟨q2, hq2, v2⟩ := hb g.Ports[2]
        rw [hq2, Option.bind_some, room_ok (by simp) (by simp), Option.bind_some, show decide (3 < (g.Ports.length : Int)) = decide (3 < g.Ports.length) from e3]
        by_cases h3 : 3 < g.Ports.length
        · rw [decide_eq_true h3, cond_true, show getL g.Ports.length g.Ports 3 = some g.Ports[3] from getL_at (i := 3) h3, Option.bind_some]
          obtain ⟨q3, hq3, v3⟩ := hb g.Ports[3]
          rw [hq3, Option.bind_some, room_ok (by simp) (by simp), Option.bind_some, show decide (4 < (g.Ports.length : Int)) = decide (4 < g.Ports.length) from e4]
          by_cases h4 : 4 < g.Ports.length
          · rw [decide_eq_true h4, cond_true, show getL g.Ports.length g.Ports 4 = some g.Ports[4] from getL_at (i := 4) h4, Option.bind_some]
            obtain ⟨q4, hq4, v4⟩ := hb g.Ports[4]
            rw [hq4, Option.bind_some, room_ok (by simp) (by simp), Option.bind_some]
            exact bound24_k1 _ _ _ _ _ _ _ _ _ _ _ _ (by simp) (by simp [v0, v1, v2, v3, v4])
          · rw [decide_eq_false h4, cond_false]; exact bound24_k1 _ _ _ _ _ _ _ _ _ _ _ _ (by simp) (by simp [v0, v1, v2, v3])
        · rw [decide_eq_false h3, cond_false]; exact bound24_k1 _ _ _ _ _ _ _ _ _ _ _ _ (by simp) (by simp [v0, v1, v2])
      · rw [decide_eq_false h2, cond_false]; exact bound24_k1 _ _ _ _ _ _ _ _ _ _ _ _ (by simp) (by simp [v0, v1])
    · rw [decide_eq_false h1, cond_false]; exact bound24_k1 _ _ _ _ _ _ _ _ _ _ _ _ (by simp) (by simp [v0])
  · rw [decide_eq_false h0, cond_false]; exact bound24_k1 _ _ _ _ _ _ _ _ _ _ _ _ (by simp) (by simp)

def GatesOk (l : List api_Gate) : Prop := l.length ≤ 3 ∧ ∀ g ∈ l, GateOk g

theorem bound27_spec (l : List api_Gate) : ∃ r, gangwaylaw27_Bound.f 2000 l = some r ∧ GatesOk r := by
  unfold gangwaylaw27_Bound.f
  refine loop_tot0 (P := GatesOk) 3 (fun i (out : List api_Gate) => out.length = i ∧ ∀ s ∈ out, GateOk s) (fun n out i => gangwaylaw27_Bound.l1 l 2000 n out (i : Int)) ?_ ?_ (fuel := 2000) [] (by omega) ⟨rfl, by simp⟩
  · rintro n out ⟨ho, hp⟩
    simp only [gangwaylaw27_Bound.l1]
    rw [show decide (((3 : Nat) : Int) < 3) = false by simp, Bool.and_false, cond_false]
    exact ⟨out, rfl, by omega, hp⟩
  · rintro n i out hi ⟨ho, hp⟩ hk
    simp only [gangwaylaw27_Bound.l1]
    rw [show decide ((i : Int) < 3) = true by simp; omega, Bool.and_true]
    by_cases hlt : i < l.length
    · rw [lt_t hlt, cond_true, getL_at hlt, Option.bind_some]
      obtain ⟨r, hr, hr2⟩ := bound24_spec l[i]
      rw [hr, Option.bind_some]
      have hol : (out ++ [r]).length = i + 1 := by rw [List.length_append, ho]; rfl
      rw [room_ok (by omega) (by omega), Option.bind_some, i64_next (by omega)]
      refine hk _ ⟨hol, fun q hq => ?_⟩
      rw [List.mem_append, List.mem_singleton] at hq
      rcases hq with hq | rfl
      · exact hp q hq
      · exact hr2
    · rw [lt_f (by omega), cond_false]
      exact ⟨out, rfl, by omega, hp⟩

/-! ### The reference's answer, that there is one -/
theorem among_tot (l : List Int) (a : Int) (h : l.length ≤ 1000) : gangwayref16_among.f 2000 l a = some (decide (a ∈ l)) := by
  unfold gangwayref16_among.f
  have key : ∀ (r pre : List Int) (fuel : Nat), l = pre ++ r → r.length < fuel → gangwayref16_among.l1 l a fuel false (pre.length : Int) = some (decide (a ∈ r)) := by
    intro r
    induction r with
    | nil =>
      intro pre fuel e hf
      obtain ⟨fuel, rfl⟩ : ∃ q, fuel = q + 1 := ⟨fuel - 1, by omega⟩
      subst e
      simp [gangwayref16_among.l1]
    | cons x r ih =>
      intro pre fuel e hf
      obtain ⟨fuel, rfl⟩ : ∃ q, fuel = q + 1 := ⟨fuel - 1, by omega⟩
      have hlen : l.length = pre.length + (r.length + 1) := by rw [e]; simp
      simp only [gangwayref16_among.l1]
      rw [lt_t (by omega), cond_true, getL_at (by omega), Option.bind_some]
      have hx : l[pre.length]'(by omega) = x := by simp [e]
      rw [hx]
      cases hv : (x == a)
      · rw [cond_false, i64_next (by omega)]
        have := ih (pre ++ [x]) fuel (by rw [e]; simp) (by simp at hf; omega)
        rw [List.length_append, List.length_singleton] at this
        rw [this]
        have : a ≠ x := fun e => by simp [e] at hv
        simp [this]
      · rw [cond_true]
        have : x = a := by simpa using hv
        simp [this]
  exact key l [] 2000 rfl (by omega)

theorem right16_tot (a : Bool) (b : Int) (l : List Int) (h : l.length ≤ 100) : ∃ r, gangwayref16_Right.f 2000 a b l = some r := by
  unfold gangwayref16_Right.f
  cases a
  · exact ⟨_, rfl⟩
  · simp only [Bool.not_true, cond_false]
    obtain ⟨r, hr, _⟩ := loop_tot0 (P := fun _ => True) l.length (fun i (st : Int) => True) (fun n st i => gangwayref16_Right.l2 l b 2000 n false st (i : Int)) (fun n st _ => by
      simp only [gangwayref16_Right.l2]
      rw [lt_f (Nat.le_refl _), cond_false]
      cases (b == 0)
      · rw [cond_false, among_tot l b (by omega), Option.bind_some]; exact ⟨_, rfl, trivial⟩
      · exact ⟨_, rfl, trivial⟩) (fun n i st hi _ hk => by
      have hk1 : ∀ a b', ∃ r, gangwayref16_Right.k1 l (i : Int) false (gangwayref16_Right.l2 l b 2000 n) a b' = some r ∧ True := fun a b' => by
        simp only [gangwayref16_Right.k1]
        cases b'
        · rw [cond_false, getL_at hi, Option.bind_some, i64_next (by omega)]
          exact hk _ trivial
        · exact ⟨_, rfl, trivial⟩
      simp only [gangwayref16_Right.l2]
      rw [lt_t hi, cond_true, getL_at hi, Option.bind_some, Option.bind_some]
      cases decide (l[i] ≤ st)
      · rw [cond_false]; exact hk1 _ _
      · rw [cond_true]; exact hk1 _ _) (fuel := 2000) 0 (by omega) trivial
    exact ⟨r, hr⟩

theorem new10_tot (a b : Int) : ∃ r, gangwayref10_New.f a b = some r := by
  unfold gangwayref10_New.f
  cases (((decide (a < 1)) || (decide (a > 4096))) || (decide (b < 1))) || (decide (b > 1099511627776)) <;> exact ⟨_, rfl⟩
theorem new12_tot (a b : Int) : ∃ r, gangwayref12_New.f a b = some r := by
  unfold gangwayref12_New.f
  cases (((decide (a < 1)) || (decide (a > 4096))) || (decide (b < 1))) || (decide (b > 1099511627776)) <;> exact ⟨_, rfl⟩
theorem new11_tot (a : api_Keep) : ∃ r, gangwayref11_New.f a = some r := by
  unfold gangwayref11_New.f
  obtain ⟨r, hr⟩ := new10_tot a.Room a.Life
  rw [hr, Option.bind_some]
  cases (((((r != 0) || (decide (a.Moves < 0))) || (decide (a.Moves > 64))) || (decide (a.Window < 1))) || (decide (a.Window > 1099511627776))) <;> exact ⟨_, rfl⟩
theorem own_tot (a : Int) : ∃ r, gangwayref02_Own.f a = some r := by
  unfold gangwayref02_Own.f
  cases ((decide (a > 0)) && (decide (a < 281474976710656))) <;> exact ⟨_, rfl⟩
theorem new19_tot (a : api_Near) : ∃ r, gangwayref19_New.f a = some r := by
  unfold gangwayref19_New.f
  obtain ⟨r, hr⟩ := new10_tot a.Room a.Life
  have h1 : ∀ b, ∃ r, gangwayref19_New.k1 b = some r := fun b => by cases b <;> exact ⟨_, rfl⟩
  have h2 : ∀ b, ∃ r, gangwayref19_New.k2 a b = some r := fun b => by
    unfold gangwayref19_New.k2 gangwayref19_few.f
    cases b
    · rw [cond_false, Option.bind_some]; exact h1 _
    · rw [cond_true]; exact h1 _
  have h3 : ∀ b, ∃ r, gangwayref19_New.k3 a b = some r := fun b => by
    unfold gangwayref19_New.k3 gangwayref19_few.f
    cases b
    · rw [cond_false, Option.bind_some]; exact h2 _
    · rw [cond_true]; exact h2 _
  have h4 : ∀ b, ∃ r, gangwayref19_New.k4 a b = some r := fun b => by
    unfold gangwayref19_New.k4 gangwayref19_few.f
    cases (b || (a.Ip == 0))
    · rw [cond_false, Option.bind_some]; exact h3 _
    · rw [cond_true]; exact h3 _
  rw [hr, Option.bind_some]
  obtain ⟨q, hq⟩ := own_tot a.Mac
  cases (r != 0)
  · rw [cond_false, hq, Option.bind_some]; exact h4 _
  · rw [cond_true]; exact h4 _

theorem new17_tot (l : List api_PortCfg) (a : api_Keep) (h : l.length ≤ 5) (hv : ∀ p ∈ l, p.Vids.length ≤ 12) : ∃ r, gangwayref17_New.f 2000 l a = some r := by
  unfold gangwayref17_New.f
  rw [show decide ((l.length : Int) > 64) = false by simp; omega, cond_false]
  obtain ⟨r, hr, _⟩ := loop_tot0 (P := fun _ => True) l.length (fun i (st : Unit) => True) (fun n st i => gangwayref17_New.l1 l 2000 a n 0 (i : Int)) (fun n st _ => by
      simp only [gangwayref17_New.l1]
      rw [lt_f (Nat.le_refl _), cond_false]
      obtain ⟨r, hr⟩ := new11_tot a
      rw [hr, Option.bind_some]
      cases (r != 0)
      · rw [cond_false, room_ok (by omega) (by omega), Option.bind_some]
        have : mkLen 8 (l.length : Int) = some l.length := by unfold mkLen; rw [if_pos (by omega)]; simp
        rw [this]; exact ⟨_, rfl, trivial⟩
      · exact ⟨_, rfl, trivial⟩) (fun n i st hi _ hk => by
      simp only [gangwayref17_New.l1]
      rw [lt_t hi, cond_true, getL_at hi, Option.bind_some]
      obtain ⟨r, hr⟩ := right16_tot l[i].Trunk l[i].Pvid l[i].Vids (by have := hv l[i] (List.getElem_mem hi); omega)
      rw [hr, Option.bind_some, i64_next (by omega)]
      cases r
      · exact ⟨_, rfl, trivial⟩
      · exact hk () trivial) (fuel := 2000) () (by omega) trivial
  exact ⟨r, hr⟩

theorem new15_tot (a : Int) (l : List Int) (e : List Bool) (h : l.length ≤ 5) : ∃ r, gangwayref15_New.f 2000 a l e = some r := by
  unfold gangwayref15_New.f
  by_cases he : l.length = e.length
  · rw [show ((l.length : Int) != (e.length : Int)) = false by simp; omega, Bool.or_false, show decide ((l.length : Int) > 64) = false by simp; omega, cond_false]
    obtain ⟨r, hr, _⟩ := loop_tot0 (P := fun _ => True) l.length (fun i (st : List api_SpanPort) => st.length = i) (fun n st i => gangwayref15_New.l3 l e a n 0 (i : Int) st) (fun n st _ => by
        simp only [gangwayref15_New.l3]
        rw [lt_f (Nat.le_refl _), cond_false]
        exact ⟨_, rfl, trivial⟩) (fun n i st hi hst hk => by
        have hk2 : ∀ a' b', ∃ r, gangwayref15_New.k2 e (i : Int) l st 0 (gangwayref15_New.l3 l e a n) a' b' = some r ∧ True := fun a' b' => by
          simp only [gangwayref15_New.k2]
          cases b'
          · rw [cond_false, getL_at (by omega), Option.bind_some, getL_at hi, Option.bind_some, room_ok (by simp; omega) (by simp; omega), Option.bind_some, i64_next (by omega)]
            exact hk _ (by simp [hst])
          · exact ⟨_, rfl, trivial⟩
        simp only [gangwayref15_New.l3]
        rw [lt_t hi, cond_true, getL_at hi, Option.bind_some, Option.bind_some]
        cases decide (l[i] < 1)
        · rw [cond_false]; exact hk2 _ _
        · rw [cond_true]; exact hk2 _ _) (fuel := 2000) [] (by omega) rfl
    exact ⟨r, hr⟩
  · rw [show ((l.length : Int) != (e.length : Int)) = true by simp; omega, Bool.or_true, cond_true]
    exact ⟨_, rfl⟩

theorem size02_tot (n : api_Net) (h : 0 ≤ n.Bits ∧ n.Bits ≤ 32) : ∃ r, gangwayref02_size.f 2000 n = some r ∧ r ≠ 0 := by
  unfold gangwayref02_size.f
  obtain ⟨b, hb⟩ : ∃ b : Nat, n.Bits = b := ⟨n.Bits.toNat, by omega⟩
  rw [hb]
  have key : ∀ (j b fuel x : Nat), b + j = 32 → j < fuel → 0 < x → x ≤ 2 ^ b → ∃ r, gangwayref02_size.l1 fuel (x : Int) (b : Int) = some r ∧ r ≠ 0 := by
    intro j
    induction j with
    | zero =>
      intro b fuel x e hf h0 h1
      obtain ⟨fuel, rfl⟩ : ∃ q, fuel = q + 1 := ⟨fuel - 1, by omega⟩
      obtain rfl : b = 32 := by omega
      exact ⟨x, rfl, by omega⟩
    | succ j ih =>
      intro b fuel x e hf h0 h1
      obtain ⟨fuel, rfl⟩ : ∃ q, fuel = q + 1 := ⟨fuel - 1, by omega⟩
      simp only [gangwayref02_size.l1]
      have hp : (2 : Nat) ^ b ≤ 2 ^ 32 := Nat.pow_le_pow_right (by omega) (by omega)
      rw [show decide ((b : Int) < 32) = true by simp; omega, cond_true, i64_next (by omega), u64_id (n := 2 * (x : Int)) (by omega)]
      have := ih (b + 1) fuel (2 * x) (by omega) (by omega) (by omega) (by rw [Nat.pow_succ]; omega)
      simpa using this
  exact key (32 - b) b 2000 1 (by omega) (by omega) (by omega) (Nat.one_le_two_pow)
theorem net02_tot (n : api_Net) : ∃ r, gangwayref02_Net.f 2000 n = some r := by
  unfold gangwayref02_Net.f
  by_cases h : 0 ≤ n.Bits ∧ n.Bits ≤ 32
  · rw [show ((decide (n.Bits ≥ 0)) && (decide (n.Bits ≤ 32))) = true by simp; exact h, cond_true]
    obtain ⟨r, hr, h0⟩ := size02_tot n h
    rw [hr, Option.bind_some]
    unfold remI
    rw [if_neg h0]
    exact ⟨_, rfl⟩
  · rw [show ((decide (n.Bits ≥ 0)) && (decide (n.Bits ≤ 32))) = false by simp; omega, cond_false]
    exact ⟨_, rfl⟩

theorem place18_tot (l : List api_Route) (n : api_Net) (h : l.length ≤ 100) : ∃ r, gangwayref18_Table_place_1.f 2000 l n = some r ∧ (r = -1 ∨ (0 ≤ r ∧ r < l.length)) := by
  unfold gangwayref18_Table_place_1.f
  refine loop_tot0 (P := fun r : Int => r = -1 ∨ (0 ≤ r ∧ r < l.length)) l.length (fun i (st : Unit) => True) (fun k st i => gangwayref18_Table_place_1.l1 l n k 0 (i : Int)) (fun k st _ => ?_) (fun k i st hi _ hk => ?_) (fuel := 2000) () (by omega) trivial
  · simp only [gangwayref18_Table_place_1.l1]
    rw [lt_f (Nat.le_refl _), cond_false]
    exact ⟨_, rfl, .inl rfl⟩
  · simp only [gangwayref18_Table_place_1.l1]
    rw [lt_t hi, cond_true, getL_at hi, Option.bind_some, i64_next (by omega)]
    cases ((l[i].To.Ip == n.Ip) && ((l[i].To.Bits == n.Bits) && true))
    · exact hk () trivial
    · exact ⟨_, rfl, .inr (by omega)⟩
theorem put18_tot (l : List api_Route) (a : api_Route) (h : l.length ≤ 100) : ∃ c r, gangwayref18_Table_Put_1.f 2000 l a = some (c, r) ∧ r.length ≤ l.length + 1 := by
  unfold gangwayref18_Table_Put_1.f
  obtain ⟨q, hq⟩ := net02_tot a.To
  rw [hq, Option.bind_some]
  cases q
  · exact ⟨_, _, rfl, by omega⟩
  · simp only [Bool.not_true, cond_false]
    obtain ⟨p, hp, h1⟩ := place18_tot l a.To h
    rw [hp, Option.bind_some]
    rcases h1 with rfl | h1
    · rw [show decide ((-1 : Int) ≥ 0) = false by decide, cond_false, show decide ((l.length : Int) ≥ 256) = false by simp; omega, cond_false, room_ok (by simp; omega) (by simp; omega), Option.bind_some]
      exact ⟨_, _, rfl, by simp⟩
    · obtain ⟨i, rfl⟩ : ∃ i : Nat, p = i := ⟨p.toNat, by omega⟩
      rw [show decide ((i : Int) ≥ 0) = true by simp, cond_true, getL_at (by omega), Option.bind_some]
      exact ⟨_, _, rfl, by simp⟩
theorem ways_tot (l : List api_Route) (h : l.length ≤ 8) : ∃ r, gangwayref24_ways.f 2000 l = some r := by
  unfold gangwayref24_ways.f
  obtain ⟨r, hr, _⟩ := loop_tot0 (P := fun _ => True) l.length (fun i (st : List api_Route) => st.length ≤ i) (fun n st i => gangwayref24_ways.l1 l 2000 n false (i : Int) st) (fun n st _ => by
      simp only [gangwayref24_ways.l1]
      rw [lt_f (Nat.le_refl _), cond_false]
      exact ⟨_, rfl, trivial⟩) (fun n i st hi hst hk => by
      simp only [gangwayref24_ways.l1]
      rw [lt_t hi, cond_true, getL_at hi, Option.bind_some]
      obtain ⟨c, r, hr, hl⟩ := put18_tot st l[i] (by omega)
      rw [hr, Option.bind_some, i64_next (by omega)]
      cases (c != 0)
      · exact hk r (by omega)
      · exact ⟨_, rfl, trivial⟩) (fuel := 2000) [] (by omega) (by simp)
  exact ⟨r, hr⟩

theorem often_tot (l : List Int) (a : Int) (h : l.length ≤ 100) : ∃ r, gangwayref21_often.f 2000 l a = some r := by
  unfold gangwayref21_often.f
  obtain ⟨r, hr, _⟩ := loop_tot0 (P := fun _ => True) l.length (fun i (st : Nat) => st ≤ i) (fun n st i => gangwayref21_often.l2 l a n (st : Int) (i : Int)) (fun n st _ => by
      simp only [gangwayref21_often.l2]
      rw [lt_f (Nat.le_refl _), cond_false]
      exact ⟨_, rfl, trivial⟩) (fun n i st hi hst hk => by
      simp only [gangwayref21_often.l2, gangwayref21_often.k1]
      rw [lt_t hi, cond_true, getL_at hi, Option.bind_some, i64_next (i := i) (by omega), i64_next (i := st) (by omega)]
      cases (l[i] == a)
      · rw [cond_false]; exact hk _ (by omega)
      · rw [cond_true]; exact hk _ (by omega)) (fuel := 2000) 0 (by omega) (by simp)
  exact ⟨r, hr⟩

theorem check21_l8 (t : api_Seg) (a x9 : Int) (rec : Bool → Int → Option Int) (hrec : ∀ b, ∃ r, rec b (i64 (x9 + 1)) = some r) (h : t.Peers.length ≤ 20) (b : Bool) : ∃ r, gangwayref21_Check.l8 t 2000 a x9 rec 2000 b 0 = some r := by
  obtain ⟨r, hr, _⟩ := loop_tot0 (P := fun _ => True) t.Peers.length (fun i (st : Bool) => True) (fun n st i => gangwayref21_Check.l8 t 2000 a x9 rec n st (i : Int)) (fun n st _ => by
      simp only [gangwayref21_Check.l8]
      rw [lt_f (Nat.le_refl _), cond_false]
      obtain ⟨r, hr⟩ := hrec st
      exact ⟨r, hr, trivial⟩) (fun n i st hi _ hk => by
      have h5 : ∀ c d, ∃ r, gangwayref21_Check.k5 (i : Int) (gangwayref21_Check.l8 t 2000 a x9 rec n) c d = some r ∧ True := fun c d => by
        unfold gangwayref21_Check.k5
        rw [i64_next (by omega)]; exact hk _ trivial
      have h6 : ∀ c d, ∃ r, gangwayref21_Check.k6 t (i : Int) 2000 (gangwayref21_Check.l8 t 2000 a x9 rec n) c d = some r ∧ True := fun c d => by
        unfold gangwayref21_Check.k6
        cases d
        · rw [cond_false]; exact h5 _ _
        · obtain ⟨q, hq⟩ := often_tot t.Peers t.Peers[i] (by omega)
          rw [cond_true, getL_at hi, Option.bind_some, hq, Option.bind_some]; exact h5 _ _
      have h7 : ∀ c d, ∃ r, gangwayref21_Check.k7 t (i : Int) 2000 a (gangwayref21_Check.l8 t 2000 a x9 rec n) c d = some r ∧ True := fun c d => by
        unfold gangwayref21_Check.k7
        cases d
        · rw [cond_false]; exact h6 _ _
        · rw [cond_true, getL_at hi, Option.bind_some]; exact h6 _ _
      simp only [gangwayref21_Check.l8]
      rw [lt_t hi, cond_true]
      cases st
      · rw [cond_false]; exact h7 _ _
      · rw [cond_true, getL_at hi, Option.bind_some]; exact h7 _ _) (fuel := 2000) b (by omega) trivial
  exact ⟨r, hr⟩

theorem check21_l4 (i9 : Nat) (l : List api_Seg) (h9 : i9 < l.length) (hl : l.length ≤ 12) (t : api_Seg) (a : Int) (rec : Bool → Int → Option Int) (hrec : ∀ b, ∃ r, rec b (i64 ((i9 : Int) + 1)) = some r) (h : t.Peers.length ≤ 20) (b : Bool) : ∃ r, gangwayref21_Check.l4 (i9 : Int) l t 2000 a rec 2000 b 0 = some r := by
  obtain ⟨r, hr, _⟩ := loop_tot0 (P := fun _ => True) i9 (fun i (st : Bool) => True) (fun n st i => gangwayref21_Check.l4 (i9 : Int) l t 2000 a rec n st (i : Int)) (fun n st _ => by
      simp only [gangwayref21_Check.l4]
      rw [lt_f (Nat.le_refl _), cond_false]
      obtain ⟨r, hr⟩ := check21_l8 t a i9 rec hrec h st
      exact ⟨r, hr, trivial⟩) (fun n i st hi _ hk => by
      have h2 : ∀ c d, ∃ r, gangwayref21_Check.k2 (i : Int) (gangwayref21_Check.l4 (i9 : Int) l t 2000 a rec n) c d = some r ∧ True := fun c d => by
        unfold gangwayref21_Check.k2
        rw [i64_next (by omega)]; exact hk _ trivial
      have h3 : ∀ c d, ∃ r, gangwayref21_Check.k3 l (i : Int) t (gangwayref21_Check.l4 (i9 : Int) l t 2000 a rec n) c d = some r ∧ True := fun c d => by
        unfold gangwayref21_Check.k3
        cases d
        · rw [cond_false]; exact h2 _ _
        · rw [cond_true, getL_at (by omega), Option.bind_some]; exact h2 _ _
      simp only [gangwayref21_Check.l4]
      rw [lt_t hi, cond_true]
      cases st
      · rw [cond_false]; exact h3 _ _
      · rw [cond_true, getL_at (by omega), Option.bind_some]; exact h3 _ _) (fuel := 2000) b (by omega) trivial
  exact ⟨r, hr⟩

theorem check21_tot (a : Int) (l : List api_Seg) (hl : l.length ≤ 12) (hp : ∀ s ∈ l, s.Peers.length ≤ 20) : ∃ r, gangwayref21_Check.f 2000 a l = some r := by
  unfold gangwayref21_Check.f
  have h9 : ∀ b, ∃ r, gangwayref21_Check.l9 l 2000 a 2000 b 0 = some r := fun b => by
    obtain ⟨r, hr, _⟩ := loop_tot0 (P := fun _ => True) l.length (fun i (st : Bool) => True) (fun n st i => gangwayref21_Check.l9 l 2000 a n st (i : Int)) (fun n st _ => by
        simp only [gangwayref21_Check.l9]
        rw [lt_f (Nat.le_refl _), cond_false]
        cases st <;> exact ⟨_, rfl, trivial⟩) (fun n i st hi _ hk => by
        simp only [gangwayref21_Check.l9]
        rw [lt_t hi, cond_true, getL_at hi, Option.bind_some]
        obtain ⟨r, hr⟩ := check21_l4 i l hi hl l[i] a (gangwayref21_Check.l9 l 2000 a n) (fun b => by
          rw [i64_next (by omega)]
          obtain ⟨r, hr, _⟩ := hk b trivial
          exact ⟨r, hr⟩) (hp _ (List.getElem_mem hi)) ((((st && (decide (l[i].Vid > 0))) && (decide (l[i].Vid < 4095))) && (decide (l[i].Vni ≥ 0))) && (decide (l[i].Vni < 16777216)))
        exact ⟨r, hr, trivial⟩) (fuel := 2000) b (by omega) trivial
    exact ⟨r, hr⟩
  obtain ⟨r, hr, _⟩ := loop_tot0 (P := fun _ => True) l.length (fun i (st : Unit) => True) (fun n st i => gangwayref21_Check.l1 l 2000 a n 0 (i : Int)) (fun n st _ => by
      simp only [gangwayref21_Check.l1]
      rw [lt_f (Nat.le_refl _), cond_false, show decide ((l.length : Int) > 256) = false by simp; omega, cond_false]
      obtain ⟨r, hr⟩ := h9 (decide (a > 0))
      exact ⟨r, hr, trivial⟩) (fun n i st hi _ hk => by
      simp only [gangwayref21_Check.l1]
      rw [lt_t hi, cond_true, getL_at hi, Option.bind_some, i64_next (by omega)]
      cases decide ((l[i].Peers.length : Int) > 16)
      · rw [cond_false]; exact hk () trivial
      · exact ⟨_, rfl, trivial⟩) (fuel := 2000) () (by omega) trivial
  exact ⟨r, hr⟩

theorem new24_tot (g : api_Gate) (h : GateOk g) : ∃ r, gangwayref24_New.f 2000 g.Bridge g.Mac g.Ip g.Ports g.Edges g.Keep g.Near g.Heard g.Segs g.Routes g.Most g.Answers = some r := by
  unfold gangwayref24_New.f
  have hk2 : ∀ b, ∃ r, gangwayref24_New.k2 g.Near g.Mac g.Ip g.Bridge g.Most b = some r := fun b => by
    unfold gangwayref24_New.k2
    cases ((((((!b) || (g.Near.Mac != g.Mac)) || (g.Near.Ip != g.Ip)) || (g.Bridge == 0)) || (decide (g.Most < 68))) || (decide (g.Most > 65535))) <;> exact ⟨_, rfl⟩
  obtain ⟨r, hr, _⟩ := loop_tot0 (P := fun _ => True) g.Ports.length (fun i (st : List Int) => st.length = i) (fun n st i => gangwayref24_New.l1 g.Ports 2000 g.Keep g.Bridge g.Edges g.Heard g.Near g.Routes g.Ip g.Segs g.Mac g.Most n st (i : Int)) (fun n st hst => by
      simp only [gangwayref24_New.l1]
      have := h.ports
      obtain ⟨r1, e1⟩ := new17_tot g.Ports g.Keep h.ports h.vids
      obtain ⟨⟨r2, r2'⟩, e2⟩ := new15_tot g.Bridge st g.Edges (by omega)
      obtain ⟨r3, e3⟩ := new12_tot g.Keep.Room g.Heard
      obtain ⟨r4, e4⟩ := new19_tot g.Near
      obtain ⟨r5, e5⟩ := ways_tot g.Routes h.routes
      obtain ⟨r6, e6⟩ := check21_tot g.Ip g.Segs h.segs h.peers
      rw [lt_f (Nat.le_refl _), cond_false, e1, Option.bind_some, e2, Option.bind_some, e3, Option.bind_some, e4, Option.bind_some, e5, Option.bind_some, e6]
      simp only [Option.bind_some]
      cases (((((r1 == 0) && (r2' == 0)) && (r3 == 0)) && (r4 == 0)) && r5)
      · rw [cond_false]; obtain ⟨r, hr⟩ := hk2 false; exact ⟨r, hr, trivial⟩
      · rw [cond_true]; obtain ⟨r, hr⟩ := hk2 (r6 == 0); exact ⟨r, hr, trivial⟩) (fun n i st hi hst hk => by
      simp only [gangwayref24_New.l1]
      have := h.ports
      rw [lt_t hi, cond_true, room_ok (by simp; omega) (by simp; omega), Option.bind_some, i64_next (by omega)]
      exact hk _ (by simp [hst])) (fuel := 2000) [] (by have := h.ports; omega) rfl
  exact ⟨r, hr⟩

theorem check26_tot (l : List api_Gate) (h : GatesOk l) : ∃ r, gangwayref26_Check.f 2000 l = some r := by
  obtain ⟨hl, hg⟩ := h
  unfold gangwayref26_Check.f
  rw [show decide ((l.length : Int) > 16) = false by simp; omega, cond_false]
  have h4 : ∀ (i9 : Nat) (h9 : i9 < l.length) (rec : Int → Int → Option Int) (hrec : ∃ r, rec 0 (i64 ((i9 : Int) + 1)) = some r), ∃ r, gangwayref26_Check.l4 (i9 : Int) l rec 2000 0 0 = some r := fun i9 h9 rec hrec => by
    obtain ⟨r, hr, _⟩ := loop_tot0 (P := fun _ => True) i9 (fun i (st : Unit) => True) (fun n st i => gangwayref26_Check.l4 (i9 : Int) l rec n 0 (i : Int)) (fun n st _ => by
        simp only [gangwayref26_Check.l4]
        rw [lt_f (Nat.le_refl _), cond_false]
        obtain ⟨r, hr⟩ := hrec
        exact ⟨r, hr, trivial⟩) (fun n i st hi _ hk => by
        have h2 : ∀ c d, ∃ r, gangwayref26_Check.k2 0 (i : Int) (gangwayref26_Check.l4 (i9 : Int) l rec n) c d = some r ∧ True := fun c d => by
          unfold gangwayref26_Check.k2
          cases d
          · rw [cond_false, i64_next (by omega)]; exact hk () trivial
          · exact ⟨_, rfl, trivial⟩
        have h3 : ∀ c d, ∃ r, gangwayref26_Check.k3 0 (i : Int) l (i9 : Int) (gangwayref26_Check.l4 (i9 : Int) l rec n) c d = some r ∧ True := fun c d => by
          unfold gangwayref26_Check.k3
          cases d
          · rw [cond_false, getL_at h9, Option.bind_some, getL_at (by omega), Option.bind_some]; exact h2 _ _
          · rw [cond_true]; exact h2 _ _
        simp only [gangwayref26_Check.l4]
        rw [lt_t hi, cond_true, getL_at h9, Option.bind_some, getL_at (by omega), Option.bind_some]
        cases (l[i9].Ip == (l[i]'(by omega)).Ip)
        · rw [cond_false, Option.bind_some, Option.bind_some]; exact h3 _ _
        · rw [cond_true]; exact h3 _ _) (fuel := 2000) () (by omega) trivial
    exact ⟨r, hr⟩
  have h5 : ∃ r, gangwayref26_Check.l5 l 2000 2000 0 0 = some r := by
    obtain ⟨r, hr, _⟩ := loop_tot0 (P := fun _ => True) l.length (fun i (st : Unit) => True) (fun n st i => gangwayref26_Check.l5 l 2000 n 0 (i : Int)) (fun n st _ => by
        simp only [gangwayref26_Check.l5]
        rw [lt_f (Nat.le_refl _), cond_false]
        exact ⟨_, rfl, trivial⟩) (fun n i st hi _ hk => by
        simp only [gangwayref26_Check.l5]
        rw [lt_t hi, cond_true]
        obtain ⟨r, hr⟩ := h4 i hi (gangwayref26_Check.l5 l 2000 n) (by
          rw [i64_next (by omega)]
          obtain ⟨r, hr, _⟩ := hk () trivial
          exact ⟨r, hr⟩)
        exact ⟨r, hr, trivial⟩) (fuel := 2000) () (by omega) trivial
    exact ⟨r, hr⟩
  obtain ⟨r, hr, _⟩ := loop_tot0 (P := fun _ => True) l.length (fun i (st : Unit) => True) (fun n st i => gangwayref26_Check.l1 l 2000 n 0 (i : Int)) (fun n st _ => by
      simp only [gangwayref26_Check.l1]
      rw [lt_f (Nat.le_refl _), cond_false]
      obtain ⟨r, hr⟩ := h5
      exact ⟨r, hr, trivial⟩) (fun n i st hi _ hk => by
      simp only [gangwayref26_Check.l1]
      obtain ⟨r, hr⟩ := new24_tot l[i] (hg _ (List.getElem_mem hi))
      rw [lt_t hi, cond_true, getL_at hi, Option.bind_some, hr, Option.bind_some, i64_next (by omega)]
      cases (r != 0)
      · rw [cond_false]; exact hk () trivial
      · exact ⟨_, rfl, trivial⟩) (fuel := 2000) () (by omega) trivial
  exact ⟨r, hr⟩

/-! ### What the law speaks of -/
theorem bound28_spec (a0 : List api_Gate) (a1 : List api_Event) : ∃ g m, gangwaylaw28_bound.f 2000 a0 a1 = some (g, m) ∧ GatesOk g ∧ m.length ≤ 30 ∧ ∀ e ∈ m, e.S.size ≤ 200 := by
  unfold gangwaylaw28_bound.f
  obtain ⟨g, hg, hg2⟩ := bound27_spec a0
  obtain ⟨c, hc⟩ := check26_tot g hg2
  rw [hg, Option.bind_some, hc, Option.bind_some]
  have key : ∀ q, GatesOk q → ∃ g m, gangwaylaw28_bound.k2 a1 2000 q = some (g, m) ∧ GatesOk g ∧ m.length ≤ 30 ∧ ∀ e ∈ m, e.S.size ≤ 200 := fun q hq => by
    unfold gangwaylaw28_bound.k2
    obtain ⟨⟨g, m⟩, hr, h1⟩ := loop_tot0 (P := fun r : List api_Gate × List api_Event => GatesOk r.1 ∧ r.2.length ≤ 30 ∧ ∀ e ∈ r.2, e.S.size ≤ 200) 30 (fun i (st : List api_Event) => st.length = i ∧ ∀ e ∈ st, e.S.size ≤ 200) (fun n st i => gangwaylaw28_bound.l1 a1 q n st (i : Int)) (fun n st hst => by
        simp only [gangwaylaw28_bound.l1]
        rw [show decide (((30 : Nat) : Int) < 30) = false by simp, Bool.and_false, cond_false]
        exact ⟨_, rfl, hq, by dsimp only; omega, hst.2⟩) (fun n i st hi hst hk => by
        simp only [gangwaylaw28_bound.l1]
        rw [show decide ((i : Int) < 30) = true by simp; omega, Bool.and_true]
        by_cases hlt : i < a1.length
        · rw [lt_t hlt, cond_true, getL_at hlt, Option.bind_some]
          obtain ⟨t, ht, ht2⟩ := cut_spec a1[i].S 200
          rw [show ((200 : Int)) = ((200 : Nat) : Int) from rfl, ht, Option.bind_some, room_ok (by simp; omega) (by simp; omega), Option.bind_some, i64_next (by omega)]
          refine hk _ ⟨by simp [hst.1], fun e he => ?_⟩
          rw [List.mem_append, List.mem_singleton] at he
          rcases he with he | rfl
          · exact hst.2 e he
          · exact ht2
        · rw [lt_f (by omega), cond_false]
          exact ⟨_, rfl, hq, by dsimp only; omega, hst.2⟩) (fuel := 2000) [] (by omega) ⟨rfl, by simp⟩
    exact ⟨g, m, hr, h1⟩
  cases (c != 0)
  · rw [cond_false]; exact key g hg2
  · rw [cond_true]; exact key [] ⟨by simp, by simp⟩
end Go.Proofs.YtbbekdmndifkpaaGreatDoor

namespace Go.Proofs.YtbbekdmndifkpaaGreatDoor
open Go Eng
set_option linter.unusedVariables false
set_option linter.unusedSimpArgs false

theorem idx_L (r : ByteArray) (i : Nat) (h : i < (L r).length) : idxS r (i : Int) = some (((L r)[i].toNat : Nat) : Int) := by
  unfold idxS
  rw [if_pos (by omega)]
  have : (r.data[(i : Int).toNat]?) = some (L r)[i] := by
    rw [← Array.getElem?_toList]
    exact List.getElem?_eq_getElem h
  rw [this]; rfl

theorem num_loop (r : ByteArray) (hn : r.size ≤ 7) : ∀ (j i fuel : Nat), i + j = r.size → j < fuel → gangwayref01_Num.l1 r fuel ((beV ((L r).take i) : Nat) : Int) i = some ((beV (L r) : Nat) : Int)
  | 0, i, 0, hij, hf => by omega
  | 0, i, fuel + 1, hij, hf => by
    simp only [gangwayref01_Num.l1]
    rw [show decide ((i : Int) < (r.size : Int)) = false by simp; omega]
    rw [List.take_of_length_le (by rw [L_length]; omega)]
    rfl
  | j + 1, i, 0, hij, hf => by omega
  | j + 1, i, fuel + 1, hij, hf => by
    simp only [gangwayref01_Num.l1]
    rw [show decide ((i : Int) < (r.size : Int)) = true by simp; omega]
    simp only [cond_true]
    have hlen : i < (L r).length := by rw [L_length]; omega
    rw [idx_L r i hlen, Option.bind_some]
    have ht : (L r).take (i + 1) = (L r).take i ++ [(L r)[i]] := by rw [List.take_append_getElem]
    have hb := beV_lt ((L r).take i)
    rw [List.length_take, Nat.min_eq_left (by omega)] at hb
    have hp : 256 ^ i ≤ 256 ^ 6 := Nat.pow_le_pow_right (by decide) (by omega)
    have h6 : (256 : Nat) ^ 6 = 281474976710656 := by decide
    have hc := (L r)[i].toNat_lt
    have hval : beV ((L r).take (i + 1)) = beV ((L r).take i) * 256 + (L r)[i].toNat := by
      rw [ht]
      show List.foldl _ 0 (_ ++ _) = _
      rw [List.foldl_append]
      rfl
    have hstep : u64 (u64 (((beV ((L r).take i) : Nat) : Int) * 256) + u64 (((L r)[i].toNat : Nat) : Int)) = ((beV ((L r).take (i + 1)) : Nat) : Int) := by
      rw [hval, u64_id (n := ((beV ((L r).take i) : Nat) : Int) * 256) (by omega), u64_id (n := (((L r)[i].toNat : Nat) : Int)) (by omega), u64_id (by omega)]
      omega
    rw [hstep, i64_id (by omega)]
    exact num_loop r hn j (i + 1) fuel (by omega) (by omega)
theorem num_spec (r : ByteArray) (hn : r.size ≤ 7) : gangwayref01_Num.f 2000 r = some ((beV (L r) : Nat) : Int) := num_loop r hn r.size 0 2000 (by omega) (by omega)

theorem word_spec (r : ByteArray) (hr : r.size = 2) : gangwayref04_word.f r = some ((beV (L r) : Nat) : Int) := by
  have hl := L_length r
  obtain ⟨x, y, hxy⟩ : ∃ x y, L r = [x, y] := by
    match h : L r, hl with
    | [x, y], _ => exact ⟨x, y, rfl⟩
    | [], hl => simp [hr] at hl
    | [_], hl => simp [hr] at hl
    | _ :: _ :: _ :: _, hl => simp [hr] at hl
  unfold gangwayref04_word.f
  have h0 := idx_L r 0 (by rw [hl]; omega)
  have h1 := idx_L r 1 (by rw [hl]; omega)
  rw [show ((0 : Nat) : Int) = 0 from rfl] at h0
  rw [show ((1 : Nat) : Int) = 1 from rfl] at h1
  have g0 : (L r)[0]'(by rw [hl]; omega) = x := by simp [hxy]
  have g1 : (L r)[1]'(by rw [hl]; omega) = y := by simp [hxy]
  rw [h0, Option.bind_some, h1, Option.bind_some, g0, g1, hxy]
  have hx := x.toNat_lt
  have hy := y.toNat_lt
  have hb : beV [x, y] = x.toNat * 256 + y.toNat := by simp [beV]
  rw [hb, i64_id (n := ((x.toNat : Nat) : Int)) (by omega), i64_id (n := ((y.toNat : Nat) : Int)) (by omega), i64_id (n := ((x.toNat : Nat) : Int) * 256) (by omega), i64_id (by omega)]
  simp

theorem ref_k2 (s : ByteArray) (p n : Nat) (d e : Int) (t : api_Tag) (b : ByteArray) (hb : b = s.extract p s.size) (hp : p ≤ s.size) : gangwayref04_Parse.k2 d e n b t.Has t.Pri t.Dei t.Vid = some (bodyR s p ⟨d, e, t, 0, ⟨#[]⟩⟩ n) := by
  have hz : b.size = s.size - p := by rw [hb]; simp
  unfold gangwayref04_Parse.k2 bodyR
  by_cases h1 : n = 33024
  · subst h1
    rw [if_pos (.inl rfl)]
    rfl
  · rw [show ((n : Int) == 33024) = false by simp; omega, cond_false]
    unfold gangwayref04_Parse.k1
    by_cases h2 : 1500 < n ∧ n < 1536
    · rw [show ((decide ((n : Int) > 1500)) && (decide ((n : Int) < 1536))) = true by simp; omega, cond_true, if_pos (.inr h2)]
      rfl
    · rw [show ((decide ((n : Int) > 1500)) && (decide ((n : Int) < 1536))) = false by simp; omega, cond_false, if_neg (by omega)]
      by_cases h3 : 1500 < n
      · rw [show decide ((n : Int) > 1500) = true by simp; omega, cond_true, if_pos h3, hb]
      · rw [show decide ((n : Int) > 1500) = false by simp; omega, cond_false, if_neg h3]
        by_cases h4 : s.size < p + n
        · rw [show decide ((n : Int) > (b.size : Int)) = true by simp; omega, cond_true, if_pos h4]
          rfl
        · rw [show decide ((n : Int) > (b.size : Int)) = false by simp; omega, cond_false, if_neg h4, sliceS_eq (by omega), Option.bind_some, hb]
          rfl

theorem ext_at (s : ByteArray) (o n : Nat) (h : o + n ≤ s.size) : beV (L (s.extract o (o + n))) = at2 s o n ∧ (s.extract o (o + n)).size = n := by
  refine ⟨?_, by simp; omega⟩
  rw [L_extract]
  unfold at2
  congr 2
  omega

theorem ref_parse (s : ByteArray) : gangwayref04_Parse.f 2000 s = some (parseR s) := by
  unfold gangwayref04_Parse.f parseR
  by_cases h1 : 1600 < s.size
  · rw [if_pos h1, show decide ((s.size : Int) > 1600) = true by simp; omega]
    rfl
  · rw [if_neg h1, show decide ((s.size : Int) > 1600) = false by simp; omega, cond_false]
    by_cases h2 : s.size < 14
    · rw [if_pos h2, show decide ((s.size : Int) < 14) = true by simp; omega]
      rfl
    · rw [if_neg h2, show decide ((s.size : Int) < 14) = false by simp; omega, cond_false]
      obtain ⟨a0, z0⟩ := ext_at s 0 6 (by omega)
      obtain ⟨a6, z6⟩ := ext_at s 6 6 (by omega)
      obtain ⟨a12, z12⟩ := ext_at s 12 2 (by omega)
      rw [sliceS_eq (by omega), Option.bind_some, sliceS_eq (by omega)]
      simp only [Option.bind_some]
      rw [show Int.toNat 0 = 0 from rfl, show Int.toNat 6 = 6 from rfl, show Int.toNat 12 = 12 from rfl]
      rw [num_spec _ (by rw [z0]; omega), Option.bind_some, num_spec _ (by rw [z6]; omega), Option.bind_some]
      rw [sliceS_eq (by omega), Option.bind_some]
      rw [show Int.toNat 12 = 12 from rfl, show Int.toNat 14 = 14 from rfl, word_spec _ z12, Option.bind_some]
      rw [sliceS_eq (by omega), Option.bind_some]
      simp only [Int.toNat_natCast]
      rw [show Int.toNat 14 = 14 from rfl, a0, a6, a12]
      have hz14 : (s.extract 14 s.size).size = s.size - 14 := by simp
      by_cases h3 : at2 s 12 2 = 33024
      · rw [if_pos h3, h3, show (((33024 : Nat) : Int) == 33024) = true from rfl, cond_true]
        by_cases h4 : s.size < 18
        · rw [if_pos h4, show decide (((s.extract 14 s.size).size : Int) < 4) = true by rw [hz14]; simp; omega]
          rfl
        · rw [if_neg h4, show decide (((s.extract 14 s.size).size : Int) < 4) = false by rw [hz14]; simp; omega, cond_false]
          rw [sliceS_eq (by omega), Option.bind_some]
          have e0 : L ((s.extract 14 s.size).extract 0 2) = L (s.extract 14 (14 + 2)) := by
            rw [L_extract, L_drop, L_extract]; simp
          have e2 : L ((s.extract 14 s.size).extract 2 4) = L (s.extract 16 (16 + 2)) := by
            rw [L_extract, L_drop, L_extract, List.drop_drop]
          have e4 : (s.extract 14 s.size).extract 4 (s.extract 14 s.size).size = s.extract 18 s.size := L_inj (by
            rw [L_drop, L_drop, L_drop, List.drop_drop])
          obtain ⟨b14, z14⟩ := ext_at s 14 2 (by omega)
          obtain ⟨b16, z16⟩ := ext_at s 16 2 (by omega)
          rw [show Int.toNat 0 = 0 from rfl, show Int.toNat 2 = 2 from rfl, word_spec _ (by rw [← L_length, e0, L_length]; exact z14), Option.bind_some]
          rw [sliceS_eq (by omega), Option.bind_some]
          rw [show Int.toNat 2 = 2 from rfl, show Int.toNat 4 = 4 from rfl, word_spec _ (by rw [← L_length, e2, L_length]; exact z16), Option.bind_some]
          rw [sliceS_eq (by omega), Option.bind_some]
          simp only [Int.toNat_natCast]
          rw [show Int.toNat 4 = 4 from rfl, e4, e0, e2, b14, b16]
          have hv := at2_lt s 14 2
          have t1 : i64 (Int.tdiv ((at2 s 14 2 : Nat) : Int) 8192) = (tagOf (at2 s 14 2)).Pri := by
            rw [Int.tdiv_eq_ediv_of_nonneg (by omega), i64_id (by omega)]
            simp [tagOf]
          have t2 : ((Int.tmod (i64 (Int.tdiv ((at2 s 14 2 : Nat) : Int) 4096)) 2) == 1) = (tagOf (at2 s 14 2)).Dei := by
            rw [Int.tdiv_eq_ediv_of_nonneg (by omega), i64_id (by omega), Int.tmod_eq_emod_of_nonneg (by omega)]
            simp only [tagOf]
            by_cases hb : at2 s 14 2 / 4096 % 2 = 1
            · rw [decide_eq_true hb]
              simp only [beq_iff_eq]
              omega
            · rw [decide_eq_false hb]
              simp only [beq_eq_false_iff_ne]
              omega
          have t3 : Int.tmod ((at2 s 14 2 : Nat) : Int) 4096 = (tagOf (at2 s 14 2)).Vid := by
            rw [Int.tmod_eq_emod_of_nonneg (by omega)]
            simp [tagOf]
          rw [t1, t2, t3]
          exact ref_k2 s 18 (at2 s 16 2) _ _ (tagOf (at2 s 14 2)) _ rfl (by omega)
      · rw [if_neg h3, show ((((at2 s 12 2 : Nat) : Int)) == 33024) = false by simp; omega, cond_false]
        exact ref_k2 s 14 (at2 s 12 2) _ _ tag0 _ rfl (by omega)

end Go.Proofs.YtbbekdmndifkpaaGreatDoor

/- What an event is: its VLAN and its bare frame; whether two are of one segment; the message that a frame is. The program and the document's answer agree. -/
namespace Go.Proofs.YtbbekdmndifkpaaGreatDoor
open Go Eng
set_option linter.unusedVariables false
set_option linter.unusedSimpArgs false

/-! ### VLANs -/
theorem index_spec (l : List Int) (a : Int) (h : l.length ≤ 1000) : slices_Contains_int_int.f 2000 l a = some (decide (a ∈ l)) := by
  unfold slices_Contains_int_int.f slices_Index_int_int.f
  have key : ∀ (r pre : List Int) (fuel : Nat), l = pre ++ r → r.length < fuel → ∃ v, slices_Index_int_int.l1 l a fuel 0 (pre.length : Int) = some v ∧ decide (v ≥ 0) = decide (a ∈ r) := by
    intro r
    induction r with
    | nil =>
      intro pre fuel e hf
      obtain ⟨fuel, rfl⟩ : ∃ q, fuel = q + 1 := ⟨fuel - 1, by omega⟩
      subst e
      exact ⟨-1, by simp [slices_Index_int_int.l1], by simp⟩
    | cons x r ih =>
      intro pre fuel e hf
      obtain ⟨fuel, rfl⟩ : ∃ q, fuel = q + 1 := ⟨fuel - 1, by omega⟩
      have hlen : l.length = pre.length + (r.length + 1) := by rw [e]; simp
      simp only [slices_Index_int_int.l1]
      rw [lt_t (by omega), cond_true, getL_at (by omega), Option.bind_some]
      have hx : l[pre.length]'(by omega) = x := by simp [e]
      rw [hx]
      cases hv : (a == x)
      · rw [cond_false, i64_next (by omega)]
        have := ih (pre ++ [x]) fuel (by rw [e]; simp) (by simp at hf; omega)
        rw [List.length_append, List.length_singleton] at this
        obtain ⟨v, h1, h2⟩ := this
        refine ⟨v, h1, h2.trans ?_⟩
        have : a ≠ x := fun e => by simp [e] at hv
        simp [this]
      · rw [cond_true]
        have : a = x := by simpa using hv
        exact ⟨_, rfl, by simp [this]⟩
  obtain ⟨v, h1, h2⟩ := key l [] 2000 rfl (by omega)
  rw [show (([] : List Int).length : Int) = 0 from rfl] at h1
  rw [h1, Option.bind_some, h2]

def hasR (p : api_PortCfg) (v : Int) : Bool := if p.Trunk then decide (v ∈ p.Vids) else v == p.Pvid
def bareR (f : api_Frame) : api_Frame := ⟨f.Dst, f.Src, tag0, f.Type_, f.Body⟩
def inR (p : api_PortCfg) (f : api_Frame) : Int × api_Frame × Bool :=
  let v := if f.Tag.Has && (f.Tag.Vid != 0) then f.Tag.Vid else p.Pvid
  if hasR p v then (v, bareR f, true) else (0, frame0, false)

theorem has_spec (p : api_PortCfg) (v : Int) (h : p.Vids.length ≤ 1000) : vlan_Has.f 2000 p.Trunk p.Pvid p.Vids v = some (hasR p v) := by
  unfold vlan_Has.f hasR
  cases p.Trunk
  · rfl
  · simp only [Bool.not_true, cond_false]
    rw [index_spec _ _ h]
    rfl
theorem rhas_spec (p : api_PortCfg) (v : Int) (h : p.Vids.length ≤ 1000) : gangwayref16_Has.f 2000 p.Trunk p.Pvid p.Vids v = some (hasR p v) := by
  unfold gangwayref16_Has.f hasR
  cases p.Trunk
  · cases (v == p.Pvid) <;> rfl
  · simp only [Bool.not_true, Bool.false_and, cond_false, cond_true]
    rw [among_tot _ _ h]
    rfl
theorem in_spec (p : api_PortCfg) (f : api_Frame) (h : p.Vids.length ≤ 1000) : vlan_In.f 2000 p.Trunk p.Pvid p.Vids f = some (inR p f) := by
  have k1 : ∀ v, vlan_In.k1 2000 p.Trunk p.Pvid p.Vids f v = some (if hasR p v then (v, bareR f, true) else (0, frame0, false)) := fun v => by
    unfold vlan_In.k1
    rw [has_spec p v h, Option.bind_some]
    cases hasR p v <;> rfl
  unfold vlan_In.f inR
  have e : ((!f.Tag.Has) || (f.Tag.Vid == 0)) = !(f.Tag.Has && (f.Tag.Vid != 0)) := by cases f.Tag.Has <;> simp [bne]
  rw [e]
  cases (f.Tag.Has && (f.Tag.Vid != 0))
  · exact k1 _
  · exact k1 _
theorem rin_spec (p : api_PortCfg) (f : api_Frame) (h : p.Vids.length ≤ 1000) : gangwayref16_In.f 2000 p.Trunk p.Pvid p.Vids f = some (inR p f) := by
  have k1 : ∀ v, gangwayref16_In.k1 2000 p.Trunk p.Pvid p.Vids f v = some (if hasR p v then (v, bareR f, true) else (0, frame0, false)) := fun v => by
    unfold gangwayref16_In.k1
    rw [rhas_spec p v h, Option.bind_some]
    cases hasR p v <;> rfl
  unfold gangwayref16_In.f inR
  cases (f.Tag.Has && (f.Tag.Vid != 0))
  · exact k1 _
  · exact k1 _

/-! ### Events -/
def none3 : Int × api_Frame × Bool := (0, frame0, false)
def ofR (g : List api_Gate) (e : api_Event) : Int × api_Frame × Bool :=
  if (parseR e.S).2 ≠ 0 ∨ e.Gate < 1 ∨ e.Gate > g.length then none3 else match g[(e.Gate - 1).toNat]? with
    | none => none3
    | some q => if e.Port < 1 ∨ e.Port > q.Ports.length then none3 else match q.Ports[(e.Port - 1).toNat]? with
      | none => none3
      | some p => inR p (parseR e.S).1
def seenR (g : List api_Gate) (e : api_Event) : trace_seen := ⟨e, (ofR g e).1, (ofR g e).2.1, (ofR g e).2.2⟩

theorem of_spec (g : List api_Gate) (hg : GatesOk g) (e : api_Event) : trace_of.f 2000 g e = some (seenR g e) := by
  unfold trace_of.f seenR ofR
  rw [parse_spec, Option.bind_some]
  by_cases h : (parseR e.S).2 ≠ 0 ∨ e.Gate < 1 ∨ e.Gate > g.length
  · rw [if_pos h]
    have : ((((parseR e.S).2 != 0) || (decide (e.Gate < 1))) || (decide (e.Gate > (g.length : Int)))) = true := by simpa [or_assoc] using h
    dsimp only
    rw [this]
    rfl
  · rw [if_neg h]
    have : ((((parseR e.S).2 != 0) || (decide (e.Gate < 1))) || (decide (e.Gate > (g.length : Int)))) = false := by
      rw [Bool.eq_false_iff]; intro hh; exact h (by simpa [or_assoc] using hh)
    dsimp only
    rw [this, cond_false]
    have h3 := hg.1
    rw [i64_id (by omega)]
    obtain ⟨i, hi⟩ : ∃ i : Nat, e.Gate - 1 = i := ⟨(e.Gate - 1).toNat, by omega⟩
    have hlt : i < g.length := by omega
    rw [hi, getL_at hlt, Option.bind_some, Int.toNat_natCast, List.getElem?_eq_getElem hlt]
    dsimp only
    have hq := hg.2 _ (List.getElem_mem hlt)
    generalize g[i] = q at hq
    by_cases h2 : e.Port < 1 ∨ e.Port > q.Ports.length
    · rw [if_pos h2]
      have : ((decide (e.Port < 1)) || (decide (e.Port > (q.Ports.length : Int)))) = true := by simpa using h2
      rw [this]
      rfl
    · rw [if_neg h2]
      have : ((decide (e.Port < 1)) || (decide (e.Port > (q.Ports.length : Int)))) = false := by
        rw [Bool.eq_false_iff]; intro hh; exact h2 (by simpa using hh)
      rw [this, cond_false]
      have := hq.ports
      rw [i64_id (by omega)]
      obtain ⟨j, hj⟩ : ∃ j : Nat, e.Port - 1 = j := ⟨(e.Port - 1).toNat, by omega⟩
      have hlt2 : j < q.Ports.length := by omega
      rw [hj, getL_at hlt2, Option.bind_some, Int.toNat_natCast, List.getElem?_eq_getElem hlt2]
      dsimp only
      have := hq.vids _ (List.getElem_mem hlt2)
      rw [in_spec _ _ (by omega)]
      rfl

theorem rof_spec (g : List api_Gate) (hg : GatesOk g) (e : api_Event) : gangwayref28_Of.f 2000 g e = some (ofR g e) := by
  unfold gangwayref28_Of.f ofR
  rw [ref_parse, Option.bind_some]
  dsimp only
  have k1t : gangwayref28_Of.k1 g e 2000 (parseR e.S).1 true = some none3 := rfl
  by_cases h : (parseR e.S).2 ≠ 0 ∨ e.Gate < 1 ∨ e.Gate > g.length
  · rw [if_pos h]
    have : (((((parseR e.S).2 != 0) || (decide (e.Gate < 1))) || (decide (e.Gate > (g.length : Int)))) || (decide (e.Port < 1))) = true := by
      rw [Bool.or_eq_true]; left; simpa [or_assoc] using h
    rw [this, cond_true, k1t]
  · rw [if_neg h]
    have hh : ((((parseR e.S).2 != 0) || (decide (e.Gate < 1))) || (decide (e.Gate > (g.length : Int)))) = false := by
      rw [Bool.eq_false_iff]; intro hh; exact h (by simpa [or_assoc] using hh)
    rw [hh, Bool.false_or]
    have h3 := hg.1
    obtain ⟨i, hi⟩ : ∃ i : Nat, e.Gate - 1 = i := ⟨(e.Gate - 1).toNat, by omega⟩
    have hlt : i < g.length := by omega
    rw [hi, Int.toNat_natCast, List.getElem?_eq_getElem hlt]
    dsimp only
    have hq := hg.2 _ (List.getElem_mem hlt)
    by_cases hp : e.Port < 1
    · rw [decide_eq_true hp, cond_true, k1t, if_pos (.inl hp)]
    · rw [decide_eq_false hp, cond_false, i64_id (n := (i : Int)) (by omega), getL_at hlt, Option.bind_some]
      by_cases h2 : e.Port > (g[i].Ports.length : Int)
      · rw [decide_eq_true h2, k1t, if_pos (.inr h2)]
      · rw [decide_eq_false h2, if_neg (by omega)]
        unfold gangwayref28_Of.k1
        have := hq.ports
        rw [cond_false, i64_id (n := e.Gate - 1) (by omega), hi, getL_at hlt, Option.bind_some, i64_id (n := e.Port - 1) (by omega)]
        obtain ⟨j, hj⟩ : ∃ j : Nat, e.Port - 1 = j := ⟨(e.Port - 1).toNat, by omega⟩
        have hlt2 : j < g[i].Ports.length := by omega
        rw [hj, getL_at hlt2, Option.bind_some, Int.toNat_natCast, List.getElem?_eq_getElem hlt2]
        dsimp only
        have := hq.vids _ (List.getElem_mem hlt2)
        rw [rin_spec _ _ (by omega), Option.bind_some]

theorem seen_in (g : List api_Gate) (e : api_Event) (h : (seenR g e).is_ = true) : 1 ≤ e.Gate ∧ e.Gate ≤ g.length := by
  unfold seenR ofR at h
  by_cases hh : (parseR e.S).2 ≠ 0 ∨ e.Gate < 1 ∨ e.Gate > g.length
  · rw [if_pos hh] at h; cases h
  · omega

/-! ### Segments -/
def segOf (l : List api_Seg) (v : Int) : api_Seg × Bool := match l.find? (fun s => s.Vid == v) with
  | some s => (s, true)
  | none => (⟨0, 0, []⟩, false)

theorem vni_spec (l : List api_Seg) (v : Int) (hl : l.length ≤ 1000) (hp : ∀ s ∈ l, s.Peers.length ≤ 1000) : vni_Of.f 2000 l v = some (segOf l v) := by
  unfold vni_Of.f vni_first.f api_Seg.f segOf
  have key : ∀ (r pre : List api_Seg) (fuel : Nat), l = pre ++ r → r.length < fuel →
      ∃ u, api_Seg.l1 l v fuel 0 (pre.length : Int) = some u ∧ ((u = -1 ∧ r.find? (fun s => s.Vid == v) = none) ∨ (∃ (i : Nat) (s : api_Seg), u = i ∧ l[i]? = some s ∧ r.find? (fun s => s.Vid == v) = some s)) := by
    intro r
    induction r with
    | nil =>
      intro pre fuel e hf
      obtain ⟨fuel, rfl⟩ : ∃ q, fuel = q + 1 := ⟨fuel - 1, by omega⟩
      subst e
      exact ⟨-1, by simp [api_Seg.l1], .inl ⟨rfl, rfl⟩⟩
    | cons x r ih =>
      intro pre fuel e hf
      obtain ⟨fuel, rfl⟩ : ∃ q, fuel = q + 1 := ⟨fuel - 1, by omega⟩
      have hlen : l.length = pre.length + (r.length + 1) := by rw [e]; simp
      have hget : l[pre.length]? = some x := by rw [e]; simp
      simp only [api_Seg.l1]
      rw [lt_t (by omega), cond_true, getL_at (by omega), Option.bind_some]
      have hx : l[pre.length]'(by omega) = x := by simp [e]
      rw [hx]
      simp only [vni_Of_1.f, Option.bind_some]
      cases hv : (x.Vid == v)
      · rw [cond_false, i64_next (by omega)]
        have := ih (pre ++ [x]) fuel (by rw [e]; simp) (by simp at hf; omega)
        rw [List.length_append, List.length_singleton] at this
        obtain ⟨u, h1, h2⟩ := this
        refine ⟨u, h1, ?_⟩
        rw [List.find?_cons, hv]
        exact h2
      · rw [cond_true]
        refine ⟨_, rfl, .inr ⟨pre.length, x, rfl, hget, ?_⟩⟩
        rw [List.find?_cons, hv]
  obtain ⟨u, h1, h2⟩ := key l [] 2000 rfl (by omega)
  rw [show (([] : List api_Seg).length : Int) = 0 from rfl] at h1
  rw [h1, Option.bind_some]
  rcases h2 with ⟨rfl, h3⟩ | ⟨i, s, rfl, h3, h4⟩
  · rw [h3]; rfl
  · rw [h4]
    have hm : s ∈ l := List.mem_of_getElem? h3
    obtain ⟨hi, rfl⟩ := List.getElem?_eq_some_iff.1 h3
    rw [show decide ((i : Int) < 0) = false by simp, cond_false, getL_at hi, Option.bind_some]
    unfold slices_Clone_uint32_uint32.f
    have := hp _ hm
    rw [room_ok (by omega) (by omega)]
    rfl
theorem rvni_spec (l : List api_Seg) (v : Int) (hl : l.length ≤ 1000) : gangwayref21_Of.f 2000 l v = some (segOf l v) := by
  unfold gangwayref21_Of.f segOf
  have key : ∀ (r pre : List api_Seg) (fuel : Nat), l = pre ++ r → r.length < fuel → gangwayref21_Of.l1 l v fuel false (pre.length : Int) = some (match r.find? (fun s => s.Vid == v) with | some s => (s, true) | none => (⟨0, 0, []⟩, false)) := by
    intro r
    induction r with
    | nil =>
      intro pre fuel e hf
      obtain ⟨fuel, rfl⟩ : ∃ q, fuel = q + 1 := ⟨fuel - 1, by omega⟩
      subst e
      simp [gangwayref21_Of.l1]
    | cons x r ih =>
      intro pre fuel e hf
      obtain ⟨fuel, rfl⟩ : ∃ q, fuel = q + 1 := ⟨fuel - 1, by omega⟩
      have hlen : l.length = pre.length + (r.length + 1) := by rw [e]; simp
      simp only [gangwayref21_Of.l1]
      rw [lt_t (by omega), cond_true, getL_at (by omega), Option.bind_some]
      have hx : l[pre.length]'(by omega) = x := by simp [e]
      rw [hx]
      cases hv : (x.Vid == v)
      · rw [cond_false, i64_next (by omega)]
        have := ih (pre ++ [x]) fuel (by rw [e]; simp) (by simp at hf; omega)
        rw [List.length_append, List.length_singleton] at this
        rw [this, List.find?_cons, hv]
      · rw [cond_true, List.find?_cons, hv]
        rfl
  exact key l [] 2000 rfl (by omega)

def segAt (g : List api_Gate) (n v : Int) : api_Seg × Bool := match g[(n - 1).toNat]? with
  | none => (⟨0, 0, []⟩, false)
  | some q => segOf q.Segs v
def sameR (g : List api_Gate) (a b : trace_seen) : Bool :=
  a.is_ && b.is_ && (((a.Event.Gate == b.Event.Gate) && (a.vid == b.vid)) || (((segAt g a.Event.Gate a.vid).2 && (segAt g b.Event.Gate b.vid).2) && ((segAt g a.Event.Gate a.vid).1.Vni == (segAt g b.Event.Gate b.vid).1.Vni)))

theorem segAt_spec (g : List api_Gate) (hg : GatesOk g) (n v : Int) (h : 1 ≤ n ∧ n ≤ g.length) : ∃ q, getL g.length g (i64 (n - 1)) = some q ∧ vni_Of.f 2000 q.Segs v = some (segAt g n v) ∧ gangwayref21_Of.f 2000 q.Segs v = some (segAt g n v) := by
  have h3 := hg.1
  obtain ⟨i, hi⟩ : ∃ i : Nat, n - 1 = i := ⟨(n - 1).toNat, by omega⟩
  have hlt : i < g.length := by omega
  rw [i64_id (by omega)]
  unfold segAt
  rw [hi, getL_at hlt, Int.toNat_natCast, List.getElem?_eq_getElem hlt]
  have hq := hg.2 _ (List.getElem_mem hlt)
  refine ⟨_, rfl, vni_spec _ _ (by have := hq.segs; omega) (fun s hs => by have := hq.peers s hs; omega), rvni_spec _ _ (by have := hq.segs; omega)⟩

theorem same_spec (g : List api_Gate) (hg : GatesOk g) (a b : api_Event) : trace_same.f 2000 g (seenR g a) (seenR g b) = some (sameR g (seenR g a) (seenR g b)) := by
  unfold trace_same.f sameR
  have ha := seen_in g a
  have hb := seen_in g b
  have ea : (seenR g a).Event = a := rfl
  have eb : (seenR g b).Event = b := rfl
  rw [ea, eb]
  cases h1 : (seenR g a).is_
  · rfl
  · cases h2 : (seenR g b).is_
    · rfl
    · simp only [Bool.not_true, Bool.or_false, cond_false, Bool.true_and]
      cases hc : ((a.Gate == b.Gate) && ((seenR g a).vid == (seenR g b).vid))
      · rw [cond_false]
        obtain ⟨p, p1, p2, _⟩ := segAt_spec g hg a.Gate (seenR g a).vid (ha h1)
        obtain ⟨q, q1, q2, _⟩ := segAt_spec g hg b.Gate (seenR g b).vid (hb h2)
        rw [p1, Option.bind_some, p2, Option.bind_some, q1, Option.bind_some, q2]
        rfl
      · rfl

theorem rsame_spec (g : List api_Gate) (hg : GatesOk g) (a b : api_Event) : gangwayref28_Same.f 2000 g a b = some (sameR g (seenR g a) (seenR g b)) := by
  unfold gangwayref28_Same.f sameR
  have ha := seen_in g a
  have hb := seen_in g b
  have ea : (seenR g a).Event = a := rfl
  have eb : (seenR g b).Event = b := rfl
  rw [ea, eb, rof_spec g hg, Option.bind_some]
  dsimp only
  rw [rof_spec g hg, Option.bind_some]
  have ia : (ofR g a).2.2 = (seenR g a).is_ := rfl
  have ib : (ofR g b).2.2 = (seenR g b).is_ := rfl
  have va : (ofR g a).1 = (seenR g a).vid := rfl
  have vb : (ofR g b).1 = (seenR g b).vid := rfl
  rw [ia, ib, va, vb]
  cases h1 : (seenR g a).is_
  · rfl
  · cases h2 : (seenR g b).is_
    · rfl
    · simp only [Bool.not_true, Bool.or_false, cond_false, Bool.true_and]
      obtain ⟨p, p1, _, p2⟩ := segAt_spec g hg a.Gate (seenR g a).vid (ha h1)
      obtain ⟨q, q1, _, q2⟩ := segAt_spec g hg b.Gate (seenR g b).vid (hb h2)
      rw [p1, Option.bind_some, p2, Option.bind_some, q1, Option.bind_some, q2, Option.bind_some]
      cases hc : ((a.Gate == b.Gate) && ((seenR g a).vid == (seenR g b).vid)) <;> rfl
end Go.Proofs.YtbbekdmndifkpaaGreatDoor

/- The message that a frame is: the program's and the document's answer. -/
namespace Go.Proofs.YtbbekdmndifkpaaGreatDoor
open Go Eng
set_option linter.unusedVariables false
set_option linter.unusedSimpArgs false

theorem and_pow (x n : Nat) : x &&& 2 ^ n = (x / 2 ^ n % 2) * 2 ^ n := by
  refine Nat.eq_of_testBit_eq fun i => ?_
  rw [Nat.testBit_and, Nat.testBit_two_pow, Nat.testBit_mul_two_pow]
  by_cases h : n = i
  · subst h
    rw [Nat.testBit_eq_decide_div_mod_eq, Nat.testBit_eq_decide_div_mod_eq]
    simp
  · by_cases h2 : n ≤ i
    · have : (x / 2 ^ n % 2).testBit (i - n) = false := Nat.testBit_lt_two_pow (Nat.lt_of_lt_of_le (Nat.mod_lt _ (by decide)) (by
        have : 2 ^ 1 ≤ 2 ^ (i - n) := Nat.pow_le_pow_right (by decide) (by omega)
        omega))
      simp [h, this]
    · simp [h, h2]
theorem bAnd_u64' {x y : Nat} (hx : x < 2 ^ 64) (hy : y < 2 ^ 64) : bAnd .u64 x y = ((x &&& y : Nat) : Int) := by
  have h : x &&& y < 2 ^ 64 := Nat.and_lt_two_pow x hy
  show IntKind.u64.wrap ((BitVec.ofInt 64 x &&& BitVec.ofInt 64 y).toNat : Int) = _
  rw [BitVec.toNat_and, BitVec.ofInt_natCast, BitVec.ofInt_natCast, BitVec.toNat_ofNat, BitVec.toNat_ofNat]
  rw [Nat.mod_eq_of_lt (by omega), Nat.mod_eq_of_lt (by omega)]
  exact u64_id (by omega)

def ownR (v : Nat) : Bool := (decide (0 < v) && decide (v < 281474976710656)) && (v / 1099511627776 % 2 == 0)
theorem own_spec (v : Nat) (h : v < 2 ^ 64) : addrs_Own.f (v : Int) = some (ownR v) := by
  unfold addrs_Own.f addrs_Own.k1 addrs_Group.f ownR
  have e0 : ((v : Int) != 0) = decide (0 < v) := by
    by_cases h : v = 0
    · subst h; rfl
    · rw [decide_eq_true (by omega)]; simp; omega
  have e1 : decide ((v : Int) < 281474976710656) = decide (v < 281474976710656) := lt_lit 281474976710656 v
  have e2 : bAnd .u64 (v : Int) 1099511627776 = (((v / 1099511627776 % 2) * 1099511627776 : Nat) : Int) := by
    have := bAnd_u64' (x := v) (y := 2 ^ 40) h (by decide)
    rw [and_pow] at this
    exact this
  rw [e0, e1, e2]
  cases (decide (0 < v) && decide (v < 281474976710656))
  · rfl
  · rw [cond_true, Option.bind_some]
    simp only [Bool.true_and]
    rcases Nat.mod_two_eq_zero_or_one (v / 1099511627776) with h | h <;> rw [h] <;> rfl
theorem rown_spec (v : Nat) (h : v < 2 ^ 64) : gangwayref02_Own.f (v : Int) = some (ownR v) := by
  unfold gangwayref02_Own.f gangwayref02_Own.k1 gangwayref02_Group.f ownR
  have e0 : decide ((v : Int) > 0) = decide (0 < v) := by
    by_cases h : 0 < v
    · rw [decide_eq_true h]; simp; omega
    · rw [decide_eq_false h]; simp; omega
  have e1 : decide ((v : Int) < 281474976710656) = decide (v < 281474976710656) := lt_lit 281474976710656 v
  have e2 : Int.tmod (u64 (Int.tdiv (v : Int) 1099511627776)) 2 = ((v / 1099511627776 % 2 : Nat) : Int) := by
    rw [show Int.tdiv (v : Int) 1099511627776 = ((v / 1099511627776 : Nat) : Int) from rfl, u64_id (by omega)]
    rfl
  rw [e0, e1, e2]
  cases (decide (0 < v) && decide (v < 281474976710656))
  · rfl
  · rw [cond_true, Option.bind_some]
    simp only [Bool.true_and]
    rcases Nat.mod_two_eq_zero_or_one (v / 1099511627776) with h | h <;> rw [h] <;> rfl

def arp0 : api_Arp := ⟨0, 0, 0, 0, 0⟩
def arpAt (s : ByteArray) : api_Arp := ⟨(at2 s 6 2 : Nat), (at2 s 8 6 : Nat), (at2 s 14 4 : Nat), (at2 s 18 6 : Nat), (at2 s 24 4 : Nat)⟩
def arpGood (s : ByteArray) : Bool := (s.extract 0 6 |> L) == [0, 1, 8, 0, 6, 4] && (((at2 s 6 2 == 1) || (at2 s 6 2 == 2)) && ownR (at2 s 8 6))
def arpParseR (s : ByteArray) : api_Arp × Int := if s.size < 28 then (arp0, 50) else if arpGood s then (arpAt s, 0) else (arp0, 51)
def arpR (f : api_Frame) : api_Arp × Bool := if f.Type_ = 2054 ∧ (arpParseR f.Body).2 = 0 then ((arpParseR f.Body).1, true) else (arp0, false)

theorem check_arp (s : ByteArray) : ∃ c, arp_Check.f (arpAt s) = some c ∧ (c != 0) = !(((at2 s 6 2 == 1) || (at2 s 6 2 == 2)) && ownR (at2 s 8 6)) := by
  unfold arp_Check.f arpAt
  have h1 := at2_lt s 6 2
  have h2 := at2_lt s 8 6
  have h3 := at2_lt s 18 6
  have k1 : ∀ b, ∃ c, arp_Check.k1 ⟨(at2 s 6 2 : Nat), (at2 s 8 6 : Nat), (at2 s 14 4 : Nat), (at2 s 18 6 : Nat), (at2 s 24 4 : Nat)⟩ b = some c ∧ (c != 0) = b := fun b => by
    unfold arp_Check.k1
    rw [show decide (((at2 s 18 6 : Nat) : Int) ≥ 281474976710656) = false by simp; omega, Bool.or_false]
    cases b <;> exact ⟨_, rfl, rfl⟩
  have e : ((((at2 s 6 2 : Nat) : Int) != 1) && (((at2 s 6 2 : Nat) : Int) != 2)) = !((at2 s 6 2 == 1) || (at2 s 6 2 == 2)) := by
    rw [Bool.not_or]
    congr 1
    · by_cases h : at2 s 6 2 = 1
      · rw [h]; rfl
      · rw [show ((((at2 s 6 2 : Nat) : Int) != 1)) = true by simp; omega, show (at2 s 6 2 == 1) = false by simpa using h]; rfl
    · by_cases h : at2 s 6 2 = 2
      · rw [h]; rfl
      · rw [show ((((at2 s 6 2 : Nat) : Int) != 2)) = true by simp; omega, show (at2 s 6 2 == 2) = false by simpa using h]; rfl
  dsimp only
  rw [e]
  cases ((at2 s 6 2 == 1) || (at2 s 6 2 == 2))
  · exact k1 true
  · simp only [Bool.not_true, cond_false, Bool.true_and]
    rw [own_spec _ (by omega), Option.bind_some]
    exact k1 _
theorem rcheck_arp (s : ByteArray) : ∃ c, gangwayref05_Check.f (arpAt s) = some c ∧ (c != 0) = !(((at2 s 6 2 == 1) || (at2 s 6 2 == 2)) && ownR (at2 s 8 6)) := by
  unfold gangwayref05_Check.f arpAt
  have h1 := at2_lt s 6 2
  have h2 := at2_lt s 8 6
  have h3 := at2_lt s 18 6
  have k1 : ∀ b, ∃ c, gangwayref05_Check.k1 ⟨(at2 s 6 2 : Nat), (at2 s 8 6 : Nat), (at2 s 14 4 : Nat), (at2 s 18 6 : Nat), (at2 s 24 4 : Nat)⟩ b = some c ∧ (c != 0) = b := fun b => by
    unfold gangwayref05_Check.k1
    have : Int.fdiv ((at2 s 18 6 : Nat) : Int) 281474976710656 = 0 := by
      rw [show Int.fdiv ((at2 s 18 6 : Nat) : Int) 281474976710656 = ((at2 s 18 6 / 281474976710656 : Nat) : Int) from Int.fdiv_eq_ediv_of_nonneg _ (by omega)]
      rw [Nat.div_eq_of_lt (by omega)]
      rfl
    dsimp only
    rw [this]
    cases b <;> exact ⟨_, rfl, rfl⟩
  have e : ((decide (((at2 s 6 2 : Nat) : Int) < 1)) || (decide (((at2 s 6 2 : Nat) : Int) > 2))) = !((at2 s 6 2 == 1) || (at2 s 6 2 == 2)) := by
    generalize at2 s 6 2 = n
    by_cases h : n = 1
    · subst h; rfl
    · by_cases h' : n = 2
      · subst h'; rfl
      · rw [show (n == 1) = false by simpa using h, show (n == 2) = false by simpa using h']
        by_cases h0 : n < 1
        · rw [show decide ((n : Int) < 1) = true by simp; omega]; rfl
        · rw [show decide ((n : Int) > 2) = true by simp; omega, Bool.or_true]; rfl
  dsimp only
  rw [e]
  cases ((at2 s 6 2 == 1) || (at2 s 6 2 == 2))
  · exact k1 true
  · simp only [Bool.not_true, cond_false, Bool.true_and]
    rw [rown_spec _ (by omega), Option.bind_some]
    exact k1 _

theorem get_at2 (s : ByteArray) (o n : Nat) (oi ni : Int) (ho : oi = o) (hni : ni = n) (hn : 1 ≤ n ∧ n ≤ 8) (h : o + n ≤ s.size) (hs : s.size ≤ 140737488351232) : arp_Parse_1.f 2000 ni s oi = some (((at2 s o n : Nat) : Int), ((o + n : Nat) : Int)) := by
  unfold arp_Parse_1.f
  subst ho hni
  rw [get_in s o n hn h hs, Option.bind_some]
  dsimp only
  rw [i64_id (by omega)]
  rfl

theorem arp_parse (s : ByteArray) (hs : s.size ≤ 100000) : arp_Parse.f 2000 s = some (arpParseR s) := by
  unfold arp_Parse.f arpParseR
  by_cases h : s.size < 28
  · rw [if_pos h, show decide ((s.size : Int) < 28) = true by simp; omega]
    rfl
  · rw [if_neg h, show decide ((s.size : Int) < 28) = false by simp; omega, cond_false]
    have h6 := at2_lt s 6 2
    have h14 := at2_lt s 14 4
    have h24 := at2_lt s 24 4
    have g1 : arp_Parse_1.f 2000 2 s 6 = some (((at2 s 6 2 : Nat) : Int), 8) := get_at2 s 6 2 _ _ rfl rfl (by omega) (by omega) (by omega)
    have g2 : arp_Parse_1.f 2000 6 s 8 = some (((at2 s 8 6 : Nat) : Int), 14) := get_at2 s 8 6 _ _ rfl rfl (by omega) (by omega) (by omega)
    have g3 : arp_Parse_1.f 2000 4 s 14 = some (((at2 s 14 4 : Nat) : Int), 18) := get_at2 s 14 4 _ _ rfl rfl (by omega) (by omega) (by omega)
    have g4 : arp_Parse_1.f 2000 6 s 18 = some (((at2 s 18 6 : Nat) : Int), 24) := get_at2 s 18 6 _ _ rfl rfl (by omega) (by omega) (by omega)
    have g5 : arp_Parse_1.f 2000 4 s 24 = some (((at2 s 24 4 : Nat) : Int), 28) := get_at2 s 24 4 _ _ rfl rfl (by omega) (by omega) (by omega)
    simp only [g1, g2, g3, g4, g5, Option.bind_some]
    have u1 : u32 ((at2 s 14 4 : Nat) : Int) = ((at2 s 14 4 : Nat) : Int) := by simp [u32, IntKind.wrap, IntKind.bits, IntKind.signed]; omega
    have u2 : u32 ((at2 s 24 4 : Nat) : Int) = ((at2 s 24 4 : Nat) : Int) := by simp [u32, IntKind.wrap, IntKind.bits, IntKind.signed]; omega
    have hpre : strings_HasPrefix.f s ⟨#[0, 1, 8, 0, 6, 4]⟩ = some (L (s.extract 0 6) == [0, 1, 8, 0, 6, 4]) := by
      unfold strings_HasPrefix.f stringslite_HasPrefix.f stringslite_HasPrefix.k1
      have hz : (⟨#[0, 1, 8, 0, 6, 4]⟩ : ByteArray).size = 6 := rfl
      rw [hz, show decide ((s.size : Int) ≥ ((6 : Nat) : Int)) = true by simp; omega, cond_true, sliceS_eq (by omega), Option.bind_some, Option.bind_some, toList_eq, toList_eq]
      rfl
    rw [hpre, Option.bind_some, i64_id (by omega), u1, u2]
    obtain ⟨c, hc, hc2⟩ := check_arp s
    unfold arpAt at hc
    unfold arpGood arpAt
    have fin : ∀ b, arp_Parse.k1 ((at2 s 6 2 : Nat) : Int) ((at2 s 8 6 : Nat) : Int) ((at2 s 14 4 : Nat) : Int) ((at2 s 18 6 : Nat) : Int) ((at2 s 24 4 : Nat) : Int) b = some (if !b then (⟨(at2 s 6 2 : Nat), (at2 s 8 6 : Nat), (at2 s 14 4 : Nat), (at2 s 18 6 : Nat), (at2 s 24 4 : Nat)⟩, 0) else (arp0, 51)) := fun b => by
      unfold arp_Parse.k1
      rw [i64_id (by omega), u1, u2]
      cases b <;> rfl
    cases (L (s.extract 0 6) == [0, 1, 8, 0, 6, 4])
    · exact fin true
    · simp only [Bool.not_true, cond_false, Bool.true_and]
      rw [hc, Option.bind_some, hc2, fin]
      cases (((at2 s 6 2 == 1) || (at2 s 6 2 == 2)) && ownR (at2 s 8 6)) <;> rfl

theorem rnum_at (s : ByteArray) (o n : Nat) (hn : n ≤ 7) (h : o + n ≤ s.size) : ∃ t, sliceS s (o : Int) ((o + n : Nat) : Int) = some t ∧ gangwayref01_Num.f 2000 t = some ((at2 s o n : Nat) : Int) := by
  have e := ext_at s o n h
  refine ⟨s.extract o (o + n), sliceS_eq (by omega), ?_⟩
  rw [num_spec _ (by omega), e.1]

theorem rarp_parse (s : ByteArray) : gangwayref05_Parse.f 2000 s = some (arpParseR s) := by
  unfold gangwayref05_Parse.f arpParseR
  by_cases h : s.size < 28
  · rw [if_pos h, show decide ((s.size : Int) < 28) = true by simp; omega]
    rfl
  · rw [if_neg h, show decide ((s.size : Int) < 28) = false by simp; omega, cond_false]
    have h6 := at2_lt s 6 2
    have h14 := at2_lt s 14 4
    have h24 := at2_lt s 24 4
    obtain ⟨t1, a1, b1⟩ := rnum_at s 6 2 (by omega) (by omega)
    obtain ⟨t2, a2, b2⟩ := rnum_at s 8 6 (by omega) (by omega)
    obtain ⟨t3, a3, b3⟩ := rnum_at s 14 4 (by omega) (by omega)
    obtain ⟨t4, a4, b4⟩ := rnum_at s 18 6 (by omega) (by omega)
    obtain ⟨t5, a5, b5⟩ := rnum_at s 24 4 (by omega) (by omega)
    rw [show sliceS s 6 8 = some t1 from a1, Option.bind_some, b1, Option.bind_some, show sliceS s 8 14 = some t2 from a2, Option.bind_some, b2, Option.bind_some, show sliceS s 14 18 = some t3 from a3, Option.bind_some, b3, Option.bind_some, show sliceS s 18 24 = some t4 from a4, Option.bind_some, b4, Option.bind_some, show sliceS s 24 28 = some t5 from a5, Option.bind_some, b5, Option.bind_some,
      sliceS_eq (l := 0) (h := 6) (by omega), Option.bind_some, toList_eq, toList_eq]
    have u1 : u32 ((at2 s 14 4 : Nat) : Int) = ((at2 s 14 4 : Nat) : Int) := by simp [u32, IntKind.wrap, IntKind.bits, IntKind.signed]; omega
    have u2 : u32 ((at2 s 24 4 : Nat) : Int) = ((at2 s 24 4 : Nat) : Int) := by simp [u32, IntKind.wrap, IntKind.bits, IntKind.signed]; omega
    rw [i64_id (by omega), u1, u2]
    obtain ⟨c, hc, hc2⟩ := rcheck_arp s
    unfold arpAt at hc
    unfold arpGood arpAt
    rw [show L (⟨#[0, 1, 8, 0, 6, 4]⟩ : ByteArray) = [0, 1, 8, 0, 6, 4] from rfl, show s.extract (Int.toNat 0) (Int.toNat 6) = s.extract 0 6 from rfl]
    have fin : ∀ b, gangwayref05_Parse.k1 ((at2 s 6 2 : Nat) : Int) ((at2 s 8 6 : Nat) : Int) ((at2 s 14 4 : Nat) : Int) ((at2 s 18 6 : Nat) : Int) ((at2 s 24 4 : Nat) : Int) b = some (if !b then (⟨(at2 s 6 2 : Nat), (at2 s 8 6 : Nat), (at2 s 14 4 : Nat), (at2 s 18 6 : Nat), (at2 s 24 4 : Nat)⟩, 0) else (arp0, 51)) := fun b => by
      unfold gangwayref05_Parse.k1
      rw [i64_id (by omega), u1, u2]
      cases b <;> rfl
    cases (L (s.extract 0 6) == [0, 1, 8, 0, 6, 4])
    · exact fin true
    · simp only [Bool.not_true, cond_false, Bool.true_and]
      rw [hc, Option.bind_some, hc2, fin]
      cases (((at2 s 6 2 == 1) || (at2 s 6 2 == 2)) && ownR (at2 s 8 6)) <;> rfl

theorem arpParse_bad (s : ByteArray) (h : (arpParseR s).2 ≠ 0) : (arpParseR s).1 = arp0 := by
  unfold arpParseR at h ⊢
  split
  · rfl
  · split
    · rename_i h1 h2
      rw [if_neg h1, if_pos h2] at h
      exact absurd rfl h
    · rfl
theorem arp_spec (f : api_Frame) (hs : f.Body.size ≤ 100000) : arp_Of.f 2000 f = some (arpR f) := by
  unfold arp_Of.f arpR
  by_cases h : f.Type_ = 2054
  · rw [show (f.Type_ != 2054) = false by simp [h], cond_false, arp_parse _ hs, Option.bind_some]
    by_cases h2 : (arpParseR f.Body).2 = 0
    · rw [if_pos ⟨h, h2⟩]
      dsimp only
      rw [h2]
      rfl
    · rw [if_neg (by simp [h2])]
      dsimp only
      rw [arpParse_bad _ h2, show ((arpParseR f.Body).2 == 0) = false by simpa using h2]
  · rw [show (f.Type_ != 2054) = true by simp [h], if_neg (by simp [h])]
    rfl
theorem rarp_spec (f : api_Frame) : gangwayref05_Of.f 2000 f = some (arpR f) := by
  unfold gangwayref05_Of.f arpR
  rw [rarp_parse, Option.bind_some]
  dsimp only
  by_cases h : f.Type_ = 2054 ∧ (arpParseR f.Body).2 = 0
  · rw [if_pos h, show ((f.Type_ != 2054) || ((arpParseR f.Body).2 != 0)) = false by simp [h.1, h.2]]
    rfl
  · rw [if_neg h, show ((f.Type_ != 2054) || ((arpParseR f.Body).2 != 0)) = true by
      by_cases h1 : f.Type_ = 2054
      · have : (arpParseR f.Body).2 ≠ 0 := fun e => h ⟨h1, e⟩
        simp [this]
      · simp [h1]]
    rfl
end Go.Proofs.YtbbekdmndifkpaaGreatDoor

/- Which event is the first that may not be: in plain words; what was there ahead of an event can only help it. -/
namespace Go.Proofs.YtbbekdmndifkpaaGreatDoor
open Go Eng
set_option linter.unusedVariables false
set_option linter.unusedSimpArgs false
set_option linter.unusedSectionVars false

theorem extract_le (s : ByteArray) (a b : Nat) : (s.extract a b).size ≤ s.size := by rw [ByteArray.size_extract]; omega
theorem body_le (s : ByteArray) : (parseR s).1.Body.size ≤ s.size := by
  have hb : ∀ p (a : api_Frame) n, a.Body.size ≤ s.size → (bodyR s p a n).1.Body.size ≤ s.size := fun p a n ha => by
    unfold bodyR
    split
    · exact Nat.zero_le _
    · split
      · exact extract_le _ _ _
      · split
        · exact Nat.zero_le _
        · exact Nat.le_trans (extract_le _ _ _) (extract_le _ _ _)
  unfold parseR
  split
  · exact Nat.zero_le _
  · split
    · exact Nat.zero_le _
    · split
      · split
        · exact Nat.zero_le _
        · exact hb _ _ _ (Nat.zero_le _)
      · exact hb _ _ _ (Nat.zero_le _)
theorem seen_body (g : List api_Gate) (e : api_Event) : (seenR g e).f.Body.size ≤ e.S.size := by
  have hi : ∀ p, (inR p (parseR e.S).1).2.1.Body.size ≤ e.S.size := fun p => by
    unfold inR
    dsimp only
    split
    · split
      · exact body_le _
      · exact Nat.zero_le _
    · split
      · exact body_le _
      · exact Nat.zero_le _
  show (ofR g e).2.1.Body.size ≤ _
  unfold ofR
  split
  · exact Nat.zero_le _
  · split
    · exact Nat.zero_le _
    · split
      · exact Nat.zero_le _
      · split
        · exact Nat.zero_le _
        · exact hi _

def bridgesR (e : api_Event) : Bool := (((parseR e.S).2 == 0) && (decide ((parseR e.S).1.Dst ≥ 1652522221568))) && (decide ((parseR e.S).1.Dst < 1652522221584))
theorem bridges_spec (e : api_Event) : trace_bridges.f 2000 e = some (bridgesR e) := by
  unfold trace_bridges.f
  rw [parse_spec, Option.bind_some]
  rfl

def frameEq (a b : api_Frame) : Bool := ((a.Dst == b.Dst) && ((a.Src == b.Src) && (((a.Tag.Has == b.Tag.Has) && ((a.Tag.Pri == b.Tag.Pri) && ((a.Tag.Dei == b.Tag.Dei) && ((a.Tag.Vid == b.Tag.Vid) && true)))) && ((a.Type_ == b.Type_) && ((a.Body == b.Body) && true)))))
def carriedP (g : List api_Gate) (x s : trace_seen) : Bool := (((s.Event.Gate != x.Event.Gate) || (s.Event.Port != x.Event.Port)) && sameR g s x) && frameEq s.f x.f
def askedP (b : api_Arp) (x s : trace_seen) : Bool := ((((((arpR s.f).2 && (((s.Event.Gate == x.Event.Gate) && (s.Event.Port == x.Event.Port)) && (s.vid == x.vid))) && ((arpR s.f).1.Op == 1)) && (s.f.Dst == 281474976710655)) && ((arpR s.f).1.SMac == b.TMac)) && ((arpR s.f).1.SIp == b.TIp)) && ((arpR s.f).1.TIp == b.SIp)
def toldP (g : List api_Gate) (b : api_Arp) (x s : trace_seen) : Bool := ((((arpR s.f).2 && sameR g s x) && ((arpR s.f).1.SMac == s.f.Src)) && ((arpR s.f).1.SMac == b.SMac)) && ((arpR s.f).1.SIp == b.SIp)
/-- Is there one that came in, of which this holds? -/
def came (l : List trace_seen) (p : trace_seen → Bool) : Bool := l.any fun s => (s.Event.In && s.is_) && p s
def answersR (g : List api_Gate) (l : List trace_seen) (x : trace_seen) : Bool :=
  !(((((!x.is_) || (!(arpR x.f).2)) || ((arpR x.f).1.Op != 2)) || ((arpR x.f).1.SMac != x.f.Src)) || (x.f.Dst != (arpR x.f).1.TMac)) && (came l (askedP (arpR x.f).1 x) && came l (toldP g (arpR x.f).1 x))
/-- May one not be, behind those? -/
def badR (g : List api_Gate) (l : List api_Event) (e : api_Event) : Bool :=
  !e.In && (!bridgesR e && (!came (l.map (seenR g)) (carriedP g (seenR g e)) && !answersR g (l.map (seenR g)) (seenR g e)))

theorem came_spec (l : List trace_seen) (n : Nat) (hn : n ≤ l.length) (hl : l.length ≤ 1000) (Y : trace_seen → Option (Option Bool)) (p : trace_seen → Bool) (hY : ∀ s ∈ l, Y s = some (if p s then some true else none)) : trace_came_1.f 2000 l n Y (some false) = some (came (l.take n) p) := by
  unfold trace_came_1.f
  rw [sliceL_take hn, Option.bind_some]
  have hlt : (l.take n).length ≤ 1000 := by rw [List.length_take]; omega
  have hY' : ∀ s ∈ l.take n, Y s = some (if p s then some true else none) := fun s hs => hY s (List.mem_of_mem_take hs)
  generalize l.take n = t at hlt hY'
  have key : ∀ (r pre : List trace_seen) (fuel : Nat), t = pre ++ r → r.length < fuel → trace_came_1.l2 t Y (some false) fuel (pre.length : Int) = some (came r p) := by
    intro r
    induction r with
    | nil =>
      intro pre fuel e hf
      obtain ⟨fuel, rfl⟩ : ∃ q, fuel = q + 1 := ⟨fuel - 1, by omega⟩
      subst e
      simp [trace_came_1.l2, came]
    | cons x r ih =>
      intro pre fuel e hf
      obtain ⟨fuel, rfl⟩ : ∃ q, fuel = q + 1 := ⟨fuel - 1, by omega⟩
      have hlen : t.length = pre.length + (r.length + 1) := by rw [e]; simp
      have hx : t[pre.length]'(by omega) = x := by simp [e]
      have := ih (pre ++ [x]) fuel (by rw [e]; simp) (by simp at hf; omega)
      rw [List.length_append, List.length_singleton] at this
      simp only [trace_came_1.l2, trace_came_1.k1]
      rw [lt_t (by omega), cond_true, getL_at (by omega), Option.bind_some, hx, i64_next (by omega), this]
      unfold came
      rw [List.any_cons]
      cases (x.Event.In && x.is_)
      · rfl
      · rw [cond_true, hY' x (by rw [e]; simp), Option.bind_some]
        cases p x <;> rfl
  exact key t [] 2000 rfl (by omega)

section
variable (g : List api_Gate) (hg : GatesOk g) (es : List api_Event) (hl : es.length ≤ 100) (hS : ∀ e ∈ es, e.S.size ≤ 200) (n : Nat) (hn : n < es.length)
include hg hl hS hn

theorem seen_get : getL (es.map (seenR g)).length (es.map (seenR g)) (n : Int) = some (seenR g es[n]) := by
  have h := getL_at (xs := es.map (seenR g)) (i := n) (by simpa using hn)
  rw [h]; simp

theorem carried_spec : trace_carried.f 2000 g (es.map (seenR g)) n = some (came ((es.take n).map (seenR g)) (carriedP g (seenR g es[n]))) := by
  unfold trace_carried.f trace_came.f
  rw [seen_get g hg es hl hS n hn, Option.bind_some, Option.bind_some]
  dsimp only
  rw [came_spec _ n (by simp; omega) (by simp; omega) _ (carriedP g (seenR g es[n])) fun s hs => ?_, List.map_take]
  obtain ⟨e, he, rfl⟩ := List.mem_map.1 hs
  unfold trace_carried.b3 carriedP
  have k1 : ∀ b, trace_carried.k1 b = some (if b then some true else none) := fun b => by cases b <;> rfl
  have k2 : ∀ b, trace_carried.k2 (seenR g e) (seenR g es[n]) b = some (if b && frameEq (seenR g e).f (seenR g es[n]).f then some true else none) := fun b => by
    unfold trace_carried.k2
    cases b
    · rfl
    · exact k1 _
  cases (((seenR g e).Event.Gate != (seenR g es[n]).Event.Gate) || ((seenR g e).Event.Port != (seenR g es[n]).Event.Port))
  · exact k2 false
  · rw [cond_true, same_spec g hg, Option.bind_some]
    exact k2 _

theorem asked_spec (b : api_Arp) : trace_asked.f 2000 (es.map (seenR g)) n b = some (came ((es.take n).map (seenR g)) (askedP b (seenR g es[n]))) := by
  unfold trace_asked.f trace_came.f
  rw [seen_get g hg es hl hS n hn, Option.bind_some, Option.bind_some]
  dsimp only
  rw [came_spec _ n (by simp; omega) (by simp; omega) _ (askedP b (seenR g es[n])) fun s hs => ?_, List.map_take]
  obtain ⟨e, he, rfl⟩ := List.mem_map.1 hs
  unfold trace_asked.b1
  have := seen_body g e
  have := hS e he
  rw [arp_spec _ (by omega), Option.bind_some]
  show cond (askedP b (seenR g es[n]) (seenR g e)) _ _ = _
  cases askedP b (seenR g es[n]) (seenR g e) <;> rfl

theorem told_spec (b : api_Arp) : trace_told.f 2000 g (es.map (seenR g)) n b = some (came ((es.take n).map (seenR g)) (toldP g b (seenR g es[n]))) := by
  unfold trace_told.f trace_came.f
  rw [Option.bind_some]
  dsimp only
  rw [came_spec _ n (by simp; omega) (by simp; omega) _ (toldP g b (seenR g es[n])) fun s hs => ?_, List.map_take]
  obtain ⟨e, he, rfl⟩ := List.mem_map.1 hs
  unfold trace_told.b2
  have := seen_body g e
  have := hS e he
  rw [arp_spec _ (by omega), Option.bind_some]
  have k1 : ∀ q, trace_told.k1 (arpR (seenR g e).f).1 (seenR g e) b q = some (if (((q && ((arpR (seenR g e).f).1.SMac == (seenR g e).f.Src)) && ((arpR (seenR g e).f).1.SMac == b.SMac)) && ((arpR (seenR g e).f).1.SIp == b.SIp)) then some true else none) := fun q => by
    unfold trace_told.k1
    cases (((q && ((arpR (seenR g e).f).1.SMac == (seenR g e).f.Src)) && ((arpR (seenR g e).f).1.SMac == b.SMac)) && ((arpR (seenR g e).f).1.SIp == b.SIp)) <;> rfl
  unfold toldP
  dsimp only
  cases (arpR (seenR g e).f).2
  · exact k1 false
  · rw [cond_true, seen_get g hg es hl hS n hn, Option.bind_some, same_spec g hg, Option.bind_some]
    exact k1 _

theorem answers_spec : trace_answers.f 2000 g (es.map (seenR g)) n = some (answersR g ((es.take n).map (seenR g)) (seenR g es[n])) := by
  unfold trace_answers.f answersR
  have := seen_body g es[n]
  have := hS es[n] (List.getElem_mem hn)
  rw [seen_get g hg es hl hS n hn, Option.bind_some, arp_spec _ (by omega), Option.bind_some]
  dsimp only
  cases (((((!(seenR g es[n]).is_) || (!(arpR (seenR g es[n]).f).2)) || ((arpR (seenR g es[n]).f).1.Op != 2)) || ((arpR (seenR g es[n]).f).1.SMac != (seenR g es[n]).f.Src)) || ((seenR g es[n]).f.Dst != (arpR (seenR g es[n]).f).1.TMac))
  · rw [cond_false, asked_spec g hg es hl hS n hn, Option.bind_some]
    cases came ((es.take n).map (seenR g)) (askedP (arpR (seenR g es[n]).f).1 (seenR g es[n]))
    · rfl
    · rw [cond_true, told_spec g hg es hl hS n hn, Option.bind_some]
      simp [trace_answers.k1]
  · rfl
end

/-- The first number that a property has, if any. -/
def firstR (p : Nat → Bool) : Nat → Nat → Int
  | 0, _ => -1
  | j + 1, i => if p i then (i : Int) else firstR p j (i + 1)

theorem first_none {p : Nat → Bool} : ∀ {j i : Nat}, (∀ k, i ≤ k → k < i + j → p k = false) → firstR p j i = -1
  | 0, i, h => rfl
  | j + 1, i, h => by
    unfold firstR
    rw [h i (by omega) (by omega)]
    exact first_none fun k hk hk2 => h k (by omega) (by omega)
theorem first_at {p : Nat → Bool} : ∀ {j i : Nat} (m : Nat), i ≤ m → m < i + j → p m = true → (∀ k, i ≤ k → k < m → p k = false) → firstR p j i = m
  | 0, i, m, h1, h2, _, _ => by omega
  | j + 1, i, m, h1, h2, hm, h => by
    unfold firstR
    by_cases e : i = m
    · subst e; rw [hm]; rfl
    · rw [h i (by omega) (by omega)]
      exact first_at m (by omega) (by omega) hm fun k hk hk2 => h k (by omega) hk2
theorem first_cases (p : Nat → Bool) : ∀ (j i : Nat), (firstR p j i = -1 ∧ ∀ k, i ≤ k → k < i + j → p k = false) ∨ ∃ m, i ≤ m ∧ m < i + j ∧ firstR p j i = (m : Nat) ∧ p m = true ∧ ∀ k, i ≤ k → k < m → p k = false
  | 0, i => .inl ⟨rfl, fun k _ _ => by omega⟩
  | j + 1, i => by
    unfold firstR
    cases hp : p i
    · rcases first_cases p j (i + 1) with ⟨h1, h2⟩ | ⟨m, h1, h2, h3, h4, h5⟩
      · exact .inl ⟨h1, fun k hk hk2 => by
          by_cases e : k = i
          · subst e; exact hp
          · exact h2 k (by omega) (by omega)⟩
      · exact .inr ⟨m, by omega, by omega, h3, h4, fun k hk hk2 => by
          by_cases e : k = i
          · subst e; exact hp
          · exact h5 k (by omega) hk2⟩
    · exact .inr ⟨i, by omega, by omega, rfl, hp, fun k _ _ => by omega⟩

def badAt (g : List api_Gate) (es : List api_Event) (n : Nat) : Bool := match es[n]? with
  | none => false
  | some e => badR g (es.take n) e

theorem First_spec (g : List api_Gate) (hg : GatesOk g) (es : List api_Event) (hl : es.length ≤ 100) (hS : ∀ e ∈ es, e.S.size ≤ 200) : trace_First.f 2000 g es = some (firstR (badAt g es) es.length 0) := by
  unfold trace_First.f
  have h8 : ∀ (j i fuel : Nat), i + j = es.length → j < fuel → trace_First.l8 es 2000 g (es.map (seenR g)) fuel 0 (i : Int) = some (firstR (badAt g es) j i) := by
    intro j
    induction j with
    | zero =>
      intro i fuel e hf
      obtain ⟨fuel, rfl⟩ : ∃ q, fuel = q + 1 := ⟨fuel - 1, by omega⟩
      simp only [trace_First.l8]
      rw [lt_f (by omega)]
      rfl
    | succ j ih =>
      intro i fuel e hf
      obtain ⟨fuel, rfl⟩ : ∃ q, fuel = q + 1 := ⟨fuel - 1, by omega⟩
      have hi : i < es.length := by omega
      have hnext := ih (i + 1) fuel (by omega) (by omega)
      have k5 : ∀ a b, trace_First.k5 (i : Int) 0 (trace_First.l8 es 2000 g (es.map (seenR g)) fuel) a b = some (if b then (i : Int) else firstR (badAt g es) j (i + 1)) := fun a b => by
        unfold trace_First.k5
        rw [i64_next (by omega)]
        cases b
        · exact hnext
        · rfl
      have k6 : ∀ a b, trace_First.k6 2000 g (es.map (seenR g)) (i : Int) 0 (trace_First.l8 es 2000 g (es.map (seenR g)) fuel) a b = some (if b && !answersR g ((es.take i).map (seenR g)) (seenR g es[i]) then (i : Int) else firstR (badAt g es) j (i + 1)) := fun a b => by
        unfold trace_First.k6
        cases b
        · exact k5 false false
        · rw [cond_true, answers_spec g hg es hl hS i hi, Option.bind_some]
          exact k5 _ _
      have k7 : ∀ a b, trace_First.k7 2000 g (es.map (seenR g)) (i : Int) 0 (trace_First.l8 es 2000 g (es.map (seenR g)) fuel) a b = some (if b && (!came ((es.take i).map (seenR g)) (carriedP g (seenR g es[i])) && !answersR g ((es.take i).map (seenR g)) (seenR g es[i])) then (i : Int) else firstR (badAt g es) j (i + 1)) := fun a b => by
        unfold trace_First.k7
        cases b
        · exact k6 false false
        · rw [cond_true, carried_spec g hg es hl hS i hi, Option.bind_some]
          exact k6 _ _
      simp only [trace_First.l8]
      rw [lt_t hi, cond_true, getL_at hi, Option.bind_some]
      have hb : badAt g es i = badR g (es.take i) es[i] := by unfold badAt; rw [List.getElem?_eq_getElem hi]
      unfold firstR
      rw [hb]
      unfold badR
      cases es[i].In
      · simp only [Bool.not_false, cond_true]
        rw [bridges_spec, Option.bind_some]
        exact k7 _ _
      · simp only [Bool.not_true, cond_false]
        exact k7 _ _
  have h1 : ∀ (j i fuel : Nat), i + j = es.length → j < fuel → trace_First.l1 es 2000 g fuel ((es.take i).map (seenR g)) (i : Int) = some (firstR (badAt g es) es.length 0) := by
    intro j
    induction j with
    | zero =>
      intro i fuel e hf
      obtain ⟨fuel, rfl⟩ : ∃ q, fuel = q + 1 := ⟨fuel - 1, by omega⟩
      simp only [trace_First.l1]
      rw [lt_f (by omega), cond_false, List.take_of_length_le (by omega)]
      exact h8 es.length 0 2000 (by omega) (by omega)
    | succ j ih =>
      intro i fuel e hf
      obtain ⟨fuel, rfl⟩ : ∃ q, fuel = q + 1 := ⟨fuel - 1, by omega⟩
      have hi : i < es.length := by omega
      simp only [trace_First.l1]
      rw [lt_t hi, cond_true, getL_at hi, Option.bind_some, of_spec g hg, Option.bind_some, room_ok (by simp; omega) (by simp; omega), Option.bind_some, i64_next (by omega)]
      have : (es.take i).map (seenR g) ++ [seenR g es[i]] = (es.take (i + 1)).map (seenR g) := by rw [List.take_add_one, List.getElem?_eq_getElem hi, List.map_append]; rfl
      rw [this]
      exact ih (i + 1) fuel (by omega) (by omega)
  exact h1 es.length 0 2000 (by omega) (by omega)

/-! ### What was there ahead can only help -/
theorem came_mono {l l' : List trace_seen} (h : ∀ s ∈ l, s ∈ l') (p : trace_seen → Bool) (hc : came l p = true) : came l' p = true := by
  unfold came at *
  rw [List.any_eq_true] at hc ⊢
  obtain ⟨s, hs, hp⟩ := hc
  exact ⟨s, h s hs, hp⟩
theorem bad_mono (g : List api_Gate) {l l' : List api_Event} (h : ∀ s ∈ l, s ∈ l') (e : api_Event) (hb : badR g l' e = true) : badR g l e = true := by
  have hm : ∀ s ∈ l.map (seenR g), s ∈ l'.map (seenR g) := fun s hs => by
    obtain ⟨q, hq, rfl⟩ := List.mem_map.1 hs
    exact List.mem_map.2 ⟨q, h q hq, rfl⟩
  have c1 : ∀ p, came (l'.map (seenR g)) p = false → came (l.map (seenR g)) p = false := fun p hp => by
    cases hc : came (l.map (seenR g)) p
    · rfl
    · rw [came_mono hm p hc] at hp; cases hp
  unfold badR answersR at *
  simp only [Bool.and_eq_true, Bool.not_eq_true'] at hb ⊢
  obtain ⟨h1, h2, h3, h4⟩ := hb
  refine ⟨h1, h2, c1 _ h3, ?_⟩
  rw [Bool.and_eq_false_iff] at h4 ⊢
  rcases h4 with h4 | h4
  · exact .inl h4
  · right
    rw [Bool.and_eq_false_iff] at h4 ⊢
    rcases h4 with h4 | h4
    · exact .inl (c1 _ h4)
    · exact .inr (c1 _ h4)

theorem bAnd_65535 (a : Int) : ∃ n : Nat, bAnd .i64 a 65535 = n ∧ n ≤ 65535 := by
  have h : (BitVec.ofInt 64 a).toNat &&& 65535 ≤ 65535 := Nat.and_le_right
  refine ⟨(BitVec.ofInt 64 a).toNat &&& 65535, ?_, h⟩
  show IntKind.i64.wrap ((BitVec.ofInt 64 a &&& BitVec.ofInt 64 65535).toNat : Int) = _
  rw [BitVec.toNat_and]
  have e : (BitVec.ofInt 64 65535).toNat = 65535 := by decide
  rw [e]
  exact i64_id (by omega)
theorem rem_spec (a : Int) (m : Nat) (hm : 0 < m) : ∃ n : Nat, remI (bAnd .i64 a 65535) (m : Int) = some (n : Int) ∧ n < m := by
  obtain ⟨q, hq, _⟩ := bAnd_65535 a
  refine ⟨q % m, ?_, Nat.mod_lt _ hm⟩
  unfold remI
  rw [if_neg (by omega), hq]
  rfl

set_option maxRecDepth 1000000 in
theorem fixed28 : gangwaylaw28_fixed.f 2000 = some true := by kernel_rfl
end Go.Proofs.YtbbekdmndifkpaaGreatDoor

/- What the document's answer says of an event: the same. -/
namespace Go.Proofs.YtbbekdmndifkpaaGreatDoor
open Go Eng
set_option linter.unusedVariables false
set_option linter.unusedSimpArgs false
set_option linter.unusedSectionVars false

theorem beq_comm' {α : Type} [BEq α] [LawfulBEq α] (a b : α) : (a == b) = (b == a) := by
  by_cases h : a = b
  · subst h; rfl
  · rw [show (a == b) = false by simpa using h, show (b == a) = false by simpa using fun e => h e.symm]
theorem bytes_comm (a b : ByteArray) : (a == b) = (b == a) := by rw [bytes_beq, bytes_beq]; exact beq_comm' _ _
theorem frameEq_comm (a b : api_Frame) : frameEq a b = frameEq b a := by
  unfold frameEq
  rw [beq_comm' a.Dst, beq_comm' a.Src, beq_comm' a.Tag.Has, beq_comm' a.Tag.Pri, beq_comm' a.Tag.Dei, beq_comm' a.Tag.Vid, beq_comm' a.Type_, bytes_comm a.Body]
theorem same_is (g : List api_Gate) (a b : trace_seen) (h : sameR g a b = true) : a.is_ = true := by
  unfold sameR at h
  simp only [Bool.and_eq_true] at h
  exact h.1.1

/-- A loop over what came ahead, that ends where one is found. -/
theorem search {α : Type} (f : Nat → Nat → Option Bool) (p : α → Bool) (l : List α) (hend : ∀ n, f (n + 1) l.length = some false) (hstep : ∀ n i (h : i < l.length), f (n + 1) i = if p l[i] then some true else f n (i + 1)) : ∀ (j i fuel : Nat), i + j = l.length → j < fuel → f fuel i = some ((l.drop i).any p)
  | _, _, 0, _, h => by omega
  | 0, i, fuel + 1, e, _ => by
    obtain rfl : i = l.length := by omega
    rw [hend, List.drop_length]
    rfl
  | j + 1, i, fuel + 1, e, h => by
    rw [hstep fuel i (by omega), search f p l hend hstep j (i + 1) fuel (by omega) (by omega), List.drop_eq_getElem_cons (show i < l.length by omega), List.any_cons]
    cases p l[i] <;> rfl

theorem any_map_came (g : List api_Gate) (l : List api_Event) (p : trace_seen → Bool) (q : api_Event → Bool) (h : ∀ e ∈ l, q e = ((e.In && (seenR g e).is_) && p (seenR g e))) : l.any q = came (l.map (seenR g)) p := by
  unfold came
  rw [List.any_map]
  induction l with
  | nil => rfl
  | cons e l ih =>
    rw [List.any_cons, List.any_cons, ih fun e he => h e (List.mem_cons_of_mem _ he), h e (List.mem_cons_self ..)]
    rfl

section
variable (g : List api_Gate) (hg : GatesOk g) (es : List api_Event) (hl : es.length ≤ 100) (hS : ∀ e ∈ es, e.S.size ≤ 200) (n : Nat) (hn : n < es.length)
include hg hl hS hn

theorem take_get (i : Nat) (h : i < (es.take n).length) : (es.take n)[i] = es[i]'(by rw [List.length_take] at h; omega) := by simp
theorem take_len : (es.take n).length = n := by rw [List.length_take]; omega

theorem rcarried_spec : gangwayref28_carried.f 2000 g es n = some (came ((es.take n).map (seenR g)) (carriedP g (seenR g es[n]))) := by
  unfold gangwayref28_carried.f
  rw [getL_at hn, Option.bind_some, rof_spec g hg, Option.bind_some]
  try dsimp only
  have ht := take_len g hg es hl hS n hn
  have := search (fun fuel i => gangwayref28_carried.l4 (n : Int) es 2000 g (ofR g es[n]).2.1 fuel false (i : Int)) (fun e => (e.In && (seenR g e).is_) && carriedP g (seenR g es[n]) (seenR g e)) (es.take n) (fun fuel => by
      rw [ht]
      simp only [gangwayref28_carried.l4]
      rw [lt_f (Nat.le_refl _)]
      rfl) (fun fuel i hi => by
      rw [ht] at hi
      rw [take_get g hg es hl hS n hn i (by rw [ht]; exact hi)]
      have hi' : i < es.length := by omega
      have k1 : ∀ a b, gangwayref28_carried.k1 false (i : Int) (gangwayref28_carried.l4 (n : Int) es 2000 g (ofR g es[n]).2.1 fuel) a b = if b then some true else gangwayref28_carried.l4 (n : Int) es 2000 g (ofR g es[n]).2.1 fuel false ((i + 1 : Nat) : Int) := fun a b => by
        unfold gangwayref28_carried.k1
        rw [i64_next (by omega)]
        cases b <;> rfl
      have k2 : ∀ a b, gangwayref28_carried.k2 false (i : Int) (ofR g es[n]).2.1 (ofR g es[i]).2.1 (gangwayref28_carried.l4 (n : Int) es 2000 g (ofR g es[n]).2.1 fuel) a b = if b && frameEq (seenR g es[i]).f (seenR g es[n]).f then some true else gangwayref28_carried.l4 (n : Int) es 2000 g (ofR g es[n]).2.1 fuel false ((i + 1 : Nat) : Int) := fun a b => by
        unfold gangwayref28_carried.k2
        cases b
        · exact k1 false false
        · rw [frameEq_comm]
          exact k1 true _
      have k3 : ∀ a b, gangwayref28_carried.k3 es (i : Int) (n : Int) 2000 g false (ofR g es[n]).2.1 (ofR g es[i]).2.1 (gangwayref28_carried.l4 (n : Int) es 2000 g (ofR g es[n]).2.1 fuel) a b = if es[i].In && (b && (sameR g (seenR g es[i]) (seenR g es[n]) && frameEq (seenR g es[i]).f (seenR g es[n]).f)) then some true else gangwayref28_carried.l4 (n : Int) es 2000 g (ofR g es[n]).2.1 fuel false ((i + 1 : Nat) : Int) := fun a b => by
        unfold gangwayref28_carried.k3
        rw [getL_at hi', Option.bind_some, Option.bind_some, getL_at hn, Option.bind_some, rsame_spec g hg, Option.bind_some]
        cases es[i].In
        · exact k2 false false
        · cases b
          · exact k2 false false
          · exact k2 true _
      have e1 : ((es[i].In && (seenR g es[i]).is_) && carriedP g (seenR g es[n]) (seenR g es[i])) = (es[i].In && (((es[i].Gate != es[n].Gate) || (es[i].Port != es[n].Port)) && (sameR g (seenR g es[i]) (seenR g es[n]) && frameEq (seenR g es[i]).f (seenR g es[n]).f))) := by
        unfold carriedP
        show ((es[i].In && (seenR g es[i]).is_) && ((((es[i].Gate != es[n].Gate) || (es[i].Port != es[n].Port)) && sameR g (seenR g es[i]) (seenR g es[n])) && frameEq (seenR g es[i]).f (seenR g es[n]).f)) = _
        cases hs : sameR g (seenR g es[i]) (seenR g es[n])
        · simp
        · rw [same_is g _ _ hs]; simp [Bool.and_assoc]
      rw [e1]
      simp only [gangwayref28_carried.l4]
      rw [lt_t hi, cond_true, getL_at hi', Option.bind_some, rof_spec g hg, Option.bind_some]
      try dsimp only
      rw [Option.bind_some, getL_at hn, Option.bind_some]
      cases hG : (es[i].Gate != es[n].Gate)
      · rw [cond_false, Option.bind_some, Option.bind_some]
        exact k3 false _
      · exact k3 true true) n 0 2000 (by omega) (by omega)
  rw [List.drop_zero] at this
  exact this.trans (congrArg some (any_map_came g _ _ _ fun e he => rfl))

theorem rasked_spec (b : api_Arp) : gangwayref28_asked.f 2000 g es n b = some (came ((es.take n).map (seenR g)) (askedP b (seenR g es[n]))) := by
  unfold gangwayref28_asked.f
  rw [getL_at hn, Option.bind_some, rof_spec g hg, Option.bind_some]
  try dsimp only
  have ht := take_len g hg es hl hS n hn
  have := search (fun fuel i => gangwayref28_asked.l1 (n : Int) es 2000 g es[n] (ofR g es[n]).1 b fuel false (i : Int)) (fun e => (e.In && (seenR g e).is_) && askedP b (seenR g es[n]) (seenR g e)) (es.take n) (fun fuel => by
      rw [ht]
      simp only [gangwayref28_asked.l1]
      rw [lt_f (Nat.le_refl _)]
      rfl) (fun fuel i hi => by
      rw [ht] at hi
      rw [take_get g hg es hl hS n hn i (by rw [ht]; exact hi)]
      have hi' : i < es.length := by omega
      simp only [gangwayref28_asked.l1]
      rw [lt_t hi, cond_true, getL_at hi', Option.bind_some, rof_spec g hg, Option.bind_some]
      try dsimp only
      rw [rarp_spec, Option.bind_some, i64_next (by omega)]
      try dsimp only
      have e1 : ((es[i].In && (seenR g es[i]).is_) && askedP b (seenR g es[n]) (seenR g es[i])) = ((((((((((es[i].In && (ofR g es[i]).2.2) && (arpR (ofR g es[i]).2.1).2) && (es[i].Gate == es[n].Gate)) && (es[i].Port == es[n].Port)) && ((ofR g es[n]).1 == (ofR g es[i]).1)) && ((arpR (ofR g es[i]).2.1).1.Op == 1)) && ((ofR g es[i]).2.1.Dst == 281474976710655)) && ((arpR (ofR g es[i]).2.1).1.SMac == b.TMac)) && ((arpR (ofR g es[i]).2.1).1.SIp == b.TIp)) && ((arpR (ofR g es[i]).2.1).1.TIp == b.SIp)) := by
        unfold askedP seenR
        try dsimp only
        rw [beq_comm' (ofR g es[n]).1 (ofR g es[i]).1]
        simp only [Bool.and_assoc]
      rw [e1]
      cases ((((((((((es[i].In && (ofR g es[i]).2.2) && (arpR (ofR g es[i]).2.1).2) && (es[i].Gate == es[n].Gate)) && (es[i].Port == es[n].Port)) && ((ofR g es[n]).1 == (ofR g es[i]).1)) && ((arpR (ofR g es[i]).2.1).1.Op == 1)) && ((ofR g es[i]).2.1.Dst == 281474976710655)) && ((arpR (ofR g es[i]).2.1).1.SMac == b.TMac)) && ((arpR (ofR g es[i]).2.1).1.SIp == b.TIp)) && ((arpR (ofR g es[i]).2.1).1.TIp == b.SIp)) <;> rfl) n 0 2000 (by omega) (by omega)
  rw [List.drop_zero] at this
  exact this.trans (congrArg some (any_map_came g _ _ _ fun e he => rfl))

theorem rtold_spec (b : api_Arp) : gangwayref28_told.f 2000 g es n b = some (came ((es.take n).map (seenR g)) (toldP g b (seenR g es[n]))) := by
  unfold gangwayref28_told.f
  have ht := take_len g hg es hl hS n hn
  have := search (fun fuel i => gangwayref28_told.l2 (n : Int) es 2000 g b fuel false (i : Int)) (fun e => (e.In && (seenR g e).is_) && toldP g b (seenR g es[n]) (seenR g e)) (es.take n) (fun fuel => by
      rw [ht]
      simp only [gangwayref28_told.l2]
      rw [lt_f (Nat.le_refl _)]
      rfl) (fun fuel i hi => by
      rw [ht] at hi
      rw [take_get g hg es hl hS n hn i (by rw [ht]; exact hi)]
      have hi' : i < es.length := by omega
      have k1 : ∀ a q, gangwayref28_told.k1 (arpR (ofR g es[i]).2.1).1 (ofR g es[i]).2.1 b false (i : Int) (gangwayref28_told.l2 (n : Int) es 2000 g b fuel) a q = if (((q && ((arpR (ofR g es[i]).2.1).1.SMac == (ofR g es[i]).2.1.Src)) && ((arpR (ofR g es[i]).2.1).1.SMac == b.SMac)) && ((arpR (ofR g es[i]).2.1).1.SIp == b.SIp)) then some true else gangwayref28_told.l2 (n : Int) es 2000 g b fuel false ((i + 1 : Nat) : Int) := fun a q => by
        unfold gangwayref28_told.k1
        rw [i64_next (by omega)]
        cases (((q && ((arpR (ofR g es[i]).2.1).1.SMac == (ofR g es[i]).2.1.Src)) && ((arpR (ofR g es[i]).2.1).1.SMac == b.SMac)) && ((arpR (ofR g es[i]).2.1).1.SIp == b.SIp)) <;> rfl
      have e1 : ((es[i].In && (seenR g es[i]).is_) && toldP g b (seenR g es[n]) (seenR g es[i])) = (((((es[i].In && (arpR (ofR g es[i]).2.1).2) && sameR g (seenR g es[i]) (seenR g es[n])) && ((arpR (ofR g es[i]).2.1).1.SMac == (ofR g es[i]).2.1.Src)) && ((arpR (ofR g es[i]).2.1).1.SMac == b.SMac)) && ((arpR (ofR g es[i]).2.1).1.SIp == b.SIp)) := by
        have hf : (seenR g es[i]).f = (ofR g es[i]).2.1 := rfl
        unfold toldP
        rw [hf]
        cases hs : sameR g (seenR g es[i]) (seenR g es[n])
        · simp
        · rw [same_is g _ _ hs]; simp [Bool.and_assoc]
      rw [e1]
      simp only [gangwayref28_told.l2]
      rw [lt_t hi, cond_true, getL_at hi', Option.bind_some, rof_spec g hg, Option.bind_some]
      try dsimp only
      rw [rarp_spec, Option.bind_some]
      try dsimp only
      rw [Option.bind_some, getL_at hn]
      cases (es[i].In && (arpR (ofR g es[i]).2.1).2)
      · exact k1 false false
      · rw [cond_true, Option.bind_some, Option.bind_some, rsame_spec g hg, Option.bind_some]
        exact k1 true _) n 0 2000 (by omega) (by omega)
  rw [List.drop_zero] at this
  exact this.trans (congrArg some (any_map_came g _ _ _ fun e he => rfl))

theorem dst_nat (s : ByteArray) : ∃ d : Nat, (parseR s).1.Dst = d ∧ d < 281474976710656 := by
  have hb : ∀ p (a : api_Frame) m, (∃ d : Nat, a.Dst = d ∧ d < 281474976710656) → ∃ d : Nat, (bodyR s p a m).1.Dst = d ∧ d < 281474976710656 := fun p a m ha => by
    unfold bodyR
    split
    · exact ⟨0, rfl, by omega⟩
    · split
      · exact ha
      · split
        · exact ⟨0, rfl, by omega⟩
        · exact ha
  have h6 := at2_lt s 0 6
  unfold parseR
  split
  · exact ⟨0, rfl, by omega⟩
  · split
    · exact ⟨0, rfl, by omega⟩
    · split
      · split
        · exact ⟨0, rfl, by omega⟩
        · exact hb _ _ _ ⟨_, rfl, by omega⟩
      · exact hb _ _ _ ⟨_, rfl, by omega⟩

theorem May_spec : gangwayref28_May.f 2000 g es n = some (!badR g (es.take n) es[n]) := by
  unfold gangwayref28_May.f badR
  rw [getL_at hn, Option.bind_some, ref_parse, Option.bind_some]
  try dsimp only
  have e2 : ∀ b, gangwayref28_May.k2 2000 g es[n] es n b = some (b || answersR g ((es.take n).map (seenR g)) (seenR g es[n])) := fun b => by
    unfold gangwayref28_May.k2 answersR
    cases b
    · rw [cond_false, rof_spec g hg, Option.bind_some]
      try dsimp only
      rw [rarp_spec, Option.bind_some]
      have hf : (seenR g es[n]).f = (ofR g es[n]).2.1 := rfl
      have hi : (seenR g es[n]).is_ = (ofR g es[n]).2.2 := rfl
      rw [hf, hi]
      try dsimp only
      cases (((((!(ofR g es[n]).2.2) || (!(arpR (ofR g es[n]).2.1).2)) || ((arpR (ofR g es[n]).2.1).1.Op != 2)) || ((arpR (ofR g es[n]).2.1).1.SMac != (ofR g es[n]).2.1.Src)) || ((ofR g es[n]).2.1.Dst != (arpR (ofR g es[n]).2.1).1.TMac))
      · rw [cond_false, rasked_spec g hg es hl hS n hn, Option.bind_some]
        cases came ((es.take n).map (seenR g)) (askedP (arpR (ofR g es[n]).2.1).1 (seenR g es[n]))
        · rfl
        · rw [cond_true, rtold_spec g hg es hl hS n hn, Option.bind_some]
          simp [gangwayref28_May.k4]
      · rfl
    · rfl
  have e3 : ∀ b, gangwayref28_May.k3 2000 g es[n] es n b = some (b || (came ((es.take n).map (seenR g)) (carriedP g (seenR g es[n])) || answersR g ((es.take n).map (seenR g)) (seenR g es[n]))) := fun b => by
    unfold gangwayref28_May.k3
    cases b
    · rw [cond_false, rcarried_spec g hg es hl hS n hn, Option.bind_some, e2]
      rfl
    · rw [cond_true, e2]; rfl
  have e1 : ∀ b, gangwayref28_May.k1 2000 g es[n] es n b = gangwayref28_May.k3 2000 g es[n] es n b := fun b => rfl
  have em : gangwayref17_Mine.f (parseR es[n].S).1 = some ((decide ((parseR es[n].S).1.Dst ≥ 1652522221568)) && (decide ((parseR es[n].S).1.Dst < 1652522221584))) := by
    unfold gangwayref17_Mine.f
    obtain ⟨d, hd, hd2⟩ := dst_nat g hg es hl hS n hn es[n].S
    rw [hd, show Int.tdiv (d : Int) 16 = ((d / 16 : Nat) : Int) from rfl, u64_id (by omega)]
    congr 1
    by_cases h1 : 1652522221568 ≤ d
    · by_cases h2 : d < 1652522221584
      · rw [decide_eq_true (by omega : (d : Int) ≥ 1652522221568), decide_eq_true (by omega : (d : Int) < 1652522221584), show d / 16 = 103282638848 by omega]; rfl
      · rw [decide_eq_false (by omega : ¬ (d : Int) < 1652522221584), Bool.and_false, beq_eq_false_iff_ne]; omega
    · rw [decide_eq_false (by omega : ¬ (d : Int) ≥ 1652522221568), Bool.false_and, beq_eq_false_iff_ne]; omega
  cases es[n].In
  · rw [cond_false, em]
    unfold bridgesR
    have fin : ∀ p q c d : Bool, (bif p then (some q).bind fun r => some (r || (c || d)) else some (false || (c || d))) = some (!(!false && (!(p && q) && (!c && !d)))) := fun p q c d => by cases p <;> cases q <;> cases c <;> cases d <;> rfl
    rw [Bool.and_assoc, ← fin, e1, e3]
    simp only [e1, e3]
  · rw [cond_true, e3]; rfl
end
end Go.Proofs.YtbbekdmndifkpaaGreatDoor
