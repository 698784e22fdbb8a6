/- The walks of the functions that the laws reach: each shows that a call returns what its plain model says, wherever the model gives an answer. -/
import Derived.Test.YtbbekdmndifkpaaGreatDoorF1
import Derived.Test.YtbbekdmndifkpaaGreatDoorF4
import Derived.Test.YtbbekdmndifkpaaGreatDoorF2

namespace Go.Proofs.YtbbekdmndifkpaaGreatDoor
set_option maxRecDepth 100000
set_option linter.unusedVariables false
set_option linter.unusedSimpArgs false
open Go Eng
def trace_asked.b1 (k : Nat) (t2 : trace_seen) (a2 : api_Arp) (x9 : trace_seen) : Option (Option (Bool)) :=
 (arp_Of.f k x9.f).bind fun (r11, r12) =>
 bif ((((((r12 && (((x9.Event.Gate == t2.Event.Gate) && (x9.Event.Port == t2.Event.Port)) && (x9.vid == t2.vid))) && (r11.Op == 1)) && (x9.f.Dst == 281474976710655)) && (r11.SMac == a2.TMac)) && (r11.SIp == a2.TIp)) && (r11.TIp == a2.SIp)) then
  some (some true)
 else
  some none
def trace_asked.f (k : Nat) (a0 : (List trace_seen)) (a1 : Int) (a2 : api_Arp) : Option (Bool) :=
 (getL a0.length a0 a1).bind fun t2 =>
 (trace_came.f a0 a1).bind fun (r5, r6) =>
 trace_came_1.f k r5 r6 (trace_asked.b1 k t2 a2) (
  some false)
theorem trace_asked_calls (k : Nat) (A00 : SkL Unit) (a0 : (List trace_seen)) (a1 : Int) (a2 : api_Arp) (r : Bool) (h : trace_asked.f k a0 a1 a2 = some r) : Pure Tryz.prog ([Row 14 (pl trace_seen.enc) noK A00 a0] ++ Glob) 37 #[slcV A00 a0.length, .int .i64 a1, api_Arp.v a2] (.bool r) := by
 intro w Z hS
 refine callsS (args := [slcV A00 a0.length, .int .i64 a1, api_Arp.v a2]) (L := [(0, slcV A00 a0.length), (1, .int .i64 a1), (2, api_Arp.v a2)]) (N := 85) Tryz.func37 hS ?_
 have hM := h
 clear h hS
 unfold trace_asked.f at hM
 refine WP.seq ?_
 refine WP.rh [] (fun b1 => [(5, .pointer (some ⟨b1, 0, none⟩)), (6, .pointer (some ⟨(b1 + 1), 0, none⟩))]) (fun b1 => []) (fun b1 => [(b1, api_Arp.o a2), ((b1 + 1), .cells #[.bool false] 4 (0, 0))]) (fun b1 => ?_)
 refine WP.seq (WP.region (WL.rn 2 [] [(12, slcV A00 a0.length), (13, .int .i64 a1)] ?_))
 obtain ⟨t2, h3, hM⟩ := bind_some hM
 refine WL.valF (φ := Row 14 (pl trace_seen.enc) noK A00 a0) (fact_at 0 rfl) (fun w hR => run_indexRowF (A := A00) (xs := a0) (i := a1) (k := .i64) (e := 42) (m := 14) (by kernel_rfl) (by kernel_rfl) h3 (by kernel_rfl) (by kernel_rfl) hR) (by kernel_rfl) (by kernel_rfl) rfl ?_
 refine WL.valF (φ := Row 14 (pl trace_seen.enc) noK A00 a0) (fact_at 0 rfl) (fun w hR => run_loadRowFA (A := A00) (xs := a0) (i := a1) (j := 0) (n := 14) (vs := [.bool t2.Event.In, .int .i64 t2.Event.Gate, .int .i64 t2.Event.Port, .string t2.Event.S, .int .i64 t2.vid, .int .u64 t2.f.Dst, .int .u64 t2.f.Src, .bool t2.f.Tag.Has, .int .i64 t2.f.Tag.Pri, .bool t2.f.Tag.Dei, .int .i64 t2.f.Tag.Vid, .int .i64 t2.f.Type_, .string t2.f.Body, .bool t2.is_]) h3 (fun _ => by kernel_rfl) (by kernel_rfl) (by kernel_rfl) (by kernel_rfl) rfl hR) (by kernel_rfl) (by kernel_rfl) rfl ?_
 refine WL.rh 2 [2, 2, 2, 2, 2, 2, 2, 2, 2, 2, 2, 2, 2, 2] (fun b4 => [(7, .pointer (some ⟨b4, 0, none⟩))]) (fun b4 => []) (fun b4 => [(b4, trace_seen.o t2)]) (fun b4 => ?_)
 refine WP.done (WP.seq (WP.seq (WP.region (WL.rn 2 [] [(16, slcV A00 a0.length), (17, .int .i64 a1)] ?_))))
 obtain ⟨⟨r5, r6⟩, h7, hM⟩ := bind_some hM
 dsimp only at hM
 refine WL.callX (F0 := [Row 14 (pl trace_seen.enc) noK A00 a0]) [] [] [false, false, false] (fun _ => _) [0] (by kernel_rfl) (trace_came_calls A00 a0 a1 _ h7) rfl rfl (by kernel_rfl) (by kernel_rfl) (fun _ => rfl) (fun A8 => ?_)
 refine WP.done (WP.block ?_)
 refine WP.rangeFunc (Hi := [(A8.1, .cells #[slcV A8.2.1 r5.length] 35 (0, 0)), (A8.2.2, .cells #[.int .i64 r6] 3 (0, 0))]) (Hr := [(b1, api_Arp.o a2), ((b1 + 1), .cells #[.bool false] 4 (0, 0)), (b4, trace_seen.o t2)]) (trace_came_1_calls k A8.1 A8.2.2 A8.2.1 r5 r6) _ _ r hM (by kernel_rfl) [0] (by kernel_rfl) rfl rfl (entersE Tryz.func72 rfl rfl) rfl (fun q => [(b1, api_Arp.o a2), ((b1 + 1), .cells #[.bool q] 4 (0, 0)), (b4, trace_seen.o t2)]) ?_ ?_ ?_
 ·
  intro l K1 K2 hbg x9 r hM w Z
  replace hM : trace_asked.b1 k t2 a2 x9 = some r := hM
  unfold trace_asked.b1 at hM
  refine WP.rh [3, 3, 3, 3, 3, 3, 3, 3, 3, 3, 3, 3, 3, 3] (fun b10 => [(8, .pointer (some ⟨b10, 0, none⟩))]) (fun b10 => []) (fun b10 => [(b10, trace_seen.o x9)]) (fun b10 => ?_)
  refine WP.begin hbg ?_
  refine WP.block (WP.seq (WP.region (WL.rn 2 [3, 3, 3, 3, 3, 3, 3, 3] [(22, api_Frame.v x9.f)] ?_)))
  obtain ⟨⟨r11, r12⟩, h13, hM⟩ := bind_some hM
  dsimp only at hM
  refine WL.callP [] [] (arp_Of_calls k x9.f _ h13) (fun _ h => List.mem_append_right _ h) (by kernel_rfl) (by kernel_rfl) rfl ?_
  refine WL.rh 6 [4, 4, 4, 4, 4] (fun b14 => [(9, .pointer (some ⟨b14, 0, none⟩)), (10, .bool r12)]) (fun b14 => []) (fun b14 => [(b14, api_Arp.o r11)]) (fun b14 => ?_)
  refine WP.done (WP.seq (WP.region (WL.rn 8 [3, 2] [(33, .bool (x9.Event.Gate == t2.Event.Gate))] ?_)))
  refine WL.bo 33 (x9.Event.Gate == t2.Event.Gate) 8 [3, 2] [] (fun b' => [(41, .bool (b' && (x9.Event.Port == t2.Event.Port)))]) ?_
  refine WL.rn 1 [] [(42, .bool ((x9.Event.Gate == t2.Event.Gate) && (x9.Event.Port == t2.Event.Port)))] ?_
  refine WL.bo 42 ((x9.Event.Gate == t2.Event.Gate) && (x9.Event.Port == t2.Event.Port)) 6 [3, 2] [] (fun b' => [(48, .bool (b' && (x9.vid == t2.vid)))]) ?_
  refine WL.rn 1 [] [(11, .bool (((x9.Event.Gate == t2.Event.Gate) && (x9.Event.Port == t2.Event.Port)) && (x9.vid == t2.vid)))] ?_
  refine WP.done (WP.seq (WP.region (WL.rn 2 [] [(50, .bool r12)] ?_)))
  refine WL.bo 50 r12 2 [] [] (fun b' => [(52, .bool (b' && (((x9.Event.Gate == t2.Event.Gate) && (x9.Event.Port == t2.Event.Port)) && (x9.vid == t2.vid))))]) ?_
  refine WL.rn 1 [] [(53, .bool (r12 && (((x9.Event.Gate == t2.Event.Gate) && (x9.Event.Port == t2.Event.Port)) && (x9.vid == t2.vid))))] ?_
  refine WL.bo 53 (r12 && (((x9.Event.Gate == t2.Event.Gate) && (x9.Event.Port == t2.Event.Port)) && (x9.vid == t2.vid))) 4 [4] [] (fun b' => [(57, .bool (b' && (r11.Op == 1)))]) ?_
  refine WL.rn 1 [] [(58, .bool ((r12 && (((x9.Event.Gate == t2.Event.Gate) && (x9.Event.Port == t2.Event.Port)) && (x9.vid == t2.vid))) && (r11.Op == 1)))] ?_
  refine WL.bo 58 ((r12 && (((x9.Event.Gate == t2.Event.Gate) && (x9.Event.Port == t2.Event.Port)) && (x9.vid == t2.vid))) && (r11.Op == 1)) 5 [3] [] (fun b' => [(63, .bool (b' && (x9.f.Dst == 281474976710655)))]) ?_
  refine WL.rn 1 [] [(64, .bool (((r12 && (((x9.Event.Gate == t2.Event.Gate) && (x9.Event.Port == t2.Event.Port)) && (x9.vid == t2.vid))) && (r11.Op == 1)) && (x9.f.Dst == 281474976710655)))] ?_
  refine WL.bo 64 (((r12 && (((x9.Event.Gate == t2.Event.Gate) && (x9.Event.Port == t2.Event.Port)) && (x9.vid == t2.vid))) && (r11.Op == 1)) && (x9.f.Dst == 281474976710655)) 6 [4, 0] [] (fun b' => [(70, .bool (b' && (r11.SMac == a2.TMac)))]) ?_
  refine WL.rn 1 [] [(71, .bool ((((r12 && (((x9.Event.Gate == t2.Event.Gate) && (x9.Event.Port == t2.Event.Port)) && (x9.vid == t2.vid))) && (r11.Op == 1)) && (x9.f.Dst == 281474976710655)) && (r11.SMac == a2.TMac)))] ?_
  refine WL.bo 71 ((((r12 && (((x9.Event.Gate == t2.Event.Gate) && (x9.Event.Port == t2.Event.Port)) && (x9.vid == t2.vid))) && (r11.Op == 1)) && (x9.f.Dst == 281474976710655)) && (r11.SMac == a2.TMac)) 6 [4, 0] [] (fun b' => [(77, .bool (b' && (r11.SIp == a2.TIp)))]) ?_
  refine WL.rn 1 [] [(78, .bool (((((r12 && (((x9.Event.Gate == t2.Event.Gate) && (x9.Event.Port == t2.Event.Port)) && (x9.vid == t2.vid))) && (r11.Op == 1)) && (x9.f.Dst == 281474976710655)) && (r11.SMac == a2.TMac)) && (r11.SIp == a2.TIp)))] ?_
  refine WL.bo 78 (((((r12 && (((x9.Event.Gate == t2.Event.Gate) && (x9.Event.Port == t2.Event.Port)) && (x9.vid == t2.vid))) && (r11.Op == 1)) && (x9.f.Dst == 281474976710655)) && (r11.SMac == a2.TMac)) && (r11.SIp == a2.TIp)) 6 [4, 0] [] (fun b' => [(84, .bool (b' && (r11.TIp == a2.SIp)))]) ?_
  refine WP.done (WP.kp [true, true, true, false, false] ?_)
  refine WP.cond ((((((r12 && (((x9.Event.Gate == t2.Event.Gate) && (x9.Event.Port == t2.Event.Port)) && (x9.vid == t2.vid))) && (r11.Op == 1)) && (x9.f.Dst == 281474976710655)) && (r11.SMac == a2.TMac)) && (r11.SIp == a2.TIp)) && (r11.TIp == a2.SIp)) rfl rfl (fun c15 => ?_) (fun c15 => ?_)
  ·replace hM := cond_t hM c15
   refine WP.seq ?_
   refine WP.rh [1] (fun _ => []) (fun _ => [(1, 0, [.bool true])]) (fun _ => []) (fun _ => ?_)
   obtain rfl := Option.some.inj hM
   exact WP.roundRet (fun w' hw => ⟨_, rfl, (hw.pick [0, 1, 2] (by kernel_rfl)).lessF [0, 1] (by kernel_rfl)⟩)
  ·replace hM := cond_f hM c15
   refine WP.skip (WP.leave ?_)
   obtain rfl := Option.some.inj hM
   exact WP.roundEnd (fun w' hw => ⟨rfl, (hw.pick [0, 1, 2] (by kernel_rfl)).lessF [0, 1] (by kernel_rfl)⟩)
 ·
  intro hM D16
  refine WP.markBlock ?_
  refine WP.markCode ?_
  refine WP.seq (WP.rn [3] [] ?_)
  refine WP.kp [false, false, false, true, false, true] ?_
  obtain rfl := Option.some.inj hM
  exact WP.retM 1 [0] [(b1 + 1)] (.bool false) (by kernel_rfl) rfl (by kernel_rfl) (fun w' hw => ⟨rfl, (hw.pick [] rfl).lessF [1] (by kernel_rfl)⟩)
 ·
  intro D17
  exact WP.retM 5 [3] [(b1 + 1)] (.bool r) (by kernel_rfl) rfl (by kernel_rfl) (fun w' hw => ⟨rfl, (hw.pick [] rfl).lessF [1] (by kernel_rfl)⟩)
def trace_told.k1 (r8 : api_Arp) (x6 : trace_seen) (a3 : api_Arp) (x17 : Bool) : Option (Option (Bool)) :=
 bif (((x17 && (r8.SMac == x6.f.Src)) && (r8.SMac == a3.SMac)) && (r8.SIp == a3.SIp)) then
  some (some true)
 else
  some none
def trace_told.b2 (k : Nat) (a1 : (List trace_seen)) (a2 : Int) (a0 : (List api_Gate)) (a3 : api_Arp) (x6 : trace_seen) : Option (Option (Bool)) :=
 (arp_Of.f k x6.f).bind fun (r8, r9) =>
 bif r9 then
  (getL a1.length a1 a2).bind fun t13 =>
  (trace_same.f k a0 x6 t13).bind fun r15 =>
  trace_told.k1 r8 x6 a3 r15
 else
  trace_told.k1 r8 x6 a3 false
def trace_told.f (k : Nat) (a0 : (List api_Gate)) (a1 : (List trace_seen)) (a2 : Int) (a3 : api_Arp) : Option (Bool) :=
 (trace_came.f a1 a2).bind fun (r2, r3) =>
 trace_came_1.f k r2 r3 (trace_told.b2 k a1 a2 a0 a3) (
  some false)
theorem trace_told_calls (k : Nat) (A00 : SkL ((SkL (SkL Unit)) × (SkL Unit) × (SkL (SkL Unit)) × (SkL Unit))) (A01 : SkL Unit) (a0 : (List api_Gate)) (a1 : (List trace_seen)) (a2 : Int) (a3 : api_Arp) (r : Bool) (h : trace_told.f k a0 a1 a2 a3 = some r) : Pure Tryz.prog ([Row 21 api_Gate.encS api_Gate.inK A00 a0, Row 14 (pl trace_seen.enc) noK A01 a1] ++ Glob) 38 #[slcV A00 a0.length, slcV A01 a1.length, .int .i64 a2, api_Arp.v a3] (.bool r) := by
 intro w Z hS
 refine callsS (args := [slcV A00 a0.length, slcV A01 a1.length, .int .i64 a2, api_Arp.v a3]) (L := [(0, slcV A00 a0.length), (1, slcV A01 a1.length), (2, .int .i64 a2), (3, api_Arp.v a3)]) (N := 54) Tryz.func38 hS ?_
 have hM := h
 clear h hS
 unfold trace_told.f at hM
 refine WP.seq ?_
 refine WP.rh [] (fun b1 => [(4, .pointer (some ⟨b1, 0, none⟩)), (5, .pointer (some ⟨(b1 + 1), 0, none⟩)), (6, .pointer (some ⟨(b1 + 2), 0, none⟩)), (7, .pointer (some ⟨(b1 + 3), 0, none⟩)), (8, .pointer (some ⟨(b1 + 4), 0, none⟩))]) (fun b1 => []) (fun b1 => [(b1, .cells #[slcV A00 a0.length] 22 (0, 0)), ((b1 + 1), .cells #[slcV A01 a1.length] 35 (0, 0)), ((b1 + 2), .cells #[.int .i64 a2] 3 (0, 0)), ((b1 + 3), api_Arp.o a3), ((b1 + 4), .cells #[.bool false] 4 (0, 0))]) (fun b1 => ?_)
 refine WP.seq (WP.seq (WP.region (WL.rn 2 [1, 2] [(12, slcV A01 a1.length), (13, .int .i64 a2)] ?_)))
 obtain ⟨⟨r2, r3⟩, h4, hM⟩ := bind_some hM
 dsimp only at hM
 refine WL.callX (F0 := [Row 14 (pl trace_seen.enc) noK A01 a1]) [] [] [false, false, false, false, false] (fun _ => _) [1] (by kernel_rfl) (trace_came_calls A01 a1 a2 _ h4) rfl rfl (by kernel_rfl) (by kernel_rfl) (fun _ => rfl) (fun A5 => ?_)
 refine WP.done (WP.block ?_)
 refine WP.rangeFunc (Hi := [(A5.1, .cells #[slcV A5.2.1 r2.length] 35 (0, 0)), (A5.2.2, .cells #[.int .i64 r3] 3 (0, 0))]) (Hr := [(b1, .cells #[slcV A00 a0.length] 22 (0, 0)), ((b1 + 1), .cells #[slcV A01 a1.length] 35 (0, 0)), ((b1 + 2), .cells #[.int .i64 a2] 3 (0, 0)), ((b1 + 3), api_Arp.o a3), ((b1 + 4), .cells #[.bool false] 4 (0, 0))]) (trace_came_1_calls k A5.1 A5.2.2 A5.2.1 r2 r3) _ _ r hM (by kernel_rfl) [0] (by kernel_rfl) rfl rfl (entersE Tryz.func72 rfl rfl) rfl (fun q => [(b1, .cells #[slcV A00 a0.length] 22 (0, 0)), ((b1 + 1), .cells #[slcV A01 a1.length] 35 (0, 0)), ((b1 + 2), .cells #[.int .i64 a2] 3 (0, 0)), ((b1 + 3), api_Arp.o a3), ((b1 + 4), .cells #[.bool q] 4 (0, 0))]) ?_ ?_ ?_
 ·
  intro l K1 K2 hbg x6 r hM w Z
  replace hM : trace_told.b2 k a1 a2 a0 a3 x6 = some r := hM
  unfold trace_told.b2 at hM
  refine WP.rh [5, 5, 5, 5, 5, 5, 5, 5, 5, 5, 5, 5, 5, 5] (fun b7 => [(9, .pointer (some ⟨b7, 0, none⟩))]) (fun b7 => []) (fun b7 => [(b7, trace_seen.o x6)]) (fun b7 => ?_)
  refine WP.begin hbg ?_
  refine WP.block (WP.seq (WP.region (WL.rn 2 [5, 5, 5, 5, 5, 5, 5, 5] [(18, api_Frame.v x6.f)] ?_)))
  obtain ⟨⟨r8, r9⟩, h10, hM⟩ := bind_some hM
  dsimp only at hM
  refine WL.callP [] [] (arp_Of_calls k x6.f _ h10) (fun _ h => List.mem_append_right _ h) (by kernel_rfl) (by kernel_rfl) rfl ?_
  refine WL.rh 6 [6, 6, 6, 6, 6] (fun b11 => [(10, .pointer (some ⟨b11, 0, none⟩)), (11, .bool r9)]) (fun b11 => []) (fun b11 => [(b11, api_Arp.o r8)]) (fun b11 => ?_)
  refine WP.done (WP.seq (WP.quiet (by kernel_rfl) (by kernel_rfl) ?_))
  refine QL.rn 2 [] [(23, .bool r9)] ?_
  refine QL.join (σ := Bool) 8 (fun st => trace_told.k1 r8 x6 a3 st = some r) (fun st => [(7, .pointer (some ⟨(b1 + 3), 0, none⟩)), (8, .pointer (some ⟨(b1 + 4), 0, none⟩)), (9, .pointer (some ⟨b7, 0, none⟩)), (10, .pointer (some ⟨b11, 0, none⟩)), (31, .bool st)]) (fun st hM => ?_) (fun K1 => ?_)
  ·
   obtain ⟨x17, rfl⟩ : ∃ y, y = st := ⟨st, rfl⟩
   replace hM : trace_told.k1 r8 x6 a3 x17 = some r := hM
   unfold trace_told.k1 at hM
   show QL _ _ _ _ _ _ [(7, .pointer (some ⟨(b1 + 3), 0, none⟩)), (8, .pointer (some ⟨(b1 + 4), 0, none⟩)), (9, .pointer (some ⟨b7, 0, none⟩)), (10, .pointer (some ⟨b11, 0, none⟩)), (31, .bool x17)]
   refine QL.rn 1 [] [(32, .bool x17)] ?_
   refine QL.bo 32 x17 7 [6, 5] [] (fun b' => [(39, .bool (b' && (r8.SMac == x6.f.Src)))]) ?_
   refine QL.rn 1 [] [(40, .bool (x17 && (r8.SMac == x6.f.Src)))] ?_
   refine QL.bo 40 (x17 && (r8.SMac == x6.f.Src)) 6 [6, 3] [] (fun b' => [(46, .bool (b' && (r8.SMac == a3.SMac)))]) ?_
   refine QL.rn 1 [] [(47, .bool ((x17 && (r8.SMac == x6.f.Src)) && (r8.SMac == a3.SMac)))] ?_
   refine QL.bo 47 ((x17 && (r8.SMac == x6.f.Src)) && (r8.SMac == a3.SMac)) 6 [6, 3] [] (fun b' => [(53, .bool (b' && (r8.SIp == a3.SIp)))]) ?_
   refine QL.done ?_
   refine WP.kp [true, true, true, true, true, false, false] ?_
   refine WP.cond (((x17 && (r8.SMac == x6.f.Src)) && (r8.SMac == a3.SMac)) && (r8.SIp == a3.SIp)) rfl rfl (fun c18 => ?_) (fun c18 => ?_)
   ·replace hM := cond_t hM c18
    refine WP.seq ?_
    refine WP.rh [4] (fun _ => []) (fun _ => [(4, 0, [.bool true])]) (fun _ => []) (fun _ => ?_)
    obtain rfl := Option.some.inj hM
    exact WP.roundRet (fun w' hw => ⟨_, rfl, (hw.pick [0, 1, 2, 3, 4] (by kernel_rfl)).lessF [0, 1, 2] (by kernel_rfl)⟩)
   ·replace hM := cond_f hM c18
    refine WP.skip (WP.leave ?_)
    obtain rfl := Option.some.inj hM
    exact WP.roundEnd (fun w' hw => ⟨rfl, (hw.pick [0, 1, 2, 3, 4] (by kernel_rfl)).lessF [0, 1, 2] (by kernel_rfl)⟩)
  ·
   refine QL.sp 23 r9 (fun c12 => ?_) (fun c12 => ?_)
   ·replace hM := cond_t hM c12
    refine QL.rn 4 [0, 5, 5, 5, 5, 5, 5, 5, 5, 5, 5, 5, 5, 5, 5, 1, 2] [(24, slcV A00 a0.length), (25, trace_seen.v x6), (26, slcV A01 a1.length), (27, .int .i64 a2)] ?_
    obtain ⟨t13, h14, hM⟩ := bind_some hM
    refine QL.valF (φ := Row 14 (pl trace_seen.enc) noK A01 a1) (fact_at 2 rfl) (fun w hR => run_indexRowF (A := A01) (xs := a1) (i := a2) (k := .i64) (e := 42) (m := 14) (by kernel_rfl) (by kernel_rfl) h14 (by kernel_rfl) (by kernel_rfl) hR) (by kernel_rfl) (by kernel_rfl) rfl ?_
    refine QL.valF (φ := Row 14 (pl trace_seen.enc) noK A01 a1) (fact_at 2 rfl) (fun w hR => run_loadRowFA (A := A01) (xs := a1) (i := a2) (j := 0) (n := 14) (vs := [.bool t13.Event.In, .int .i64 t13.Event.Gate, .int .i64 t13.Event.Port, .string t13.Event.S, .int .i64 t13.vid, .int .u64 t13.f.Dst, .int .u64 t13.f.Src, .bool t13.f.Tag.Has, .int .i64 t13.f.Tag.Pri, .bool t13.f.Tag.Dei, .int .i64 t13.f.Tag.Vid, .int .i64 t13.f.Type_, .string t13.f.Body, .bool t13.is_]) h14 (fun _ => by kernel_rfl) (by kernel_rfl) (by kernel_rfl) (by kernel_rfl) rfl hR) (by kernel_rfl) (by kernel_rfl) rfl ?_
    obtain ⟨r15, h16, hM⟩ := bind_some hM
    refine QL.callP [] [] (trace_same_calls k A00 a0 x6 t13 _ h16) (sub_pick [1] (by kernel_rfl)) (by kernel_rfl) (by kernel_rfl) rfl ?_
    refine QL.rn 1 [] [(31, .bool r15)] ?_
    exact QL.sub [7, 8, 9, 10, 31] (by kernel_rfl) (K1 r15 hM)
   ·replace hM := cond_f hM c12
    refine QL.rn 8 [] [(31, .bool false)] ?_
    exact QL.sub [7, 8, 9, 10, 31] (by kernel_rfl) (K1 false hM)
 ·
  intro hM D19
  refine WP.markBlock ?_
  refine WP.markCode ?_
  refine WP.seq (WP.rn [6] [] ?_)
  refine WP.kp [false, false, false, false, false, false, true, true] ?_
  obtain rfl := Option.some.inj hM
  exact WP.retM 1 [0] [(b1 + 4)] (.bool false) (by kernel_rfl) rfl (by kernel_rfl) (fun w' hw => ⟨rfl, (hw.pick [] rfl).lessF [1, 2] (by kernel_rfl)⟩)
 ·
  intro D20
  exact WP.retM 7 [6] [(b1 + 4)] (.bool r) (by kernel_rfl) rfl (by kernel_rfl) (fun w' hw => ⟨rfl, (hw.pick [] rfl).lessF [1, 2] (by kernel_rfl)⟩)
def trace_answers.k1 (x14 : Bool) : Option (Bool) :=
 some x14
def trace_answers.f (k : Nat) (a0 : (List api_Gate)) (a1 : (List trace_seen)) (a2 : Int) : Option (Bool) :=
 (getL a1.length a1 a2).bind fun t1 =>
 (arp_Of.f k t1.f).bind fun (r4, r5) =>
 bif (((((!t1.is_) || (!r5)) || (r4.Op != 2)) || (r4.SMac != t1.f.Src)) || (t1.f.Dst != r4.TMac)) then
  some false
 else
  (trace_asked.f k a1 a2 r4).bind fun r9 =>
  bif r9 then
   (trace_told.f k a0 a1 a2 r4).bind fun r12 =>
   trace_answers.k1 r12
  else
   trace_answers.k1 false
theorem trace_answers_calls (k : Nat) (A00 : SkL ((SkL (SkL Unit)) × (SkL Unit) × (SkL (SkL Unit)) × (SkL Unit))) (A01 : SkL Unit) (a0 : (List api_Gate)) (a1 : (List trace_seen)) (a2 : Int) (r : Bool) (h : trace_answers.f k a0 a1 a2 = some r) : Pure Tryz.prog ([Row 21 api_Gate.encS api_Gate.inK A00 a0, Row 14 (pl trace_seen.enc) noK A01 a1] ++ Glob) 17 #[slcV A00 a0.length, slcV A01 a1.length, .int .i64 a2] (.bool r) := by
 intro w Z hS
 refine callsS (args := [slcV A00 a0.length, slcV A01 a1.length, .int .i64 a2]) (L := [(0, slcV A00 a0.length), (1, slcV A01 a1.length), (2, .int .i64 a2)]) (N := 59) Tryz.func17 hS ?_
 have hM := h
 clear h hS
 unfold trace_answers.f at hM
 refine WP.seq (WP.rn [] [(6, .bool false)] ?_)
 refine WP.seq (WP.region (WL.rn 2 [] [(10, slcV A01 a1.length), (11, .int .i64 a2)] ?_))
 obtain ⟨t1, h2, hM⟩ := bind_some hM
 refine WL.valF (φ := Row 14 (pl trace_seen.enc) noK A01 a1) (fact_at 1 rfl) (fun w hR => run_indexRowF (A := A01) (xs := a1) (i := a2) (k := .i64) (e := 42) (m := 14) (by kernel_rfl) (by kernel_rfl) h2 (by kernel_rfl) (by kernel_rfl) hR) (by kernel_rfl) (by kernel_rfl) rfl ?_
 refine WL.valF (φ := Row 14 (pl trace_seen.enc) noK A01 a1) (fact_at 1 rfl) (fun w hR => run_loadRowFA (A := A01) (xs := a1) (i := a2) (j := 0) (n := 14) (vs := [.bool t1.Event.In, .int .i64 t1.Event.Gate, .int .i64 t1.Event.Port, .string t1.Event.S, .int .i64 t1.vid, .int .u64 t1.f.Dst, .int .u64 t1.f.Src, .bool t1.f.Tag.Has, .int .i64 t1.f.Tag.Pri, .bool t1.f.Tag.Dei, .int .i64 t1.f.Tag.Vid, .int .i64 t1.f.Type_, .string t1.f.Body, .bool t1.is_]) h2 (fun _ => by kernel_rfl) (by kernel_rfl) (by kernel_rfl) (by kernel_rfl) rfl hR) (by kernel_rfl) (by kernel_rfl) rfl ?_
 refine WL.rh 2 [0, 0, 0, 0, 0, 0, 0, 0, 0, 0, 0, 0, 0, 0] (fun b3 => [(7, .pointer (some ⟨b3, 0, none⟩))]) (fun b3 => []) (fun b3 => [(b3, trace_seen.o t1)]) (fun b3 => ?_)
 refine WP.done (WP.seq (WP.region (WL.rn 2 [0, 0, 0, 0, 0, 0, 0, 0] [(16, api_Frame.v t1.f)] ?_)))
 obtain ⟨⟨r4, r5⟩, h6, hM⟩ := bind_some hM
 dsimp only at hM
 refine WL.callP [] [] (arp_Of_calls k t1.f _ h6) (fun _ h => List.mem_append_right _ h) (by kernel_rfl) (by kernel_rfl) rfl ?_
 refine WL.rh 6 [1, 1, 1, 1, 1] (fun b7 => [(8, .pointer (some ⟨b7, 0, none⟩)), (9, .bool r5)]) (fun b7 => []) (fun b7 => [(b7, api_Arp.o r4)]) (fun b7 => ?_)
 refine WP.done (WP.seq (WP.seq (WP.region (WL.rn 4 [0] [(23, .bool (!t1.is_))] ?_))))
 refine WL.bo 23 (!t1.is_) 3 [] [] (fun b' => [(26, .bool (b' || (!r5)))]) ?_
 refine WL.rn 1 [] [(27, .bool ((!t1.is_) || (!r5)))] ?_
 refine WL.bo 27 ((!t1.is_) || (!r5)) 4 [] [1] (fun b' => [(31, .bool (b' || (r4.Op != 2)))]) ?_
 refine WL.rn 1 [] [(32, .bool (((!t1.is_) || (!r5)) || (r4.Op != 2)))] ?_
 refine WL.bo 32 (((!t1.is_) || (!r5)) || (r4.Op != 2)) 7 [] [1, 0] (fun b' => [(39, .bool (b' || (r4.SMac != t1.f.Src)))]) ?_
 refine WL.rn 1 [] [(40, .bool ((((!t1.is_) || (!r5)) || (r4.Op != 2)) || (r4.SMac != t1.f.Src)))] ?_
 refine WL.bo 40 ((((!t1.is_) || (!r5)) || (r4.Op != 2)) || (r4.SMac != t1.f.Src)) 7 [] [0, 1] (fun b' => [(47, .bool (b' || (t1.f.Dst != r4.TMac)))]) ?_
 refine WP.done (WP.kp [false, true] ?_)
 refine WP.cond (((((!t1.is_) || (!r5)) || (r4.Op != 2)) || (r4.SMac != t1.f.Src)) || (t1.f.Dst != r4.TMac)) rfl rfl (fun c8 => ?_) (fun c8 => ?_)
 ·replace hM := cond_t hM c8
  refine WP.seq (WP.rn [] [(6, .bool false)] ?_)
  obtain rfl := Option.some.inj hM
  exact WP.retF [] [] [0, 1]
 ·replace hM := cond_f hM c8
  refine WP.skip (WP.seq (WP.region (WL.rn 3 [0, 0, 0, 0, 0] [(48, slcV A01 a1.length), (49, .int .i64 a2), (50, api_Arp.v r4)] ?_)))
  obtain ⟨r9, h10, hM⟩ := bind_some hM
  refine WL.callP [] [] (trace_asked_calls k A01 a1 a2 r4 _ h10) (sub_pick [1] (by kernel_rfl)) (by kernel_rfl) (by kernel_rfl) rfl ?_
  refine WL.rn 1 [] [(52, .bool r9)] ?_
  refine WL.join (σ := Bool) 6 (fun st => trace_answers.k1 st = some r) (fun st => [(6, .bool false), (58, .bool st)]) (fun st => Sat w Z [] [] ([Row 21 api_Gate.encS api_Gate.inK A00 a0, Row 14 (pl trace_seen.enc) noK A01 a1] ++ Glob)) (fun st hM => ?_) (fun K1 => ?_)
  ·
   obtain ⟨x14, rfl⟩ : ∃ y, y = st := ⟨st, rfl⟩
   replace hM : trace_answers.k1 x14 = some r := hM
   unfold trace_answers.k1 at hM
   try dsimp only
   refine WL.rn 1 [] [(6, .bool x14)] ?_
   refine WP.done ?_
   obtain rfl := Option.some.inj hM
   exact WP.retF [] [] [0, 1]
  ·
   refine WL.sp 52 r9 (fun c11 => ?_) (fun c11 => ?_)
   ·replace hM := cond_t hM c11
    refine WL.rn 4 [0, 0, 0, 0, 0] [(53, slcV A00 a0.length), (54, slcV A01 a1.length), (55, .int .i64 a2), (56, api_Arp.v r4)] ?_
    obtain ⟨r12, h13, hM⟩ := bind_some hM
    refine WL.callP [] [] (trace_told_calls k A00 A01 a0 a1 a2 r4 _ h13) (sub_pick [0, 1] (by kernel_rfl)) (by kernel_rfl) (by kernel_rfl) rfl ?_
    refine WL.rn 1 [] [(58, .bool r12)] ?_
    exact WL.sub [6, 58] (by kernel_rfl) (WL.pick [] (by kernel_rfl) (by kernel_rfl) (WL.lessF [0, 1] (by kernel_rfl) (K1 r12 hM)))
   ·replace hM := cond_f hM c11
    refine WL.rn 6 [] [(58, .bool false)] ?_
    exact WL.sub [6, 58] (by kernel_rfl) (WL.pick [] (by kernel_rfl) (by kernel_rfl) (WL.lessF [0, 1] (by kernel_rfl) (K1 false hM)))
def trace_First.k5 (x37 : Int) (x36 : Int) (rec_l8 : Int → Int → Option (Int)) (x55 : Bool) (x56 : Bool) : Option (Int) :=
 bif x56 then
  some x37
 else
  rec_l8 x36 (i64 (x37 + 1))
def trace_First.k6 (k : Nat) (a0 : (List api_Gate)) (x1 : (List trace_seen)) (x37 : Int) (x36 : Int) (rec_l8 : Int → Int → Option (Int)) (x50 : Bool) (x51 : Bool) : Option (Int) :=
 bif x51 then
  (trace_answers.f k a0 x1 x37).bind fun r53 =>
  trace_First.k5 x37 x36 rec_l8 true (!r53)
 else
  trace_First.k5 x37 x36 rec_l8 false false
def trace_First.k7 (k : Nat) (a0 : (List api_Gate)) (x1 : (List trace_seen)) (x37 : Int) (x36 : Int) (rec_l8 : Int → Int → Option (Int)) (x45 : Bool) (x46 : Bool) : Option (Int) :=
 bif x46 then
  (trace_carried.f k a0 x1 x37).bind fun r48 =>
  trace_First.k6 k a0 x1 x37 x36 rec_l8 true (!r48)
 else
  trace_First.k6 k a0 x1 x37 x36 rec_l8 false false
def trace_First.l8 (a1 : (List api_Event)) (k : Nat) (a0 : (List api_Gate)) (x1 : (List trace_seen)) : Nat → Int → Int → Option (Int)
 | 0, _, _ => none
 | n + 1, x36, x37 =>
  bif decide (x37 < (a1.length : Int)) then
   (getL a1.length a1 x37).bind fun t39 =>
   bif !t39.In then
    (trace_bridges.f k t39).bind fun r43 =>
    trace_First.k7 k a0 x1 x37 x36 (trace_First.l8 a1 k a0 x1 n) true (!r43)
   else
    trace_First.k7 k a0 x1 x37 x36 (trace_First.l8 a1 k a0 x1 n) false false
  else
   some (-1)
def trace_First.l1 (a1 : (List api_Event)) (k : Nat) (a0 : (List api_Gate)) : Nat → (List trace_seen) → Int → Option (Int)
 | 0, _, _ => none
 | n + 1, x1, x3 =>
  bif decide (x3 < (a1.length : Int)) then
   (getL a1.length a1 x3).bind fun t5 =>
   (trace_of.f k a0 t5).bind fun r8 =>
   (roomL 128 (x1 ++ ([r8] : List trace_seen)).length).bind fun u12 =>
   trace_First.l1 a1 k a0 n (x1 ++ ([r8] : List trace_seen)) (i64 (x3 + 1))
  else
   trace_First.l8 a1 k a0 x1 k 0 0
def trace_First.f (k : Nat) (a0 : (List api_Gate)) (a1 : (List api_Event)) : Option (Int) :=
 trace_First.l1 a1 k a0 k ([] : List trace_seen) 0
theorem trace_First_calls (k : Nat) (A00 : SkL ((SkL (SkL Unit)) × (SkL Unit) × (SkL (SkL Unit)) × (SkL Unit))) (A01 : SkL Unit) (a0 : (List api_Gate)) (a1 : (List api_Event)) (r : Int) (h : trace_First.f k a0 a1 = some r) : Pure Tryz.prog ([Row 21 api_Gate.encS api_Gate.inK A00 a0, Row 4 (pl api_Event.enc) noK A01 a1] ++ Glob) 7 #[slcV A00 a0.length, slcV A01 a1.length] (.int .i64 r) := by
 intro w Z hS
 refine callsS (args := [slcV A00 a0.length, slcV A01 a1.length]) (L := [(0, slcV A00 a0.length), (1, slcV A01 a1.length)]) (N := 54) Tryz.func7 hS ?_
 have hM := h
 clear h hS
 unfold trace_First.f at hM
 refine WP.seq (WP.rn [] [(4, .int .i64 0)] ?_)
 refine WP.seq (WP.rn [] [(5, .slice none 0 0)] ?_)
 refine WP.seq (WP.seq (WP.rn [] [(10, slcV A01 a1.length), (11, .int .i64 (a1.length : Int)), (12, .int .i64 0)] ?_))
 refine WP.block ?_
 refine WP.growNil 14 42 (pl trace_seen.enc) noK (fun _ => ()) ?_
 refine WP.sub [0, 1, 4, 5, 10, 11, 12] (L' := [(0, slcV A00 a0.length), (1, slcV A01 a1.length), (4, .int .i64 0), (5, slcV (SkL.nil (fun _ => ())) ([] : List trace_seen).length), (10, slcV A01 a1.length), (11, .int .i64 (a1.length : Int)), (12, .int .i64 0)]) (by kernel_rfl) ?_
 refine WP.lessF [0, 0, 1, 2] (F' := [GIn noK (SkL.nil (fun _ => ())) ([] : List trace_seen), GIn noK (SkL.nil (fun _ => ())) ([] : List trace_seen), Row 21 api_Gate.encS api_Gate.inK A00 a0, Row 4 (pl api_Event.enc) noK A01 a1]) (by kernel_rfl) ?_
 refine WP.loop (σ := (List trace_seen) × SkL Unit × Int) (fun n st => trace_First.l1 a1 k a0 n st.1 st.2.2) r (fun st => [(0, slcV A00 a0.length), (1, slcV A01 a1.length), (4, .int .i64 0), (5, slcV st.2.1 st.1.length), (10, slcV A01 a1.length), (11, .int .i64 (a1.length : Int)), (12, .int .i64 st.2.2)]) (fun st => Sat w Z [] [OwnR 14 42 (pl trace_seen.enc) st.2.1 st.1] ([GIn noK st.2.1 st.1, GIn noK (SkL.nil (fun _ => ())) ([] : List trace_seen), Row 21 api_Gate.encS api_Gate.inK A00 a0, Row 4 (pl api_Event.enc) noK A01 a1] ++ Glob)) (st := (([] : List trace_seen), (SkL.nil (fun _ => ())), 0)) (fun n st hM => ?_) hM
 rcases n with _ | n
 ·exact nomatch (show (none : Option _) = some r from hM)
 obtain ⟨x1, A2, x3⟩ := st
 replace hM : trace_First.l1 a1 k a0 (n + 1) x1 x3 = some r := hM
 rw [trace_First.l1] at hM
 try dsimp only
 refine WP.seq (WP.rn [] [(13, .bool (decide (x3 < (a1.length : Int))))] ?_)
 refine WP.seq ?_
 refine WP.cond (decide (x3 < (a1.length : Int))) rfl rfl (fun c4 => ?_) (fun c4 => ?_)
 ·replace hM := cond_t hM c4
  refine WP.skip (WP.seq (WP.block (WP.seq (WP.region ?_))))
  obtain ⟨t5, h6, hM⟩ := bind_some hM
  refine WL.valF (φ := Row 4 (pl api_Event.enc) noK A01 a1) (fact_at 3 rfl) (fun w hR => run_indexRowF (A := A01) (xs := a1) (i := x3) (k := .i64) (e := 28) (m := 4) (by kernel_rfl) (by kernel_rfl) h6 (by kernel_rfl) (by kernel_rfl) hR) (by kernel_rfl) (by kernel_rfl) rfl ?_
  refine WL.valF (φ := Row 4 (pl api_Event.enc) noK A01 a1) (fact_at 3 rfl) (fun w hR => run_loadRowFA (A := A01) (xs := a1) (i := x3) (j := 0) (n := 4) (vs := [.bool t5.In, .int .i64 t5.Gate, .int .i64 t5.Port, .string t5.S]) h6 (fun _ => by kernel_rfl) (by kernel_rfl) (by kernel_rfl) (by kernel_rfl) rfl hR) (by kernel_rfl) (by kernel_rfl) rfl ?_
  refine WL.rh 2 [0, 0, 0, 0] (fun b7 => [(7, .pointer (some ⟨b7, 0, none⟩))]) (fun b7 => []) (fun b7 => [(b7, api_Event.o t5)]) (fun b7 => ?_)
  refine WP.done (WP.region (WL.rn 3 [0, 0, 0, 0] [(16, slcV A2 x1.length), (17, slcV A00 a0.length), (18, api_Event.v t5)] ?_))
  obtain ⟨r8, h9, hM⟩ := bind_some hM
  refine WL.callP [] [] (trace_of_calls k A00 a0 t5 _ h9) (sub_pick [2] (by kernel_rfl)) (by kernel_rfl) (by kernel_rfl) rfl ?_
  refine WL.rh 1 [] (fun b10 => [(20, .slice (some ⟨b10, 0, none⟩) 1 1)]) (fun b10 => []) (fun b10 => [(b10, trace_seen.o r8)]) (fun b10 => ?_)
  refine WL.ice (H' := [(b7, api_Event.o t5)]) (Row 14 (pl trace_seen.enc) noK (SkL.at b10 1 (fun _ => ())) ([r8] : List trace_seen)) 1 (b := b10) (ob := trace_seen.o r8) (by kernel_rfl) [] [] (by kernel_rfl) (fun w hb hψ => row_of_block hb (fun _ _ => rfl) ⟨[], by kernel_rfl⟩ (Nat.le_of_ble_eq_true rfl) (InK.no _ _)) (by kernel_rfl) ?_
  obtain ⟨u12, h11, hM⟩ := bind_some hM
  refine WL.growApp (G' := []) (A := A2) (B := (SkL.at b10 1 (fun _ => ()))) (xs := x1) (ys := ([r8] : List trace_seen)) (m := 14) (by_ := 128) (e := 42) (z := .agg #[.bool false, .int .i64 0, .int .i64 0, .string (⟨#[]⟩ : ByteArray), .int .i64 0, .int .u64 0, .int .u64 0, .bool false, .int .i64 0, .bool false, .int .i64 0, .int .i64 0, .string (⟨#[]⟩ : ByteArray), .bool false]) (f := (pl trace_seen.enc)) (K := noK) (d := 21) 0 rfl rfl (by kernel_rfl) (by kernel_rfl) (by kernel_rfl) (by kernel_rfl) (by kernel_rfl) (fun _ _ => rfl) (fun _ _ => rfl) (by kernel_rfl) (by kernel_rfl) (by kernel_rfl) (by kernel_rfl) (by kernel_rfl) (fact_at 1 rfl) (fact_at 0 rfl) h11 (by kernel_rfl) (fun A13 => ?_)
  refine WL.less (Φ' := ([GIn noK A13 (x1 ++ ([r8] : List trace_seen)), Row 14 (pl trace_seen.enc) noK (SkL.at b10 1 (fun _ => ())) ([r8] : List trace_seen), GIn noK A2 x1, GIn noK (SkL.nil (fun _ => ())) ([] : List trace_seen), Row 21 api_Gate.encS api_Gate.inK A00 a0, Row 4 (pl api_Event.enc) noK A01 a1] ++ Glob)) (fun _ h => h) ?_
  refine WL.rn 1 [] [(5, slcV A13 (x1 ++ ([r8] : List trace_seen)).length)] ?_
  refine WP.done (WP.leave (WP.rn [] [(12, .int .i64 (i64 (x3 + 1))), (22, .int .i64 (i64 (x3 + 1)))] ?_))
  exact WP.again' [0, 1, 4, 5, 10, 11, 12] ((x1 ++ ([r8] : List trace_seen)), A13, i64 (x3 + 1)) hM (by kernel_rfl) (fun _ h => ((h.pick [] (by kernel_rfl)).lessF [0, 3, 4, 5] (by kernel_rfl)).pickG [0] [] 1 rfl (by decide) (by kernel_rfl))
 ·replace hM := cond_f hM c4
  refine WP.exit rfl (WP.seq (WP.seq (WP.rn [] [(23, slcV A01 a1.length), (24, .int .i64 (a1.length : Int)), (25, .int .i64 0)] ?_)))
  refine WP.block ?_
  refine WP.growIce (G' := []) (m := 14) (e := 42) (f := (pl trace_seen.enc)) (K := noK) (A := A2) (xs := x1) 0 0 (by kernel_rfl) (by kernel_rfl) (fun _ _ => rfl) (by kernel_rfl) ?_
  refine WP.sub [0, 4, 5, 23, 24, 25] (L' := [(0, slcV A00 a0.length), (4, .int .i64 0), (5, slcV A2 x1.length), (23, slcV A01 a1.length), (24, .int .i64 (a1.length : Int)), (25, .int .i64 0)]) (by kernel_rfl) ?_
  refine WP.lessF [0, 1, 2, 3, 4] (F' := [Row 14 (pl trace_seen.enc) noK A2 x1, GIn noK A2 x1, GIn noK (SkL.nil (fun _ => ())) ([] : List trace_seen), Row 21 api_Gate.encS api_Gate.inK A00 a0, Row 4 (pl api_Event.enc) noK A01 a1]) (by kernel_rfl) ?_
  refine WP.loop (σ := Int × Int) (fun n st => trace_First.l8 a1 k a0 x1 n st.1 st.2) r (fun st => [(0, slcV A00 a0.length), (4, .int .i64 st.1), (5, slcV A2 x1.length), (23, slcV A01 a1.length), (24, .int .i64 (a1.length : Int)), (25, .int .i64 st.2)]) (fun st => Sat w Z [] [] ([Row 14 (pl trace_seen.enc) noK A2 x1, GIn noK A2 x1, GIn noK (SkL.nil (fun _ => ())) ([] : List trace_seen), Row 21 api_Gate.encS api_Gate.inK A00 a0, Row 4 (pl api_Event.enc) noK A01 a1] ++ Glob)) (st := (0, 0)) (fun n st hM => ?_) hM
  rcases n with _ | n
  ·exact nomatch (show (none : Option _) = some r from hM)
  obtain ⟨x36, x37⟩ := st
  replace hM : trace_First.l8 a1 k a0 x1 (n + 1) x36 x37 = some r := hM
  rw [trace_First.l8] at hM
  try dsimp only
  refine WP.seq (WP.rn [] [(26, .bool (decide (x37 < (a1.length : Int))))] ?_)
  refine WP.seq ?_
  refine WP.cond (decide (x37 < (a1.length : Int))) rfl rfl (fun c38 => ?_) (fun c38 => ?_)
  ·replace hM := cond_t hM c38
   refine WP.skip (WP.seq (WP.block (WP.seq (WP.region (WL.rn 1 [] [(27, .int .i64 x37)] ?_)))))
   obtain ⟨t39, h40, hM⟩ := bind_some hM
   refine WL.valF (φ := Row 4 (pl api_Event.enc) noK A01 a1) (fact_at 4 rfl) (fun w hR => run_indexRowF (A := A01) (xs := a1) (i := x37) (k := .i64) (e := 28) (m := 4) (by kernel_rfl) (by kernel_rfl) h40 (by kernel_rfl) (by kernel_rfl) hR) (by kernel_rfl) (by kernel_rfl) rfl ?_
   refine WL.valF (φ := Row 4 (pl api_Event.enc) noK A01 a1) (fact_at 4 rfl) (fun w hR => run_loadRowFA (A := A01) (xs := a1) (i := x37) (j := 0) (n := 4) (vs := [.bool t39.In, .int .i64 t39.Gate, .int .i64 t39.Port, .string t39.S]) h40 (fun _ => by kernel_rfl) (by kernel_rfl) (by kernel_rfl) (by kernel_rfl) rfl hR) (by kernel_rfl) (by kernel_rfl) rfl ?_
   refine WL.rh 3 [0, 0, 0, 0] (fun b41 => [(8, .int .i64 x37), (9, .pointer (some ⟨b41, 0, none⟩))]) (fun b41 => []) (fun b41 => [(b41, api_Event.o t39)]) (fun b41 => ?_)
   refine WP.done (WP.seq (WP.region ?_))
   refine WL.rn 4 [0] [(30, .pointer (some ⟨b41, 0, none⟩)), (31, .bool t39.In), (32, .bool (!t39.In)), (33, .bool (!t39.In))] ?_
   refine WL.join (σ := Bool × Bool) 4 (fun st => trace_First.k7 k a0 x1 x37 x36 (trace_First.l8 a1 k a0 x1 n) st.1 st.2 = some r) (fun st => [(0, slcV A00 a0.length), (4, .int .i64 x36), (5, slcV A2 x1.length), (8, .int .i64 x37), (9, .pointer (some ⟨b41, 0, none⟩)), (23, slcV A01 a1.length), (24, .int .i64 (a1.length : Int)), (25, .int .i64 x37), (26, .bool (decide (x37 < (a1.length : Int)))), (27, .int .i64 x37), (28, ptrV A01 (Int.toNat x37 * 4)), (29, api_Event.v t39), (30, .pointer (some ⟨b41, 0, none⟩)), (31, .bool t39.In), (32, .bool (!t39.In)), (33, .bool st.1), (37, .bool st.2)]) (fun st => Sat w Z [(b41, api_Event.o t39)] [] ([Row 14 (pl trace_seen.enc) noK A2 x1, GIn noK A2 x1, GIn noK (SkL.nil (fun _ => ())) ([] : List trace_seen), Row 21 api_Gate.encS api_Gate.inK A00 a0, Row 4 (pl api_Event.enc) noK A01 a1] ++ Glob)) (fun st hM => ?_) (fun K7 => ?_)
   ·
    obtain ⟨x45, x46⟩ := st
    replace hM : trace_First.k7 k a0 x1 x37 x36 (trace_First.l8 a1 k a0 x1 n) x45 x46 = some r := hM
    unfold trace_First.k7 at hM
    try dsimp only
    refine WL.rn 1 [] [(38, .bool x46)] ?_
    refine WL.join (σ := Bool × Bool) 6 (fun st => trace_First.k6 k a0 x1 x37 x36 (trace_First.l8 a1 k a0 x1 n) st.1 st.2 = some r) (fun st => [(0, slcV A00 a0.length), (4, .int .i64 x36), (5, slcV A2 x1.length), (8, .int .i64 x37), (9, .pointer (some ⟨b41, 0, none⟩)), (23, slcV A01 a1.length), (24, .int .i64 (a1.length : Int)), (25, .int .i64 x37), (26, .bool (decide (x37 < (a1.length : Int)))), (27, .int .i64 x37), (28, ptrV A01 (Int.toNat x37 * 4)), (29, api_Event.v t39), (30, .pointer (some ⟨b41, 0, none⟩)), (31, .bool t39.In), (32, .bool (!t39.In)), (33, .bool x45), (37, .bool x46), (38, .bool st.1), (44, .bool st.2)]) (fun st => Sat w Z [(b41, api_Event.o t39)] [] ([Row 14 (pl trace_seen.enc) noK A2 x1, GIn noK A2 x1, GIn noK (SkL.nil (fun _ => ())) ([] : List trace_seen), Row 21 api_Gate.encS api_Gate.inK A00 a0, Row 4 (pl api_Event.enc) noK A01 a1] ++ Glob)) (fun st hM => ?_) (fun K6 => ?_)
    ·
     obtain ⟨x50, x51⟩ := st
     replace hM : trace_First.k6 k a0 x1 x37 x36 (trace_First.l8 a1 k a0 x1 n) x50 x51 = some r := hM
     unfold trace_First.k6 at hM
     try dsimp only
     refine WL.rn 1 [] [(45, .bool x51)] ?_
     refine WL.join (σ := Bool × Bool) 6 (fun st => trace_First.k5 x37 x36 (trace_First.l8 a1 k a0 x1 n) st.1 st.2 = some r) (fun st => [(0, slcV A00 a0.length), (4, .int .i64 x36), (5, slcV A2 x1.length), (8, .int .i64 x37), (9, .pointer (some ⟨b41, 0, none⟩)), (23, slcV A01 a1.length), (24, .int .i64 (a1.length : Int)), (25, .int .i64 x37), (26, .bool (decide (x37 < (a1.length : Int)))), (27, .int .i64 x37), (28, ptrV A01 (Int.toNat x37 * 4)), (29, api_Event.v t39), (30, .pointer (some ⟨b41, 0, none⟩)), (31, .bool t39.In), (32, .bool (!t39.In)), (33, .bool x45), (37, .bool x46), (38, .bool x50), (44, .bool x51), (45, .bool st.1), (51, .bool st.2)]) (fun st => Sat w Z [(b41, api_Event.o t39)] [] ([Row 14 (pl trace_seen.enc) noK A2 x1, GIn noK A2 x1, GIn noK (SkL.nil (fun _ => ())) ([] : List trace_seen), Row 21 api_Gate.encS api_Gate.inK A00 a0, Row 4 (pl api_Event.enc) noK A01 a1] ++ Glob)) (fun st hM => ?_) (fun K5 => ?_)
     ·
      obtain ⟨x55, x56⟩ := st
      replace hM : trace_First.k5 x37 x36 (trace_First.l8 a1 k a0 x1 n) x55 x56 = some r := hM
      unfold trace_First.k5 at hM
      try dsimp only
      refine WP.done ?_
      refine WP.cond x56 rfl rfl (fun c57 => ?_) (fun c57 => ?_)
      ·replace hM := cond_t hM c57
       refine WP.seq (WP.rn [] [(4, .int .i64 x37), (52, .int .i64 x37)] ?_)
       obtain rfl := Option.some.inj hM
       exact WP.retF [] [] [3, 4]
      ·replace hM := cond_f hM c57
       refine WP.skip (WP.leave (WP.rn [] [(25, .int .i64 (i64 (x37 + 1))), (53, .int .i64 (i64 (x37 + 1)))] ?_))
       exact WP.again' [0, 4, 5, 23, 24, 25] (x36, i64 (x37 + 1)) hM (by kernel_rfl) (fun _ h => (h.pick [] (by kernel_rfl)).lessF [0, 1, 2, 3, 4] (by kernel_rfl))
     ·
      refine WL.sp 45 x51 (fun c52 => ?_) (fun c52 => ?_)
      ·replace hM := cond_t hM c52
       refine WL.rn 3 [] [(46, slcV A00 a0.length), (47, slcV A2 x1.length), (48, .int .i64 x37)] ?_
       obtain ⟨r53, h54, hM⟩ := bind_some hM
       refine WL.callP [] [] (trace_answers_calls k A00 A2 a0 x1 x37 _ h54) (sub_pick [3, 0] (by kernel_rfl)) (by kernel_rfl) (by kernel_rfl) rfl ?_
       refine WL.rn 2 [] [(50, .bool (!r53)), (51, .bool (!r53))] ?_
       exact WL.sub [0, 4, 5, 8, 9, 23, 24, 25, 26, 27, 28, 29, 30, 31, 32, 33, 37, 38, 44, 45, 51] (by kernel_rfl) (WL.pick [0] (by kernel_rfl) (by kernel_rfl) (WL.lessF [0, 1, 2, 3, 4] (by kernel_rfl) (K5 (true, !r53) hM)))
      ·replace hM := cond_f hM c52
       refine WL.rn 6 [] [(46, .tuple #[]), (47, .tuple #[]), (48, .tuple #[]), (49, .tuple #[]), (50, .tuple #[]), (51, .bool false)] ?_
       exact WL.sub [0, 4, 5, 8, 9, 23, 24, 25, 26, 27, 28, 29, 30, 31, 32, 33, 37, 38, 44, 45, 51] (by kernel_rfl) (WL.pick [0] (by kernel_rfl) (by kernel_rfl) (WL.lessF [0, 1, 2, 3, 4] (by kernel_rfl) (K5 (false, false) hM)))
    ·
     refine WL.sp 38 x46 (fun c47 => ?_) (fun c47 => ?_)
     ·replace hM := cond_t hM c47
      refine WL.rn 3 [] [(39, slcV A00 a0.length), (40, slcV A2 x1.length), (41, .int .i64 x37)] ?_
      obtain ⟨r48, h49, hM⟩ := bind_some hM
      refine WL.callP [] [] (trace_carried_calls k A00 A2 a0 x1 x37 _ h49) (sub_pick [3, 0] (by kernel_rfl)) (by kernel_rfl) (by kernel_rfl) rfl ?_
      refine WL.rn 2 [] [(43, .bool (!r48)), (44, .bool (!r48))] ?_
      exact WL.sub [0, 4, 5, 8, 9, 23, 24, 25, 26, 27, 28, 29, 30, 31, 32, 33, 37, 38, 44] (by kernel_rfl) (WL.pick [0] (by kernel_rfl) (by kernel_rfl) (WL.lessF [0, 1, 2, 3, 4] (by kernel_rfl) (K6 (true, !r48) hM)))
     ·replace hM := cond_f hM c47
      refine WL.rn 6 [] [(39, .tuple #[]), (40, .tuple #[]), (41, .tuple #[]), (42, .tuple #[]), (43, .tuple #[]), (44, .bool false)] ?_
      exact WL.sub [0, 4, 5, 8, 9, 23, 24, 25, 26, 27, 28, 29, 30, 31, 32, 33, 37, 38, 44] (by kernel_rfl) (WL.pick [0] (by kernel_rfl) (by kernel_rfl) (WL.lessF [0, 1, 2, 3, 4] (by kernel_rfl) (K6 (false, false) hM)))
   ·
    refine WL.sp 33 (!t39.In) (fun c42 => ?_) (fun c42 => ?_)
    ·replace hM := cond_t hM c42
     refine WL.rn 1 [0, 0, 0, 0] [(34, api_Event.v t39)] ?_
     obtain ⟨r43, h44, hM⟩ := bind_some hM
     refine WL.callP [] [] (trace_bridges_calls k t39 _ h44) (fun _ h => List.mem_append_right _ h) (by kernel_rfl) (by kernel_rfl) rfl ?_
     refine WL.rn 2 [] [(36, .bool (!r43)), (37, .bool (!r43))] ?_
     exact WL.sub [0, 4, 5, 8, 9, 23, 24, 25, 26, 27, 28, 29, 30, 31, 32, 33, 37] (by kernel_rfl) (WL.pick [0] (by kernel_rfl) (by kernel_rfl) (WL.lessF [0, 1, 2, 3, 4] (by kernel_rfl) (K7 (true, !r43) hM)))
    ·replace hM := cond_f hM c42
     refine WL.rn 4 [] [(34, .tuple #[]), (35, .tuple #[]), (36, .tuple #[]), (37, .bool false)] ?_
     exact WL.sub [0, 4, 5, 8, 9, 23, 24, 25, 26, 27, 28, 29, 30, 31, 32, 33, 37] (by kernel_rfl) (WL.pick [0] (by kernel_rfl) (by kernel_rfl) (WL.lessF [0, 1, 2, 3, 4] (by kernel_rfl) (K7 (false, false) hM)))
  ·replace hM := cond_f hM c38
   refine WP.exit rfl (WP.seq (WP.rn [] [(4, .int .i64 (-1))] ?_))
   obtain rfl := Option.some.inj hM
   exact WP.retF [] [] [3, 4]
def gangwaylaw28_fixed.k1 (x62 : Bool) : Option (Bool) :=
 some x62
def gangwaylaw28_fixed.k2 (k : Nat) (r1 : (List api_Gate)) (r4 : ByteArray) (x58 : Bool) : Option (Bool) :=
 bif x58 then
  (trace_Same.f k r1 (api_Event.mk true 1 1 r4) (api_Event.mk false 3 0 (⟨#[]⟩ : ByteArray))).bind fun r60 =>
  gangwaylaw28_fixed.k1 (!r60)
 else
  gangwaylaw28_fixed.k1 false
def gangwaylaw28_fixed.k3 (k : Nat) (r1 : (List api_Gate)) (r4 : ByteArray) (x54 : Bool) : Option (Bool) :=
 bif x54 then
  (trace_Same.f k r1 (api_Event.mk true 1 1 r4) (api_Event.mk false 2 1 r4)).bind fun r56 =>
  gangwaylaw28_fixed.k2 k r1 r4 r56
 else
  gangwaylaw28_fixed.k2 k r1 r4 false
def gangwaylaw28_fixed.k4 (k : Nat) (r1 : (List api_Gate)) (r16 : ByteArray) (r29 : ByteArray) (r11 : ByteArray) (r4 : ByteArray) (x49 : Bool) : Option (Bool) :=
 bif x49 then
  (trace_First.f k r1 ([(api_Event.mk true 1 1 r16), (api_Event.mk false 1 1 r29), (api_Event.mk true 2 2 r11)] : List api_Event)).bind fun r52 =>
  gangwaylaw28_fixed.k3 k r1 r4 (r52 == 1)
 else
  gangwaylaw28_fixed.k3 k r1 r4 false
def gangwaylaw28_fixed.k5 (k : Nat) (r1 : (List api_Gate)) (r11 : ByteArray) (r16 : ByteArray) (r29 : ByteArray) (r4 : ByteArray) (x44 : Bool) : Option (Bool) :=
 bif x44 then
  (trace_First.f k r1 ([(api_Event.mk true 2 2 r11), (api_Event.mk true 1 1 r16), (api_Event.mk false 1 1 r29)] : List api_Event)).bind fun r47 =>
  gangwaylaw28_fixed.k4 k r1 r16 r29 r11 r4 (r47 == (-1))
 else
  gangwaylaw28_fixed.k4 k r1 r16 r29 r11 r4 false
def gangwaylaw28_fixed.k6 (k : Nat) (r1 : (List api_Gate)) (r4 : ByteArray) (r11 : ByteArray) (r16 : ByteArray) (r29 : ByteArray) (x39 : Bool) : Option (Bool) :=
 bif x39 then
  (trace_First.f k r1 ([(api_Event.mk true 1 1 r4), (api_Event.mk false 1 1 r4)] : List api_Event)).bind fun r42 =>
  gangwaylaw28_fixed.k5 k r1 r11 r16 r29 r4 (r42 == 1)
 else
  gangwaylaw28_fixed.k5 k r1 r11 r16 r29 r4 false
def gangwaylaw28_fixed.f (k : Nat) : Option (Bool) :=
 (gangwaylaw27_Pair.f).bind fun r1 =>
 (gangwaylaw28_bytes.f k (api_Frame.mk 281474976710655 6 (api_Tag.mk false 0 false 0) 2048 (⟨#[]⟩ : ByteArray))).bind fun r4 =>
 (arp_Ask.f k 10 100 9).bind fun r9 =>
 (gangwaylaw28_bytes.f k r9).bind fun r11 =>
 (arp_Ask.f k 6 50 100).bind fun r14 =>
 (gangwaylaw28_bytes.f k r14).bind fun r16 =>
 (arp_Ask.f k 6 50 100).bind fun r19 =>
 (arp_Of.f k r19).bind fun (r21, r22) =>
 (arp_Tell.f k r21 10).bind fun (r25, r26) =>
 (gangwaylaw28_bytes.f k r25).bind fun r29 =>
 (trace_First.f k r1 ([(api_Event.mk true 1 1 r4), (api_Event.mk false 2 1 r4)] : List api_Event)).bind fun r33 =>
 bif (r33 == (-1)) then
  (trace_First.f k r1 ([(api_Event.mk false 2 1 r4), (api_Event.mk true 1 1 r4)] : List api_Event)).bind fun r37 =>
  gangwaylaw28_fixed.k6 k r1 r4 r11 r16 r29 (r37 == 0)
 else
  gangwaylaw28_fixed.k6 k r1 r4 r11 r16 r29 false
theorem gangwaylaw28_fixed_calls (k : Nat) (r : Bool) (h : gangwaylaw28_fixed.f k = some r) : Pure Tryz.prog Glob 8 #[] (.bool r) := by
 intro w Z hS
 refine callsS (args := []) (L := []) (N := 94) Tryz.func8 hS ?_
 have hM := h
 clear h hS
 unfold gangwaylaw28_fixed.f at hM
 refine WP.less (Φ' := [] ++ Glob) (fun _ h => h) ?_
 refine WP.seq (WP.rn [] [(0, .bool false)] ?_)
 refine WP.seq (WP.region ?_)
 obtain ⟨r1, h2, hM⟩ := bind_some hM
 refine WL.callX (F0 := []) [] [] [] (fun _ => _) [] (by kernel_rfl) (gangwaylaw27_Pair_calls _ h2) rfl rfl (by kernel_rfl) (by kernel_rfl) (fun _ => rfl) (fun A3 => ?_)
 refine WL.rn 1 [] [(1, slcV A3 r1.length)] ?_
 refine WP.done (WP.seq (WP.region ?_))
 refine WL.rn 1 [] [(14, .agg #[.int .u64 281474976710655, .int .u64 6, .bool false, .int .i64 0, .bool false, .int .i64 0, .int .i64 2048, .string (⟨#[]⟩ : ByteArray)])] ?_
 obtain ⟨r4, h5, hM⟩ := bind_some hM
 refine WL.callP [] [] (gangwaylaw28_bytes_calls k (api_Frame.mk 281474976710655 6 (api_Tag.mk false 0 false 0) 2048 (⟨#[]⟩ : ByteArray)) _ h5) (fun _ h => List.mem_append_right _ h) (by kernel_rfl) (by kernel_rfl) rfl ?_
 refine WL.rn 1 [] [(2, .string r4)] ?_
 refine WP.done (WP.seq ?_)
 refine WP.rh [0, 0, 0, 0] (fun b6 => [(3, .pointer (some ⟨b6, 0, none⟩))]) (fun b6 => []) (fun b6 => [(b6, .cells #[.bool true, .int .i64 1, .int .i64 1, .string r4] 28 (0, 0))]) (fun b6 => ?_)
 refine WP.seq ?_
 refine WP.rh [1, 1, 1, 1] (fun b7 => [(4, .pointer (some ⟨b7, 0, none⟩))]) (fun b7 => []) (fun b7 => [(b7, .cells #[.bool false, .int .i64 2, .int .i64 1, .string r4] 28 (0, 0))]) (fun b7 => ?_)
 refine WP.seq ?_
 refine WP.rh [2, 2, 2, 2] (fun b8 => [(5, .pointer (some ⟨b8, 0, none⟩))]) (fun b8 => []) (fun b8 => [(b8, .cells #[.bool false, .int .i64 1, .int .i64 1, .string r4] 28 (0, 0))]) (fun b8 => ?_)
 refine WP.seq (WP.region ?_)
 obtain ⟨r9, h10, hM⟩ := bind_some hM
 refine WL.callP [] [] (arp_Ask_calls k 10 100 9 _ h10) (fun _ h => List.mem_append_right _ h) (by kernel_rfl) (by kernel_rfl) rfl ?_
 obtain ⟨r11, h12, hM⟩ := bind_some hM
 refine WL.callP [] [] (gangwaylaw28_bytes_calls k r9 _ h12) (fun _ h => List.mem_append_right _ h) (by kernel_rfl) (by kernel_rfl) rfl ?_
 refine WL.rh 3 [3, 3, 3, 3] (fun b13 => [(6, .pointer (some ⟨b13, 0, none⟩))]) (fun b13 => []) (fun b13 => [(b13, .cells #[.bool true, .int .i64 2, .int .i64 2, .string r11] 28 (0, 0))]) (fun b13 => ?_)
 refine WP.done (WP.seq (WP.region ?_))
 obtain ⟨r14, h15, hM⟩ := bind_some hM
 refine WL.callP [] [] (arp_Ask_calls k 6 50 100 _ h15) (fun _ h => List.mem_append_right _ h) (by kernel_rfl) (by kernel_rfl) rfl ?_
 obtain ⟨r16, h17, hM⟩ := bind_some hM
 refine WL.callP [] [] (gangwaylaw28_bytes_calls k r14 _ h17) (fun _ h => List.mem_append_right _ h) (by kernel_rfl) (by kernel_rfl) rfl ?_
 refine WL.rh 3 [4, 4, 4, 4] (fun b18 => [(7, .pointer (some ⟨b18, 0, none⟩))]) (fun b18 => []) (fun b18 => [(b18, .cells #[.bool true, .int .i64 1, .int .i64 1, .string r16] 28 (0, 0))]) (fun b18 => ?_)
 refine WP.done (WP.seq (WP.region ?_))
 obtain ⟨r19, h20, hM⟩ := bind_some hM
 refine WL.callP [] [] (arp_Ask_calls k 6 50 100 _ h20) (fun _ h => List.mem_append_right _ h) (by kernel_rfl) (by kernel_rfl) rfl ?_
 obtain ⟨⟨r21, r22⟩, h23, hM⟩ := bind_some hM
 dsimp only at hM
 refine WL.callP [] [] (arp_Of_calls k r19 _ h23) (fun _ h => List.mem_append_right _ h) (by kernel_rfl) (by kernel_rfl) rfl ?_
 refine WL.rh 6 [5, 5, 5, 5, 5] (fun b24 => [(8, .pointer (some ⟨b24, 0, none⟩))]) (fun b24 => []) (fun b24 => [(b24, api_Arp.o r21)]) (fun b24 => ?_)
 refine WP.done (WP.seq (WP.region (WL.rn 1 [5, 5, 5, 5, 5] [(34, api_Arp.v r21)] ?_)))
 obtain ⟨⟨r25, r26⟩, h27, hM⟩ := bind_some hM
 dsimp only at hM
 refine WL.callP [] [] (arp_Tell_calls k r21 10 _ h27) (fun _ h => List.mem_append_right _ h) (by kernel_rfl) (by kernel_rfl) rfl ?_
 refine WL.rh 6 [6, 6, 6, 6, 6, 6, 6, 6] (fun b28 => [(10, .pointer (some ⟨b28, 0, none⟩))]) (fun b28 => []) (fun b28 => [(b28, api_Frame.o r25)]) (fun b28 => ?_)
 refine WP.done (WP.kp [true, true, true, true, true, false, true] ?_)
 refine WP.seq (WP.region (WL.rn 1 [5, 5, 5, 5, 5, 5, 5, 5] [(38, api_Frame.v r25)] ?_))
 obtain ⟨r29, h30, hM⟩ := bind_some hM
 refine WL.callP [] [] (gangwaylaw28_bytes_calls k r25 _ h30) (fun _ h => List.mem_append_right _ h) (by kernel_rfl) (by kernel_rfl) rfl ?_
 refine WL.rh 3 [6, 6, 6, 6] (fun b31 => [(12, .pointer (some ⟨b31, 0, none⟩))]) (fun b31 => []) (fun b31 => [(b31, .cells #[.bool false, .int .i64 1, .int .i64 1, .string r29] 28 (0, 0))]) (fun b31 => ?_)
 refine WP.done (WP.kp [true, true, true, true, true, false, true] ?_)
 refine WP.seq (WP.region ?_)
 refine WL.rh 4 [0, 0, 0, 0, 1, 1, 1, 1] (fun b32 => [(41, slcV A3 r1.length), (44, .slice (some ⟨b32, 0, none⟩) 2 2)]) (fun b32 => []) (fun b32 => [(b32, .cells #[.bool true, .int .i64 1, .int .i64 1, .string r4, .bool false, .int .i64 2, .int .i64 1, .string r4] 28 (0, 0))]) (fun b32 => ?_)
 refine WL.ice (H' := [(b6, .cells #[.bool true, .int .i64 1, .int .i64 1, .string r4] 28 (0, 0)), (b7, .cells #[.bool false, .int .i64 2, .int .i64 1, .string r4] 28 (0, 0)), (b8, .cells #[.bool false, .int .i64 1, .int .i64 1, .string r4] 28 (0, 0)), (b13, .cells #[.bool true, .int .i64 2, .int .i64 2, .string r11] 28 (0, 0)), (b18, .cells #[.bool true, .int .i64 1, .int .i64 1, .string r16] 28 (0, 0)), (b31, .cells #[.bool false, .int .i64 1, .int .i64 1, .string r29] 28 (0, 0))]) (Row 4 (pl api_Event.enc) noK (SkL.at b32 2 (fun _ => ())) ([(api_Event.mk true 1 1 r4), (api_Event.mk false 2 1 r4)] : List api_Event)) 6 (b := b32) (ob := .cells #[.bool true, .int .i64 1, .int .i64 1, .string r4, .bool false, .int .i64 2, .int .i64 1, .string r4] 28 (0, 0)) (by kernel_rfl) [] [] (by kernel_rfl) (fun w hb hψ => row_of_block hb (fun _ _ => rfl) ⟨[], by kernel_rfl⟩ (Nat.le_of_ble_eq_true rfl) (InK.no _ _)) (by kernel_rfl) ?_
 obtain ⟨r33, h34, hM⟩ := bind_some hM
 refine WL.callP [] [] (trace_First_calls k A3 (SkL.at b32 2 (fun _ => ())) r1 ([(api_Event.mk true 1 1 r4), (api_Event.mk false 2 1 r4)] : List api_Event) _ h34) (sub_pick [1, 0] (by kernel_rfl)) (by kernel_rfl) (by kernel_rfl) rfl ?_
 refine WL.rn 2 [] [(47, .bool (r33 == (-1)))] ?_
 refine WL.join (σ := Bool) 7 (fun st => gangwaylaw28_fixed.k6 k r1 r4 r11 r16 r29 st = some r) (fun st => [(0, .bool false), (1, slcV A3 r1.length), (3, .pointer (some ⟨b6, 0, none⟩)), (4, .pointer (some ⟨b7, 0, none⟩)), (5, .pointer (some ⟨b8, 0, none⟩)), (6, .pointer (some ⟨b13, 0, none⟩)), (7, .pointer (some ⟨b18, 0, none⟩)), (12, .pointer (some ⟨b31, 0, none⟩)), (54, .bool st)]) (fun st => Sat w Z [(b6, .cells #[.bool true, .int .i64 1, .int .i64 1, .string r4] 28 (0, 0)), (b7, .cells #[.bool false, .int .i64 2, .int .i64 1, .string r4] 28 (0, 0)), (b8, .cells #[.bool false, .int .i64 1, .int .i64 1, .string r4] 28 (0, 0)), (b13, .cells #[.bool true, .int .i64 2, .int .i64 2, .string r11] 28 (0, 0)), (b18, .cells #[.bool true, .int .i64 1, .int .i64 1, .string r16] 28 (0, 0)), (b31, .cells #[.bool false, .int .i64 1, .int .i64 1, .string r29] 28 (0, 0))] [] ([Row 4 (pl api_Event.enc) noK (SkL.at b32 2 (fun _ => ())) ([(api_Event.mk true 1 1 r4), (api_Event.mk false 2 1 r4)] : List api_Event), Row 21 api_Gate.encS api_Gate.inK A3 r1] ++ Glob)) (fun st hM => ?_) (fun K6 => ?_)
 ·
  obtain ⟨x39, rfl⟩ : ∃ y, y = st := ⟨st, rfl⟩
  replace hM : gangwaylaw28_fixed.k6 k r1 r4 r11 r16 r29 x39 = some r := hM
  unfold gangwaylaw28_fixed.k6 at hM
  try dsimp only
  refine WL.rn 1 [] [(55, .bool x39)] ?_
  refine WL.join (σ := Bool) 7 (fun st => gangwaylaw28_fixed.k5 k r1 r11 r16 r29 r4 st = some r) (fun st => [(0, .bool false), (1, slcV A3 r1.length), (3, .pointer (some ⟨b6, 0, none⟩)), (4, .pointer (some ⟨b7, 0, none⟩)), (6, .pointer (some ⟨b13, 0, none⟩)), (7, .pointer (some ⟨b18, 0, none⟩)), (12, .pointer (some ⟨b31, 0, none⟩)), (62, .bool st)]) (fun st => Sat w Z [(b6, .cells #[.bool true, .int .i64 1, .int .i64 1, .string r4] 28 (0, 0)), (b7, .cells #[.bool false, .int .i64 2, .int .i64 1, .string r4] 28 (0, 0)), (b13, .cells #[.bool true, .int .i64 2, .int .i64 2, .string r11] 28 (0, 0)), (b18, .cells #[.bool true, .int .i64 1, .int .i64 1, .string r16] 28 (0, 0)), (b31, .cells #[.bool false, .int .i64 1, .int .i64 1, .string r29] 28 (0, 0))] [] ([Row 4 (pl api_Event.enc) noK (SkL.at b32 2 (fun _ => ())) ([(api_Event.mk true 1 1 r4), (api_Event.mk false 2 1 r4)] : List api_Event), Row 21 api_Gate.encS api_Gate.inK A3 r1] ++ Glob)) (fun st hM => ?_) (fun K5 => ?_)
  ·
   obtain ⟨x44, rfl⟩ : ∃ y, y = st := ⟨st, rfl⟩
   replace hM : gangwaylaw28_fixed.k5 k r1 r11 r16 r29 r4 x44 = some r := hM
   unfold gangwaylaw28_fixed.k5 at hM
   try dsimp only
   refine WL.rn 1 [] [(63, .bool x44)] ?_
   refine WL.join (σ := Bool) 8 (fun st => gangwaylaw28_fixed.k4 k r1 r16 r29 r11 r4 st = some r) (fun st => [(0, .bool false), (1, slcV A3 r1.length), (3, .pointer (some ⟨b6, 0, none⟩)), (4, .pointer (some ⟨b7, 0, none⟩)), (6, .pointer (some ⟨b13, 0, none⟩)), (7, .pointer (some ⟨b18, 0, none⟩)), (12, .pointer (some ⟨b31, 0, none⟩)), (71, .bool st)]) (fun st => Sat w Z [(b6, .cells #[.bool true, .int .i64 1, .int .i64 1, .string r4] 28 (0, 0)), (b7, .cells #[.bool false, .int .i64 2, .int .i64 1, .string r4] 28 (0, 0)), (b13, .cells #[.bool true, .int .i64 2, .int .i64 2, .string r11] 28 (0, 0)), (b18, .cells #[.bool true, .int .i64 1, .int .i64 1, .string r16] 28 (0, 0)), (b31, .cells #[.bool false, .int .i64 1, .int .i64 1, .string r29] 28 (0, 0))] [] ([Row 4 (pl api_Event.enc) noK (SkL.at b32 2 (fun _ => ())) ([(api_Event.mk true 1 1 r4), (api_Event.mk false 2 1 r4)] : List api_Event), Row 21 api_Gate.encS api_Gate.inK A3 r1] ++ Glob)) (fun st hM => ?_) (fun K4 => ?_)
   ·
    obtain ⟨x49, rfl⟩ : ∃ y, y = st := ⟨st, rfl⟩
    replace hM : gangwaylaw28_fixed.k4 k r1 r16 r29 r11 r4 x49 = some r := hM
    unfold gangwaylaw28_fixed.k4 at hM
    try dsimp only
    refine WL.rn 1 [] [(72, .bool x49)] ?_
    refine WL.join (σ := Bool) 8 (fun st => gangwaylaw28_fixed.k3 k r1 r4 st = some r) (fun st => [(0, .bool false), (1, slcV A3 r1.length), (3, .pointer (some ⟨b6, 0, none⟩)), (4, .pointer (some ⟨b7, 0, none⟩)), (80, .bool st)]) (fun st => Sat w Z [(b6, .cells #[.bool true, .int .i64 1, .int .i64 1, .string r4] 28 (0, 0)), (b7, .cells #[.bool false, .int .i64 2, .int .i64 1, .string r4] 28 (0, 0))] [] ([Row 4 (pl api_Event.enc) noK (SkL.at b32 2 (fun _ => ())) ([(api_Event.mk true 1 1 r4), (api_Event.mk false 2 1 r4)] : List api_Event), Row 21 api_Gate.encS api_Gate.inK A3 r1] ++ Glob)) (fun st hM => ?_) (fun K3 => ?_)
    ·
     obtain ⟨x54, rfl⟩ : ∃ y, y = st := ⟨st, rfl⟩
     replace hM : gangwaylaw28_fixed.k3 k r1 r4 x54 = some r := hM
     unfold gangwaylaw28_fixed.k3 at hM
     try dsimp only
     refine WL.rn 1 [] [(81, .bool x54)] ?_
     refine WL.join (σ := Bool) 5 (fun st => gangwaylaw28_fixed.k2 k r1 r4 st = some r) (fun st => [(0, .bool false), (1, slcV A3 r1.length), (3, .pointer (some ⟨b6, 0, none⟩)), (86, .bool st)]) (fun st => Sat w Z [(b6, .cells #[.bool true, .int .i64 1, .int .i64 1, .string r4] 28 (0, 0))] [] ([Row 4 (pl api_Event.enc) noK (SkL.at b32 2 (fun _ => ())) ([(api_Event.mk true 1 1 r4), (api_Event.mk false 2 1 r4)] : List api_Event), Row 21 api_Gate.encS api_Gate.inK A3 r1] ++ Glob)) (fun st hM => ?_) (fun K2 => ?_)
     ·
      obtain ⟨x58, rfl⟩ : ∃ y, y = st := ⟨st, rfl⟩
      replace hM : gangwaylaw28_fixed.k2 k r1 r4 x58 = some r := hM
      unfold gangwaylaw28_fixed.k2 at hM
      try dsimp only
      refine WL.rn 1 [] [(87, .bool x58)] ?_
      refine WL.join (σ := Bool) 6 (fun st => gangwaylaw28_fixed.k1 st = some r) (fun st => [(0, .bool false), (93, .bool st)]) (fun st => Sat w Z [] [] ([Row 4 (pl api_Event.enc) noK (SkL.at b32 2 (fun _ => ())) ([(api_Event.mk true 1 1 r4), (api_Event.mk false 2 1 r4)] : List api_Event), Row 21 api_Gate.encS api_Gate.inK A3 r1] ++ Glob)) (fun st hM => ?_) (fun K1 => ?_)
      ·
       obtain ⟨x62, rfl⟩ : ∃ y, y = st := ⟨st, rfl⟩
       replace hM : gangwaylaw28_fixed.k1 x62 = some r := hM
       unfold gangwaylaw28_fixed.k1 at hM
       try dsimp only
       refine WL.rn 1 [] [(0, .bool x62)] ?_
       refine WP.done ?_
       obtain rfl := Option.some.inj hM
       exact WP.ret [] [] (.bool x62) (by kernel_rfl) (fun w' hw => ⟨rfl, (hw.pick [] rfl).less (fun _ h => List.mem_append_right _ h)⟩)
      ·
       refine WL.sp 87 x58 (fun c59 => ?_) (fun c59 => ?_)
       ·replace hM := cond_t hM c59
        refine WL.rn 3 [0, 0, 0, 0] [(88, slcV A3 r1.length), (89, .agg #[.bool true, .int .i64 1, .int .i64 1, .string r4]), (90, .agg #[.bool false, .int .i64 3, .int .i64 0, .string (⟨#[]⟩ : ByteArray)])] ?_
        obtain ⟨r60, h61, hM⟩ := bind_some hM
        refine WL.callP [] [] (trace_Same_calls k A3 r1 (api_Event.mk true 1 1 r4) (api_Event.mk false 3 0 (⟨#[]⟩ : ByteArray)) _ h61) (sub_pick [1] (by kernel_rfl)) (by kernel_rfl) (by kernel_rfl) rfl ?_
        refine WL.rn 2 [] [(93, .bool (!r60))] ?_
        exact WL.sub [0, 93] (by kernel_rfl) (WL.pick [] (by kernel_rfl) (by kernel_rfl) (WL.lessF [0, 1] (by kernel_rfl) (K1 (!r60) hM)))
       ·replace hM := cond_f hM c59
        refine WL.rn 6 [] [(93, .bool false)] ?_
        exact WL.sub [0, 93] (by kernel_rfl) (WL.pick [] (by kernel_rfl) (by kernel_rfl) (WL.lessF [0, 1] (by kernel_rfl) (K1 false hM)))
     ·
      refine WL.sp 81 x54 (fun c55 => ?_) (fun c55 => ?_)
      ·replace hM := cond_t hM c55
       refine WL.rn 3 [0, 0, 0, 0, 1, 1, 1, 1] [(82, slcV A3 r1.length), (83, .agg #[.bool true, .int .i64 1, .int .i64 1, .string r4]), (84, .agg #[.bool false, .int .i64 2, .int .i64 1, .string r4])] ?_
       obtain ⟨r56, h57, hM⟩ := bind_some hM
       refine WL.callP [] [] (trace_Same_calls k A3 r1 (api_Event.mk true 1 1 r4) (api_Event.mk false 2 1 r4) _ h57) (sub_pick [1] (by kernel_rfl)) (by kernel_rfl) (by kernel_rfl) rfl ?_
       refine WL.rn 1 [] [(86, .bool r56)] ?_
       exact WL.sub [0, 1, 3, 86] (by kernel_rfl) (WL.pick [0] (by kernel_rfl) (by kernel_rfl) (WL.lessF [0, 1] (by kernel_rfl) (K2 r56 hM)))
      ·replace hM := cond_f hM c55
       refine WL.rn 5 [] [(86, .bool false)] ?_
       exact WL.sub [0, 1, 3, 86] (by kernel_rfl) (WL.pick [0] (by kernel_rfl) (by kernel_rfl) (WL.lessF [0, 1] (by kernel_rfl) (K2 false hM)))
    ·
     refine WL.sp 72 x49 (fun c50 => ?_) (fun c50 => ?_)
     ·replace hM := cond_t hM c50
      refine WL.rh 5 [3, 3, 3, 3, 4, 4, 4, 4, 2, 2, 2, 2] (fun b51 => [(73, slcV A3 r1.length), (77, .slice (some ⟨b51, 0, none⟩) 3 3)]) (fun b51 => []) (fun b51 => [(b51, .cells #[.bool true, .int .i64 1, .int .i64 1, .string r16, .bool false, .int .i64 1, .int .i64 1, .string r29, .bool true, .int .i64 2, .int .i64 2, .string r11] 28 (0, 0))]) (fun b51 => ?_)
      refine WL.ice (H' := [(b6, .cells #[.bool true, .int .i64 1, .int .i64 1, .string r4] 28 (0, 0)), (b7, .cells #[.bool false, .int .i64 2, .int .i64 1, .string r4] 28 (0, 0)), (b13, .cells #[.bool true, .int .i64 2, .int .i64 2, .string r11] 28 (0, 0)), (b18, .cells #[.bool true, .int .i64 1, .int .i64 1, .string r16] 28 (0, 0)), (b31, .cells #[.bool false, .int .i64 1, .int .i64 1, .string r29] 28 (0, 0))]) (Row 4 (pl api_Event.enc) noK (SkL.at b51 3 (fun _ => ())) ([(api_Event.mk true 1 1 r16), (api_Event.mk false 1 1 r29), (api_Event.mk true 2 2 r11)] : List api_Event)) 5 (b := b51) (ob := .cells #[.bool true, .int .i64 1, .int .i64 1, .string r16, .bool false, .int .i64 1, .int .i64 1, .string r29, .bool true, .int .i64 2, .int .i64 2, .string r11] 28 (0, 0)) (by kernel_rfl) [] [] (by kernel_rfl) (fun w hb hψ => row_of_block hb (fun _ _ => rfl) ⟨[], by kernel_rfl⟩ (Nat.le_of_ble_eq_true rfl) (InK.no _ _)) (by kernel_rfl) ?_
      obtain ⟨r52, h53, hM⟩ := bind_some hM
      refine WL.callP [] [] (trace_First_calls k A3 (SkL.at b51 3 (fun _ => ())) r1 ([(api_Event.mk true 1 1 r16), (api_Event.mk false 1 1 r29), (api_Event.mk true 2 2 r11)] : List api_Event) _ h53) (sub_pick [2, 0] (by kernel_rfl)) (by kernel_rfl) (by kernel_rfl) rfl ?_
      refine WL.rn 2 [] [(80, .bool (r52 == 1))] ?_
      exact WL.sub [0, 1, 3, 4, 80] (by kernel_rfl) (WL.pick [0, 1] (by kernel_rfl) (by kernel_rfl) (WL.lessF [1, 2] (by kernel_rfl) (K3 (r52 == 1) hM)))
     ·replace hM := cond_f hM c50
      refine WL.rn 8 [] [(80, .bool false)] ?_
      exact WL.sub [0, 1, 3, 4, 80] (by kernel_rfl) (WL.pick [0, 1] (by kernel_rfl) (by kernel_rfl) (WL.lessF [0, 1] (by kernel_rfl) (K3 false hM)))
   ·
    refine WL.sp 63 x44 (fun c45 => ?_) (fun c45 => ?_)
    ·replace hM := cond_t hM c45
     refine WL.rh 5 [2, 2, 2, 2, 3, 3, 3, 3, 4, 4, 4, 4] (fun b46 => [(64, slcV A3 r1.length), (68, .slice (some ⟨b46, 0, none⟩) 3 3)]) (fun b46 => []) (fun b46 => [(b46, .cells #[.bool true, .int .i64 2, .int .i64 2, .string r11, .bool true, .int .i64 1, .int .i64 1, .string r16, .bool false, .int .i64 1, .int .i64 1, .string r29] 28 (0, 0))]) (fun b46 => ?_)
     refine WL.ice (H' := [(b6, .cells #[.bool true, .int .i64 1, .int .i64 1, .string r4] 28 (0, 0)), (b7, .cells #[.bool false, .int .i64 2, .int .i64 1, .string r4] 28 (0, 0)), (b13, .cells #[.bool true, .int .i64 2, .int .i64 2, .string r11] 28 (0, 0)), (b18, .cells #[.bool true, .int .i64 1, .int .i64 1, .string r16] 28 (0, 0)), (b31, .cells #[.bool false, .int .i64 1, .int .i64 1, .string r29] 28 (0, 0))]) (Row 4 (pl api_Event.enc) noK (SkL.at b46 3 (fun _ => ())) ([(api_Event.mk true 2 2 r11), (api_Event.mk true 1 1 r16), (api_Event.mk false 1 1 r29)] : List api_Event)) 5 (b := b46) (ob := .cells #[.bool true, .int .i64 2, .int .i64 2, .string r11, .bool true, .int .i64 1, .int .i64 1, .string r16, .bool false, .int .i64 1, .int .i64 1, .string r29] 28 (0, 0)) (by kernel_rfl) [] [] (by kernel_rfl) (fun w hb hψ => row_of_block hb (fun _ _ => rfl) ⟨[], by kernel_rfl⟩ (Nat.le_of_ble_eq_true rfl) (InK.no _ _)) (by kernel_rfl) ?_
     obtain ⟨r47, h48, hM⟩ := bind_some hM
     refine WL.callP [] [] (trace_First_calls k A3 (SkL.at b46 3 (fun _ => ())) r1 ([(api_Event.mk true 2 2 r11), (api_Event.mk true 1 1 r16), (api_Event.mk false 1 1 r29)] : List api_Event) _ h48) (sub_pick [2, 0] (by kernel_rfl)) (by kernel_rfl) (by kernel_rfl) rfl ?_
     refine WL.rn 2 [] [(71, .bool (r47 == (-1)))] ?_
     exact WL.sub [0, 1, 3, 4, 6, 7, 12, 71] (by kernel_rfl) (WL.pick [0, 1, 2, 3, 4] (by kernel_rfl) (by kernel_rfl) (WL.lessF [1, 2] (by kernel_rfl) (K4 (r47 == (-1)) hM)))
    ·replace hM := cond_f hM c45
     refine WL.rn 8 [] [(71, .bool false)] ?_
     exact WL.sub [0, 1, 3, 4, 6, 7, 12, 71] (by kernel_rfl) (WL.pick [0, 1, 2, 3, 4] (by kernel_rfl) (by kernel_rfl) (WL.lessF [0, 1] (by kernel_rfl) (K4 false hM)))
  ·
   refine WL.sp 55 x39 (fun c40 => ?_) (fun c40 => ?_)
   ·replace hM := cond_t hM c40
    refine WL.rh 4 [0, 0, 0, 0, 2, 2, 2, 2] (fun b41 => [(56, slcV A3 r1.length), (59, .slice (some ⟨b41, 0, none⟩) 2 2)]) (fun b41 => []) (fun b41 => [(b41, .cells #[.bool true, .int .i64 1, .int .i64 1, .string r4, .bool false, .int .i64 1, .int .i64 1, .string r4] 28 (0, 0))]) (fun b41 => ?_)
    refine WL.ice (H' := [(b6, .cells #[.bool true, .int .i64 1, .int .i64 1, .string r4] 28 (0, 0)), (b7, .cells #[.bool false, .int .i64 2, .int .i64 1, .string r4] 28 (0, 0)), (b8, .cells #[.bool false, .int .i64 1, .int .i64 1, .string r4] 28 (0, 0)), (b13, .cells #[.bool true, .int .i64 2, .int .i64 2, .string r11] 28 (0, 0)), (b18, .cells #[.bool true, .int .i64 1, .int .i64 1, .string r16] 28 (0, 0)), (b31, .cells #[.bool false, .int .i64 1, .int .i64 1, .string r29] 28 (0, 0))]) (Row 4 (pl api_Event.enc) noK (SkL.at b41 2 (fun _ => ())) ([(api_Event.mk true 1 1 r4), (api_Event.mk false 1 1 r4)] : List api_Event)) 6 (b := b41) (ob := .cells #[.bool true, .int .i64 1, .int .i64 1, .string r4, .bool false, .int .i64 1, .int .i64 1, .string r4] 28 (0, 0)) (by kernel_rfl) [] [] (by kernel_rfl) (fun w hb hψ => row_of_block hb (fun _ _ => rfl) ⟨[], by kernel_rfl⟩ (Nat.le_of_ble_eq_true rfl) (InK.no _ _)) (by kernel_rfl) ?_
    obtain ⟨r42, h43, hM⟩ := bind_some hM
    refine WL.callP [] [] (trace_First_calls k A3 (SkL.at b41 2 (fun _ => ())) r1 ([(api_Event.mk true 1 1 r4), (api_Event.mk false 1 1 r4)] : List api_Event) _ h43) (sub_pick [2, 0] (by kernel_rfl)) (by kernel_rfl) (by kernel_rfl) rfl ?_
    refine WL.rn 2 [] [(62, .bool (r42 == 1))] ?_
    exact WL.sub [0, 1, 3, 4, 6, 7, 12, 62] (by kernel_rfl) (WL.pick [0, 1, 3, 4, 5] (by kernel_rfl) (by kernel_rfl) (WL.lessF [1, 2] (by kernel_rfl) (K5 (r42 == 1) hM)))
   ·replace hM := cond_f hM c40
    refine WL.rn 7 [] [(62, .bool false)] ?_
    exact WL.sub [0, 1, 3, 4, 6, 7, 12, 62] (by kernel_rfl) (WL.pick [0, 1, 3, 4, 5] (by kernel_rfl) (by kernel_rfl) (WL.lessF [0, 1] (by kernel_rfl) (K5 false hM)))
 ·
  refine WL.sp 47 (r33 == (-1)) (fun c35 => ?_) (fun c35 => ?_)
  ·replace hM := cond_t hM c35
   refine WL.rh 4 [1, 1, 1, 1, 0, 0, 0, 0] (fun b36 => [(48, slcV A3 r1.length), (51, .slice (some ⟨b36, 0, none⟩) 2 2)]) (fun b36 => []) (fun b36 => [(b36, .cells #[.bool false, .int .i64 2, .int .i64 1, .string r4, .bool true, .int .i64 1, .int .i64 1, .string r4] 28 (0, 0))]) (fun b36 => ?_)
   refine WL.ice (H' := [(b6, .cells #[.bool true, .int .i64 1, .int .i64 1, .string r4] 28 (0, 0)), (b7, .cells #[.bool false, .int .i64 2, .int .i64 1, .string r4] 28 (0, 0)), (b8, .cells #[.bool false, .int .i64 1, .int .i64 1, .string r4] 28 (0, 0)), (b13, .cells #[.bool true, .int .i64 2, .int .i64 2, .string r11] 28 (0, 0)), (b18, .cells #[.bool true, .int .i64 1, .int .i64 1, .string r16] 28 (0, 0)), (b31, .cells #[.bool false, .int .i64 1, .int .i64 1, .string r29] 28 (0, 0))]) (Row 4 (pl api_Event.enc) noK (SkL.at b36 2 (fun _ => ())) ([(api_Event.mk false 2 1 r4), (api_Event.mk true 1 1 r4)] : List api_Event)) 6 (b := b36) (ob := .cells #[.bool false, .int .i64 2, .int .i64 1, .string r4, .bool true, .int .i64 1, .int .i64 1, .string r4] 28 (0, 0)) (by kernel_rfl) [] [] (by kernel_rfl) (fun w hb hψ => row_of_block hb (fun _ _ => rfl) ⟨[], by kernel_rfl⟩ (Nat.le_of_ble_eq_true rfl) (InK.no _ _)) (by kernel_rfl) ?_
   obtain ⟨r37, h38, hM⟩ := bind_some hM
   refine WL.callP [] [] (trace_First_calls k A3 (SkL.at b36 2 (fun _ => ())) r1 ([(api_Event.mk false 2 1 r4), (api_Event.mk true 1 1 r4)] : List api_Event) _ h38) (sub_pick [2, 0] (by kernel_rfl)) (by kernel_rfl) (by kernel_rfl) rfl ?_
   refine WL.rn 2 [] [(54, .bool (r37 == 0))] ?_
   exact WL.sub [0, 1, 3, 4, 5, 6, 7, 12, 54] (by kernel_rfl) (WL.pick [0, 1, 2, 3, 4, 5] (by kernel_rfl) (by kernel_rfl) (WL.lessF [1, 2] (by kernel_rfl) (K6 (r37 == 0) hM)))
  ·replace hM := cond_f hM c35
   refine WL.rn 7 [] [(54, .bool false)] ?_
   exact WL.sub [0, 1, 3, 4, 5, 6, 7, 12, 54] (by kernel_rfl) (WL.pick [0, 1, 2, 3, 4, 5] (by kernel_rfl) (by kernel_rfl) (WL.lessF [0, 1] (by kernel_rfl) (K6 false hM)))
def gangwaylaw28_TraceSame.k2 (x43 : Bool) : Option (Bool) :=
 some x43
def gangwaylaw28_TraceSame.k3 (k : Nat) (x39 : Bool) : Option (Bool) :=
 bif x39 then
  (gangwaylaw28_fixed.f k).bind fun r41 =>
  gangwaylaw28_TraceSame.k2 r41
 else
  gangwaylaw28_TraceSame.k2 false
def gangwaylaw28_TraceSame.k4 (k : Nat) (r3 : (List api_Gate)) (x35 : Bool) : Option (Bool) :=
 bif x35 then
  (config_Check.f k r3).bind fun r37 =>
  gangwaylaw28_TraceSame.k3 k (r37 == 0)
 else
  gangwaylaw28_TraceSame.k3 k false
def gangwaylaw28_TraceSame.k1 (k : Nat) (r3 : (List api_Gate)) (x34 : Bool) : Option (Bool) :=
 gangwaylaw28_TraceSame.k4 k r3 x34
def gangwaylaw28_TraceSame.f (k : Nat) (a0 : (List api_Gate)) (a1 : api_Event) (a2 : api_Event) : Option (Bool) :=
 (gangwaylaw28_bound.f k a0 ([a1, a2] : List api_Event)).bind fun (r3, r4) =>
 (getL r4.length r4 0).bind fun t7 =>
 (getL r4.length r4 1).bind fun t9 =>
 (trace_Same.f k r3 t7 t9).bind fun r11 =>
 (getL r4.length r4 1).bind fun t13 =>
 (getL r4.length r4 0).bind fun t15 =>
 (trace_Same.f k r3 t13 t15).bind fun r17 =>
 bif !(r11 == r17) then
  some false
 else
  bif !r11 then
   gangwaylaw28_TraceSame.k4 k r3 true
  else
   (getL r4.length r4 0).bind fun t21 =>
   (getL r4.length r4 0).bind fun t23 =>
   (trace_Same.f k r3 t21 t23).bind fun r25 =>
   bif r25 then
    (getL r4.length r4 1).bind fun t28 =>
    (getL r4.length r4 1).bind fun t30 =>
    (trace_Same.f k r3 t28 t30).bind fun r32 =>
    gangwaylaw28_TraceSame.k1 k r3 r32
   else
    gangwaylaw28_TraceSame.k1 k r3 false
theorem gangwaylaw28_TraceSame_calls (k : Nat) (A00 : SkL ((SkL (SkL Unit)) × (SkL Unit) × (SkL (SkL Unit)) × (SkL Unit))) (a0 : (List api_Gate)) (a1 : api_Event) (a2 : api_Event) (r : Bool) (h : gangwaylaw28_TraceSame.f k a0 a1 a2 = some r) : Pure Tryz.prog ([Row 21 api_Gate.encS api_Gate.inK A00 a0] ++ Glob) 5 #[slcV A00 a0.length, api_Event.v a1, api_Event.v a2] (.bool r) := by
 intro w Z hS
 refine callsS (args := [slcV A00 a0.length, api_Event.v a1, api_Event.v a2]) (L := [(0, slcV A00 a0.length), (1, api_Event.v a1), (2, api_Event.v a2)]) (N := 66) Tryz.func5 hS ?_
 have hM := h
 clear h hS
 unfold gangwaylaw28_TraceSame.f at hM
 refine WP.seq ?_
 refine WP.rh [] (fun b1 => [(4, .pointer (some ⟨b1, 0, none⟩)), (5, .pointer (some ⟨(b1 + 1), 0, none⟩)), (6, .bool false)]) (fun b1 => []) (fun b1 => [(b1, api_Event.o a1), ((b1 + 1), api_Event.o a2)]) (fun b1 => ?_)
 refine WP.seq (WP.region ?_)
 refine WL.rh 4 [0, 0, 0, 0, 1, 1, 1, 1] (fun b2 => [(11, slcV A00 a0.length), (14, .slice (some ⟨b2, 0, none⟩) 2 2)]) (fun b2 => []) (fun b2 => [(b2, .cells #[.bool a1.In, .int .i64 a1.Gate, .int .i64 a1.Port, .string a1.S, .bool a2.In, .int .i64 a2.Gate, .int .i64 a2.Port, .string a2.S] 28 (0, 0))]) (fun b2 => ?_)
 refine WL.ice (H' := [(b1, api_Event.o a1), ((b1 + 1), api_Event.o a2)]) (Row 4 (pl api_Event.enc) noK (SkL.at b2 2 (fun _ => ())) ([a1, a2] : List api_Event)) 2 (b := b2) (ob := .cells #[.bool a1.In, .int .i64 a1.Gate, .int .i64 a1.Port, .string a1.S, .bool a2.In, .int .i64 a2.Gate, .int .i64 a2.Port, .string a2.S] 28 (0, 0)) (by kernel_rfl) [] [] (by kernel_rfl) (fun w hb hψ => row_of_block hb (fun _ _ => rfl) ⟨[], by kernel_rfl⟩ (Nat.le_of_ble_eq_true rfl) (InK.no _ _)) (by kernel_rfl) ?_
 obtain ⟨⟨r3, r4⟩, h5, hM⟩ := bind_some hM
 dsimp only at hM
 refine WL.callX (F0 := [Row 21 api_Gate.encS api_Gate.inK A00 a0, Row 4 (pl api_Event.enc) noK (SkL.at b2 2 (fun _ => ())) ([a1, a2] : List api_Event)]) [] [] [false, false] (fun _ => _) [1, 0] (by kernel_rfl) (gangwaylaw28_bound_calls k A00 (SkL.at b2 2 (fun _ => ())) a0 ([a1, a2] : List api_Event) _ h5) rfl rfl (by kernel_rfl) (by kernel_rfl) (fun _ => rfl) (fun A6 => ?_)
 refine WL.rn 5 [] [(7, slcV A6.1 r3.length), (8, slcV A6.2 r4.length)] ?_
 refine WP.done (WP.kp [false, false] ?_)
 refine WP.seq (WP.quiet (by kernel_rfl) (by kernel_rfl) ?_)
 refine QL.rn 2 [] [(18, slcV A6.1 r3.length), (19, slcV A6.2 r4.length)] ?_
 obtain ⟨t7, h8, hM⟩ := bind_some hM
 refine QL.valF (φ := Row 4 (pl api_Event.enc) noK A6.2 r4) (fact_at 1 rfl) (fun w hR => run_indexRowF (A := A6.2) (xs := r4) (i := 0) (k := .i64) (e := 28) (m := 4) (by kernel_rfl) (by kernel_rfl) h8 (by kernel_rfl) (by kernel_rfl) hR) (by kernel_rfl) (by kernel_rfl) rfl ?_
 refine QL.valF (φ := Row 4 (pl api_Event.enc) noK A6.2 r4) (fact_at 1 rfl) (fun w hR => run_loadRowFA (A := A6.2) (xs := r4) (i := 0) (j := 0) (n := 4) (vs := [.bool t7.In, .int .i64 t7.Gate, .int .i64 t7.Port, .string t7.S]) h8 (fun _ => by kernel_rfl) (by kernel_rfl) (by kernel_rfl) (by kernel_rfl) rfl hR) (by kernel_rfl) (by kernel_rfl) rfl ?_
 refine QL.rn 1 [] [(22, slcV A6.2 r4.length)] ?_
 obtain ⟨t9, h10, hM⟩ := bind_some hM
 refine QL.valF (φ := Row 4 (pl api_Event.enc) noK A6.2 r4) (fact_at 1 rfl) (fun w hR => run_indexRowF (A := A6.2) (xs := r4) (i := 1) (k := .i64) (e := 28) (m := 4) (by kernel_rfl) (by kernel_rfl) h10 (by kernel_rfl) (by kernel_rfl) hR) (by kernel_rfl) (by kernel_rfl) rfl ?_
 refine QL.valF (φ := Row 4 (pl api_Event.enc) noK A6.2 r4) (fact_at 1 rfl) (fun w hR => run_loadRowFA (A := A6.2) (xs := r4) (i := 1) (j := 0) (n := 4) (vs := [.bool t9.In, .int .i64 t9.Gate, .int .i64 t9.Port, .string t9.S]) h10 (fun _ => by kernel_rfl) (by kernel_rfl) (by kernel_rfl) (by kernel_rfl) rfl hR) (by kernel_rfl) (by kernel_rfl) rfl ?_
 obtain ⟨r11, h12, hM⟩ := bind_some hM
 refine QL.callP [] [] (trace_Same_calls k A6.1 r3 t7 t9 _ h12) (sub_pick [0] (by kernel_rfl)) (by kernel_rfl) (by kernel_rfl) rfl ?_
 refine QL.rn 1 [] [(9, .bool r11)] ?_
 refine QL.done ?_
 refine WP.seq (WP.seq (WP.quiet (by kernel_rfl) (by kernel_rfl) ?_))
 refine QL.rn 3 [] [(26, .bool r11), (27, slcV A6.1 r3.length), (28, slcV A6.2 r4.length)] ?_
 obtain ⟨t13, h14, hM⟩ := bind_some hM
 refine QL.valF (φ := Row 4 (pl api_Event.enc) noK A6.2 r4) (fact_at 1 rfl) (fun w hR => run_indexRowF (A := A6.2) (xs := r4) (i := 1) (k := .i64) (e := 28) (m := 4) (by kernel_rfl) (by kernel_rfl) h14 (by kernel_rfl) (by kernel_rfl) hR) (by kernel_rfl) (by kernel_rfl) rfl ?_
 refine QL.valF (φ := Row 4 (pl api_Event.enc) noK A6.2 r4) (fact_at 1 rfl) (fun w hR => run_loadRowFA (A := A6.2) (xs := r4) (i := 1) (j := 0) (n := 4) (vs := [.bool t13.In, .int .i64 t13.Gate, .int .i64 t13.Port, .string t13.S]) h14 (fun _ => by kernel_rfl) (by kernel_rfl) (by kernel_rfl) (by kernel_rfl) rfl hR) (by kernel_rfl) (by kernel_rfl) rfl ?_
 refine QL.rn 1 [] [(31, slcV A6.2 r4.length)] ?_
 obtain ⟨t15, h16, hM⟩ := bind_some hM
 refine QL.valF (φ := Row 4 (pl api_Event.enc) noK A6.2 r4) (fact_at 1 rfl) (fun w hR => run_indexRowF (A := A6.2) (xs := r4) (i := 0) (k := .i64) (e := 28) (m := 4) (by kernel_rfl) (by kernel_rfl) h16 (by kernel_rfl) (by kernel_rfl) hR) (by kernel_rfl) (by kernel_rfl) rfl ?_
 refine QL.valF (φ := Row 4 (pl api_Event.enc) noK A6.2 r4) (fact_at 1 rfl) (fun w hR => run_loadRowFA (A := A6.2) (xs := r4) (i := 0) (j := 0) (n := 4) (vs := [.bool t15.In, .int .i64 t15.Gate, .int .i64 t15.Port, .string t15.S]) h16 (fun _ => by kernel_rfl) (by kernel_rfl) (by kernel_rfl) (by kernel_rfl) rfl hR) (by kernel_rfl) (by kernel_rfl) rfl ?_
 obtain ⟨r17, h18, hM⟩ := bind_some hM
 refine QL.callP [] [] (trace_Same_calls k A6.1 r3 t13 t15 _ h18) (sub_pick [0] (by kernel_rfl)) (by kernel_rfl) (by kernel_rfl) rfl ?_
 refine QL.rn 1 [] [(35, .bool (!(r11 == r17)))] ?_
 refine QL.done ?_
 refine WP.cond (!(r11 == r17)) rfl rfl (fun c19 => ?_) (fun c19 => ?_)
 ·replace hM := cond_t hM c19
  refine WP.seq (WP.rn [] [(6, .bool false)] ?_)
  obtain rfl := Option.some.inj hM
  exact WP.retF [] [] [3]
 ·replace hM := cond_f hM c19
  refine WP.skip (WP.seq (WP.quiet (by kernel_rfl) (by kernel_rfl) ?_))
  refine QL.rn 3 [] [(38, .bool (!r11))] ?_
  refine QL.join (σ := Bool) 19 (fun st => gangwaylaw28_TraceSame.k4 k r3 st = some r) (fun st => [(6, .bool false), (7, slcV A6.1 r3.length), (57, .bool st)]) (fun st hM => ?_) (fun K4 => ?_)
  ·
   obtain ⟨x35, rfl⟩ : ∃ y, y = st := ⟨st, rfl⟩
   replace hM : gangwaylaw28_TraceSame.k4 k r3 x35 = some r := hM
   unfold gangwaylaw28_TraceSame.k4 at hM
   show QL _ _ _ _ _ _ [(6, .bool false), (7, slcV A6.1 r3.length), (57, .bool x35)]
   refine QL.rn 1 [] [(58, .bool x35)] ?_
   refine QL.join (σ := Bool) 4 (fun st => gangwaylaw28_TraceSame.k3 k st = some r) (fun st => [(6, .bool false), (62, .bool st)]) (fun st hM => ?_) (fun K3 => ?_)
   ·
    obtain ⟨x39, rfl⟩ : ∃ y, y = st := ⟨st, rfl⟩
    replace hM : gangwaylaw28_TraceSame.k3 k x39 = some r := hM
    unfold gangwaylaw28_TraceSame.k3 at hM
    show QL _ _ _ _ _ _ [(6, .bool false), (62, .bool x39)]
    refine QL.rn 1 [] [(63, .bool x39)] ?_
    refine QL.join (σ := Bool) 2 (fun st => gangwaylaw28_TraceSame.k2 st = some r) (fun st => [(6, .bool false), (65, .bool st)]) (fun st hM => ?_) (fun K2 => ?_)
    ·
     obtain ⟨x43, rfl⟩ : ∃ y, y = st := ⟨st, rfl⟩
     replace hM : gangwaylaw28_TraceSame.k2 x43 = some r := hM
     unfold gangwaylaw28_TraceSame.k2 at hM
     show QL _ _ _ _ _ _ [(6, .bool false), (65, .bool x43)]
     refine QL.rn 1 [] [(6, .bool x43)] ?_
     refine QL.done ?_
     obtain rfl := Option.some.inj hM
     exact WP.retF [] [] [3]
    ·
     refine QL.sp 63 x39 (fun c40 => ?_) (fun c40 => ?_)
     ·replace hM := cond_t hM c40
      obtain ⟨r41, h42, hM⟩ := bind_some hM
      refine QL.callP [] [] (gangwaylaw28_fixed_calls k _ h42) (fun _ h => List.mem_append_right _ h) (by kernel_rfl) (by kernel_rfl) rfl ?_
      refine QL.rn 1 [] [(65, .bool r41)] ?_
      exact QL.sub [6, 65] (by kernel_rfl) (K2 r41 hM)
     ·replace hM := cond_f hM c40
      refine QL.rn 2 [] [(65, .bool false)] ?_
      exact QL.sub [6, 65] (by kernel_rfl) (K2 false hM)
   ·
    refine QL.sp 58 x35 (fun c36 => ?_) (fun c36 => ?_)
    ·replace hM := cond_t hM c36
     refine QL.rn 1 [] [(59, slcV A6.1 r3.length)] ?_
     obtain ⟨r37, h38, hM⟩ := bind_some hM
     refine QL.callP [] [] (config_Check_calls k A6.1 r3 _ h38) (sub_pick [0] (by kernel_rfl)) (by kernel_rfl) (by kernel_rfl) rfl ?_
     refine QL.rn 2 [] [(62, .bool (r37 == 0))] ?_
     exact QL.sub [6, 62] (by kernel_rfl) (K3 (r37 == 0) hM)
    ·replace hM := cond_f hM c36
     refine QL.rn 4 [] [(62, .bool false)] ?_
     exact QL.sub [6, 62] (by kernel_rfl) (K3 false hM)
  ·
   refine QL.sp 38 (!r11) (fun c20 => ?_) (fun c20 => ?_)
   ·replace hM := cond_t hM c20
    refine QL.rn 19 [] [(57, .bool true)] ?_
    exact QL.sub [6, 7, 57] (by kernel_rfl) (K4 true hM)
   ·replace hM := cond_f hM c20
    refine QL.rn 2 [] [(39, slcV A6.1 r3.length), (40, slcV A6.2 r4.length)] ?_
    obtain ⟨t21, h22, hM⟩ := bind_some hM
    refine QL.valF (φ := Row 4 (pl api_Event.enc) noK A6.2 r4) (fact_at 1 rfl) (fun w hR => run_indexRowF (A := A6.2) (xs := r4) (i := 0) (k := .i64) (e := 28) (m := 4) (by kernel_rfl) (by kernel_rfl) h22 (by kernel_rfl) (by kernel_rfl) hR) (by kernel_rfl) (by kernel_rfl) rfl ?_
    refine QL.valF (φ := Row 4 (pl api_Event.enc) noK A6.2 r4) (fact_at 1 rfl) (fun w hR => run_loadRowFA (A := A6.2) (xs := r4) (i := 0) (j := 0) (n := 4) (vs := [.bool t21.In, .int .i64 t21.Gate, .int .i64 t21.Port, .string t21.S]) h22 (fun _ => by kernel_rfl) (by kernel_rfl) (by kernel_rfl) (by kernel_rfl) rfl hR) (by kernel_rfl) (by kernel_rfl) rfl ?_
    refine QL.rn 1 [] [(43, slcV A6.2 r4.length)] ?_
    obtain ⟨t23, h24, hM⟩ := bind_some hM
    refine QL.valF (φ := Row 4 (pl api_Event.enc) noK A6.2 r4) (fact_at 1 rfl) (fun w hR => run_indexRowF (A := A6.2) (xs := r4) (i := 0) (k := .i64) (e := 28) (m := 4) (by kernel_rfl) (by kernel_rfl) h24 (by kernel_rfl) (by kernel_rfl) hR) (by kernel_rfl) (by kernel_rfl) rfl ?_
    refine QL.valF (φ := Row 4 (pl api_Event.enc) noK A6.2 r4) (fact_at 1 rfl) (fun w hR => run_loadRowFA (A := A6.2) (xs := r4) (i := 0) (j := 0) (n := 4) (vs := [.bool t23.In, .int .i64 t23.Gate, .int .i64 t23.Port, .string t23.S]) h24 (fun _ => by kernel_rfl) (by kernel_rfl) (by kernel_rfl) (by kernel_rfl) rfl hR) (by kernel_rfl) (by kernel_rfl) rfl ?_
    obtain ⟨r25, h26, hM⟩ := bind_some hM
    refine QL.callP [] [] (trace_Same_calls k A6.1 r3 t21 t23 _ h26) (sub_pick [0] (by kernel_rfl)) (by kernel_rfl) (by kernel_rfl) rfl ?_
    refine QL.rn 1 [] [(47, .bool r25)] ?_
    refine QL.join (σ := Bool) 9 (fun st => gangwaylaw28_TraceSame.k1 k r3 st = some r) (fun st => [(6, .bool false), (7, slcV A6.1 r3.length), (38, .bool false), (56, .bool st)]) (fun st hM => ?_) (fun K1 => ?_)
    ·
     obtain ⟨x34, rfl⟩ : ∃ y, y = st := ⟨st, rfl⟩
     replace hM : gangwaylaw28_TraceSame.k1 k r3 x34 = some r := hM
     unfold gangwaylaw28_TraceSame.k1 at hM
     show QL _ _ _ _ _ _ [(6, .bool false), (7, slcV A6.1 r3.length), (38, .bool false), (56, .bool x34)]
     refine QL.rn 1 [] [(57, .bool x34)] ?_
     exact QL.sub [6, 7, 57] (by kernel_rfl) (K4 x34 hM)
    ·
     refine QL.sp 47 r25 (fun c27 => ?_) (fun c27 => ?_)
     ·replace hM := cond_t hM c27
      refine QL.rn 2 [] [(48, slcV A6.1 r3.length), (49, slcV A6.2 r4.length)] ?_
      obtain ⟨t28, h29, hM⟩ := bind_some hM
      refine QL.valF (φ := Row 4 (pl api_Event.enc) noK A6.2 r4) (fact_at 1 rfl) (fun w hR => run_indexRowF (A := A6.2) (xs := r4) (i := 1) (k := .i64) (e := 28) (m := 4) (by kernel_rfl) (by kernel_rfl) h29 (by kernel_rfl) (by kernel_rfl) hR) (by kernel_rfl) (by kernel_rfl) rfl ?_
      refine QL.valF (φ := Row 4 (pl api_Event.enc) noK A6.2 r4) (fact_at 1 rfl) (fun w hR => run_loadRowFA (A := A6.2) (xs := r4) (i := 1) (j := 0) (n := 4) (vs := [.bool t28.In, .int .i64 t28.Gate, .int .i64 t28.Port, .string t28.S]) h29 (fun _ => by kernel_rfl) (by kernel_rfl) (by kernel_rfl) (by kernel_rfl) rfl hR) (by kernel_rfl) (by kernel_rfl) rfl ?_
      refine QL.rn 1 [] [(52, slcV A6.2 r4.length)] ?_
      obtain ⟨t30, h31, hM⟩ := bind_some hM
      refine QL.valF (φ := Row 4 (pl api_Event.enc) noK A6.2 r4) (fact_at 1 rfl) (fun w hR => run_indexRowF (A := A6.2) (xs := r4) (i := 1) (k := .i64) (e := 28) (m := 4) (by kernel_rfl) (by kernel_rfl) h31 (by kernel_rfl) (by kernel_rfl) hR) (by kernel_rfl) (by kernel_rfl) rfl ?_
      refine QL.valF (φ := Row 4 (pl api_Event.enc) noK A6.2 r4) (fact_at 1 rfl) (fun w hR => run_loadRowFA (A := A6.2) (xs := r4) (i := 1) (j := 0) (n := 4) (vs := [.bool t30.In, .int .i64 t30.Gate, .int .i64 t30.Port, .string t30.S]) h31 (fun _ => by kernel_rfl) (by kernel_rfl) (by kernel_rfl) (by kernel_rfl) rfl hR) (by kernel_rfl) (by kernel_rfl) rfl ?_
      obtain ⟨r32, h33, hM⟩ := bind_some hM
      refine QL.callP [] [] (trace_Same_calls k A6.1 r3 t28 t30 _ h33) (sub_pick [0] (by kernel_rfl)) (by kernel_rfl) (by kernel_rfl) rfl ?_
      refine QL.rn 1 [] [(56, .bool r32)] ?_
      exact QL.sub [6, 7, 38, 56] (by kernel_rfl) (K1 r32 hM)
     ·replace hM := cond_f hM c27
      refine QL.rn 9 [] [(56, .bool false)] ?_
      exact QL.sub [6, 7, 38, 56] (by kernel_rfl) (K1 false hM)
end Go.Proofs.YtbbekdmndifkpaaGreatDoor
