/- The walks of the functions that the laws reach: each shows that a call returns what its plain model says, wherever the model gives an answer. -/
import Derived.Test.YtbbekdmndifkpaaGreatDoorF1

namespace Go.Proofs.YtbbekdmndifkpaaGreatDoor
set_option maxRecDepth 100000
set_option linter.unusedVariables false
set_option linter.unusedSimpArgs false
open Go Eng
def gangwayref24_New.k2 (a0_6 : api_Near) (a0_1 : Int) (a0_2 : Int) (a0 : Int) (a0_10 : Int) (x31 : Bool) : Option (Int) :=
 bif ((((((!x31) || (a0_6.Mac != a0_1)) || (a0_6.Ip != a0_2)) || (a0 == 0)) || (decide (a0_10 < 68))) || (decide (a0_10 > 65535))) then
  some 240
 else
  (mkLen 8 13).bind fun t33 =>
  some 0
def gangwayref24_New.l1 (a0_3 : (List api_PortCfg)) (k : Nat) (a0_5 : api_Keep) (a0 : Int) (a0_4 : (List Bool)) (a0_7 : Int) (a0_6 : api_Near) (a0_9 : (List api_Route)) (a0_2 : Int) (a0_8 : (List api_Seg)) (a0_1 : Int) (a0_10 : Int) : Nat → (List Int) → Int → Option (Int)
 | 0, _, _ => none
 | n + 1, x3, x5 =>
  bif decide (x5 < (a0_3.length : Int)) then
   (roomL 8 (x3 ++ ([1] : List Int)).length).bind fun u9 =>
   gangwayref24_New.l1 a0_3 k a0_5 a0 a0_4 a0_7 a0_6 a0_9 a0_2 a0_8 a0_1 a0_10 n (x3 ++ ([1] : List Int)) (i64 (x5 + 1))
  else
   (gangwayref17_New.f k a0_3 a0_5).bind fun r11 =>
   (gangwayref15_New.f k a0 x3 a0_4).bind fun (r14, r15) =>
   (gangwayref12_New.f a0_5.Room a0_7).bind fun r19 =>
   (gangwayref19_New.f a0_6).bind fun r22 =>
   (gangwayref24_ways.f k a0_9).bind fun r25 =>
   bif (((((r11 == 0) && (r15 == 0)) && (r19 == 0)) && (r22 == 0)) && r25) then
    (gangwayref21_Check.f k a0_2 a0_8).bind fun r29 =>
    gangwayref24_New.k2 a0_6 a0_1 a0_2 a0 a0_10 (r29 == 0)
   else
    gangwayref24_New.k2 a0_6 a0_1 a0_2 a0 a0_10 false
def gangwayref24_New.f (k : Nat) (a0 : Int) (a0_1 : Int) (a0_2 : Int) (a0_3 : (List api_PortCfg)) (a0_4 : (List Bool)) (a0_5 : api_Keep) (a0_6 : api_Near) (a0_7 : Int) (a0_8 : (List api_Seg)) (a0_9 : (List api_Route)) (a0_10 : Int) (a0_11 : Bool) : Option (Int) :=
 gangwayref24_New.l1 a0_3 k a0_5 a0 a0_4 a0_7 a0_6 a0_9 a0_2 a0_8 a0_1 a0_10 k ([] : List Int) 0
theorem gangwayref24_New_calls (k : Nat) (A00 : SkL (SkL Unit)) (A01 : SkL Unit) (A02 : SkL (SkL Unit)) (A03 : SkL Unit) (a0 : Int) (a0_1 : Int) (a0_2 : Int) (a0_3 : (List api_PortCfg)) (a0_4 : (List Bool)) (a0_5 : api_Keep) (a0_6 : api_Near) (a0_7 : Int) (a0_8 : (List api_Seg)) (a0_9 : (List api_Route)) (a0_10 : Int) (a0_11 : Bool) (r : Int) (h : gangwayref24_New.f k a0 a0_1 a0_2 a0_3 a0_4 a0_5 a0_6 a0_7 a0_8 a0_9 a0_10 a0_11 = some r) : Does Tryz.prog 33 #[.agg #[.int .u64 a0, .int .u64 a0_1, .int .u32 a0_2, slcV A00 a0_3.length, slcV A01 a0_4.length, .int .i64 a0_5.Room, .int .i64 a0_5.Life, .int .i64 a0_5.Moves, .int .i64 a0_5.Window, .int .u64 a0_6.Mac, .int .u32 a0_6.Ip, .int .i64 a0_6.Room, .int .i64 a0_6.Life, .int .i64 a0_6.Pend, .int .i64 a0_6.Tries, .int .i64 a0_6.Apart, .int .i64 a0_7, slcV A02 a0_8.length, slcV A03 a0_9.length, .int .i64 a0_10, .bool a0_11]] [] ([Row 3 api_PortCfg.encS api_PortCfg.inK A00 a0_3, Row 1 (pl encB) noK A01 a0_4, Row 3 api_Seg.encS api_Seg.inK A02 a0_8, Row 3 (pl api_Route.enc) noK A03 a0_9] ++ Glob) (fun x : (Option Addr) => .tuple #[.pointer x, .int .i64 r]) (fun x => []) (fun _ => []) (fun x => [] ++ ([Row 3 api_PortCfg.encS api_PortCfg.inK A00 a0_3, Row 1 (pl encB) noK A01 a0_4, Row 3 api_Seg.encS api_Seg.inK A02 a0_8, Row 3 (pl api_Route.enc) noK A03 a0_9] ++ Glob)) := by
 intro w Z hS
 refine callsS (args := [.agg #[.int .u64 a0, .int .u64 a0_1, .int .u32 a0_2, slcV A00 a0_3.length, slcV A01 a0_4.length, .int .i64 a0_5.Room, .int .i64 a0_5.Life, .int .i64 a0_5.Moves, .int .i64 a0_5.Window, .int .u64 a0_6.Mac, .int .u32 a0_6.Ip, .int .i64 a0_6.Room, .int .i64 a0_6.Life, .int .i64 a0_6.Pend, .int .i64 a0_6.Tries, .int .i64 a0_6.Apart, .int .i64 a0_7, slcV A02 a0_8.length, slcV A03 a0_9.length, .int .i64 a0_10, .bool a0_11]]) (L := [(0, .agg #[.int .u64 a0, .int .u64 a0_1, .int .u32 a0_2, slcV A00 a0_3.length, slcV A01 a0_4.length, .int .i64 a0_5.Room, .int .i64 a0_5.Life, .int .i64 a0_5.Moves, .int .i64 a0_5.Window, .int .u64 a0_6.Mac, .int .u32 a0_6.Ip, .int .i64 a0_6.Room, .int .i64 a0_6.Life, .int .i64 a0_6.Pend, .int .i64 a0_6.Tries, .int .i64 a0_6.Apart, .int .i64 a0_7, slcV A02 a0_8.length, slcV A03 a0_9.length, .int .i64 a0_10, .bool a0_11])]) (N := 133) Tryz.func33 hS ?_
 have hM := h
 clear h hS
 unfold gangwayref24_New.f at hM
 refine WP.seq ?_
 refine WP.rh [] (fun b1 => [(1, .pointer (some ⟨b1, 0, none⟩)), (2, .pointer none), (3, .int .i64 0)]) (fun b1 => []) (fun b1 => [(b1, .cells #[.int .u64 a0, .int .u64 a0_1, .int .u32 a0_2, slcV A00 a0_3.length, slcV A01 a0_4.length, .int .i64 a0_5.Room, .int .i64 a0_5.Life, .int .i64 a0_5.Moves, .int .i64 a0_5.Window, .int .u64 a0_6.Mac, .int .u32 a0_6.Ip, .int .i64 a0_6.Room, .int .i64 a0_6.Life, .int .i64 a0_6.Pend, .int .i64 a0_6.Tries, .int .i64 a0_6.Apart, .int .i64 a0_7, slcV A02 a0_8.length, slcV A03 a0_9.length, .int .i64 a0_10, .bool a0_11] 73 (0, 0))]) (fun b1 => ?_)
 refine WP.seq ?_
 refine WP.rh [] (fun b2 => [(4, .slice (some ⟨b2, 0, none⟩) 0 0)]) (fun b2 => []) (fun b2 => [(b2, .cells #[] 3 (0, 0))]) (fun b2 => ?_)
 refine WP.seq (WP.seq (WP.rn [] [(5, .int .i64 0)] ?_))
 refine WP.block ?_
 refine WP.growLit (H' := [(b1, .cells #[.int .u64 a0, .int .u64 a0_1, .int .u32 a0_2, slcV A00 a0_3.length, slcV A01 a0_4.length, .int .i64 a0_5.Room, .int .i64 a0_5.Life, .int .i64 a0_5.Moves, .int .i64 a0_5.Window, .int .u64 a0_6.Mac, .int .u32 a0_6.Ip, .int .i64 a0_6.Room, .int .i64 a0_6.Life, .int .i64 a0_6.Pend, .int .i64 a0_6.Tries, .int .i64 a0_6.Apart, .int .i64 a0_7, slcV A02 a0_8.length, slcV A03 a0_9.length, .int .i64 a0_10, .bool a0_11] 73 (0, 0))]) (m := 1) (e := 3) (f := (pl (encI .i64))) noK 1 (b := b2) (cs := #[]) (fun _ => ()) ([] : List Int) (by kernel_rfl) (fun _ _ => rfl) (by kernel_rfl) (by decide) [] [] (by kernel_rfl) (fun w hψ => (InK.no _ _)) (by kernel_rfl) ?_
 refine WP.sub [1, 2, 3, 4, 5] (L' := [(1, .pointer (some ⟨b1, 0, none⟩)), (2, .pointer none), (3, .int .i64 0), (4, slcV (SkL.at b2 0 (fun _ => ())) ([] : List Int).length), (5, .int .i64 0)]) (by kernel_rfl) ?_
 refine WP.lessF [0, 0, 1, 2, 3, 4] (F' := [GIn noK (SkL.at b2 0 (fun _ => ())) ([] : List Int), GIn noK (SkL.at b2 0 (fun _ => ())) ([] : List Int), Row 3 api_PortCfg.encS api_PortCfg.inK A00 a0_3, Row 1 (pl encB) noK A01 a0_4, Row 3 api_Seg.encS api_Seg.inK A02 a0_8, Row 3 (pl api_Route.enc) noK A03 a0_9]) (by kernel_rfl) ?_
 refine WP.loop (σ := (List Int) × SkL Unit × Int) (fun n st => gangwayref24_New.l1 a0_3 k a0_5 a0 a0_4 a0_7 a0_6 a0_9 a0_2 a0_8 a0_1 a0_10 n st.1 st.2.2) r (fun st => [(1, .pointer (some ⟨b1, 0, none⟩)), (2, .pointer none), (3, .int .i64 0), (4, slcV st.2.1 st.1.length), (5, .int .i64 st.2.2)]) (fun st => Sat w Z [(b1, .cells #[.int .u64 a0, .int .u64 a0_1, .int .u32 a0_2, slcV A00 a0_3.length, slcV A01 a0_4.length, .int .i64 a0_5.Room, .int .i64 a0_5.Life, .int .i64 a0_5.Moves, .int .i64 a0_5.Window, .int .u64 a0_6.Mac, .int .u32 a0_6.Ip, .int .i64 a0_6.Room, .int .i64 a0_6.Life, .int .i64 a0_6.Pend, .int .i64 a0_6.Tries, .int .i64 a0_6.Apart, .int .i64 a0_7, slcV A02 a0_8.length, slcV A03 a0_9.length, .int .i64 a0_10, .bool a0_11] 73 (0, 0))] [OwnR 1 3 (pl (encI .i64)) st.2.1 st.1] ([GIn noK st.2.1 st.1, GIn noK (SkL.at b2 0 (fun _ => ())) ([] : List Int), Row 3 api_PortCfg.encS api_PortCfg.inK A00 a0_3, Row 1 (pl encB) noK A01 a0_4, Row 3 api_Seg.encS api_Seg.inK A02 a0_8, Row 3 (pl api_Route.enc) noK A03 a0_9] ++ Glob)) (st := (([] : List Int), (SkL.at b2 0 (fun _ => ())), 0)) (fun n st hM => ?_) hM
 rcases n with _ | n
 ·exact nomatch (show (none : Option _) = some r from hM)
 obtain ⟨x3, A4, x5⟩ := st
 replace hM : gangwayref24_New.l1 a0_3 k a0_5 a0 a0_4 a0_7 a0_6 a0_9 a0_2 a0_8 a0_1 a0_10 (n + 1) x3 x5 = some r := hM
 rw [gangwayref24_New.l1] at hM
 try dsimp only
 refine WP.seq (WP.seq ?_)
 refine WP.rn [0] [(18, .int .i64 x5), (19, .pointer (some ⟨b1, 3, none⟩)), (20, slcV A00 a0_3.length), (21, .int .i64 (a0_3.length : Int)), (22, .bool (decide (x5 < (a0_3.length : Int))))] ?_
 refine WP.cond (decide (x5 < (a0_3.length : Int))) rfl rfl (fun c6 => ?_) (fun c6 => ?_)
 ·replace hM := cond_t hM c6
  refine WP.skip (WP.seq (WP.block (WP.region ?_)))
  refine WL.rh 2 [] (fun b7 => [(25, slcV A4 x3.length), (26, .slice (some ⟨b7, 0, none⟩) 1 1)]) (fun b7 => []) (fun b7 => [(b7, .cells #[.int .i64 1] 3 (0, 0))]) (fun b7 => ?_)
  refine WL.ice (H' := [(b1, .cells #[.int .u64 a0, .int .u64 a0_1, .int .u32 a0_2, slcV A00 a0_3.length, slcV A01 a0_4.length, .int .i64 a0_5.Room, .int .i64 a0_5.Life, .int .i64 a0_5.Moves, .int .i64 a0_5.Window, .int .u64 a0_6.Mac, .int .u32 a0_6.Ip, .int .i64 a0_6.Room, .int .i64 a0_6.Life, .int .i64 a0_6.Pend, .int .i64 a0_6.Tries, .int .i64 a0_6.Apart, .int .i64 a0_7, slcV A02 a0_8.length, slcV A03 a0_9.length, .int .i64 a0_10, .bool a0_11] 73 (0, 0))]) (Row 1 (pl (encI .i64)) noK (SkL.at b7 1 (fun _ => ())) ([1] : List Int)) 1 (b := b7) (ob := .cells #[.int .i64 1] 3 (0, 0)) (by kernel_rfl) [] [] (by kernel_rfl) (fun w hb hψ => row_of_block hb (fun _ _ => rfl) ⟨[], by kernel_rfl⟩ (Nat.le_of_ble_eq_true rfl) (InK.no _ _)) (by kernel_rfl) ?_
  obtain ⟨u9, h8, hM⟩ := bind_some hM
  refine WL.growApp (G' := []) (A := A4) (B := (SkL.at b7 1 (fun _ => ()))) (xs := x3) (ys := ([1] : List Int)) (m := 1) (by_ := 8) (e := 3) (z := .int .i64 0) (f := (pl (encI .i64))) (K := noK) (d := 27) 0 rfl rfl (by kernel_rfl) (by kernel_rfl) (by kernel_rfl) (by kernel_rfl) (by kernel_rfl) (fun _ _ => rfl) (fun _ _ => rfl) (by kernel_rfl) (by kernel_rfl) (by kernel_rfl) (by kernel_rfl) (by kernel_rfl) (fact_at 1 rfl) (fact_at 0 rfl) h8 (by kernel_rfl) (fun A10 => ?_)
  refine WL.less (Φ' := ([GIn noK A10 (x3 ++ ([1] : List Int)), Row 1 (pl (encI .i64)) noK (SkL.at b7 1 (fun _ => ())) ([1] : List Int), GIn noK A4 x3, GIn noK (SkL.at b2 0 (fun _ => ())) ([] : List Int), Row 3 api_PortCfg.encS api_PortCfg.inK A00 a0_3, Row 1 (pl encB) noK A01 a0_4, Row 3 api_Seg.encS api_Seg.inK A02 a0_8, Row 3 (pl api_Route.enc) noK A03 a0_9] ++ Glob)) (fun _ h => h) ?_
  refine WL.rn 1 [] [(4, slcV A10 (x3 ++ ([1] : List Int)).length)] ?_
  refine WP.done (WP.leave (WP.rn [] [(5, .int .i64 (i64 (x5 + 1))), (23, .int .i64 x5), (24, .int .i64 (i64 (x5 + 1)))] ?_))
  exact WP.again' [1, 2, 3, 4, 5] ((x3 ++ ([1] : List Int)), A10, i64 (x5 + 1)) hM (by kernel_rfl) (fun _ h => ((h.pick [0] (by kernel_rfl)).lessF [0, 3, 4, 5, 6, 7] (by kernel_rfl)).pickG [0] [] 1 rfl (by decide) (by kernel_rfl))
 ·replace hM := cond_f hM c6
  refine WP.exit rfl (WP.seq (WP.region (WL.rn 4 [0, 0, 0, 0, 0] [(30, slcV A00 a0_3.length), (32, api_Keep.v a0_5)] ?_)))
  obtain ⟨r11, h12, hM⟩ := bind_some hM
  refine WL.callX (F0 := [Row 3 api_PortCfg.encS api_PortCfg.inK A00 a0_3]) [] [] [false] (fun _ => _) [2] (by kernel_rfl) (gangwayref17_New_calls k A00 a0_3 a0_5 _ h12) rfl rfl (by kernel_rfl) (by kernel_rfl) (fun _ => rfl) (fun A13 => ?_)
  refine WL.rn 5 [] [(6, .pointer A13), (7, .int .i64 r11)] ?_
  refine WP.done (WP.seq (WP.region (WL.rn 5 [0, 0] [(38, .int .u64 a0), (39, slcV A4 x3.length), (41, slcV A01 a0_4.length)] ?_)))
  refine WL.growIce (G' := []) (m := 1) (e := 3) (f := (pl (encI .i64))) (K := noK) (A := A4) (xs := x3) 0 0 (by kernel_rfl) (by kernel_rfl) (fun _ _ => rfl) (by kernel_rfl) ?_
  obtain ⟨⟨r14, r15⟩, h16, hM⟩ := bind_some hM
  dsimp only at hM
  refine WL.callX (F0 := [Row 1 (pl (encI .i64)) noK A4 x3, Row 1 (pl encB) noK A01 a0_4]) [] [] [false] (fun _ => _) [0, 4] (by kernel_rfl) (gangwayref15_New_calls k A4 A01 a0 x3 a0_4 _ h16) rfl rfl (by kernel_rfl) (by kernel_rfl) (fun _ => rfl) (fun A17 => ?_)
  refine WL.rh 6 [1, 1, 1] (fun b18 => [(8, .pointer (some ⟨b18, 0, none⟩)), (9, .int .i64 r15)]) (fun b18 => []) (fun b18 => [(b18, .cells #[.int .u64 r14.Bridge, slcV A17 r14.Ports.length, .int .i64 r14.Now] 111 (0, 0))]) (fun b18 => ?_)
  refine WP.done (WP.seq (WP.region (WL.rn 5 [0, 0] [(48, .int .i64 a0_5.Room), (50, .int .i64 a0_7)] ?_)))
  obtain ⟨r19, h20, hM⟩ := bind_some hM
  refine WL.callX (F0 := []) [] [] [false, false] (fun _ => _) [] (by kernel_rfl) (gangwayref12_New_calls a0_5.Room a0_7 _ h20) rfl rfl (by kernel_rfl) (by kernel_rfl) (fun _ => rfl) (fun A21 => ?_)
  refine WL.rn 5 [] [(10, .pointer A21), (11, .int .i64 r19)] ?_
  refine WP.done (WP.seq (WP.region (WL.rn 2 [0, 0, 0, 0, 0, 0, 0] [(56, api_Near.v a0_6)] ?_)))
  obtain ⟨r22, h23, hM⟩ := bind_some hM
  refine WL.callX (F0 := []) [] [] [false, false] (fun _ => _) [] (by kernel_rfl) (gangwayref19_New_calls a0_6 _ h23) rfl rfl (by kernel_rfl) (by kernel_rfl) (fun _ => rfl) (fun A24 => ?_)
  refine WL.rn 5 [] [(12, .pointer A24), (13, .int .i64 r22)] ?_
  refine WP.done (WP.seq (WP.region (WL.rn 2 [0] [(62, slcV A03 a0_9.length)] ?_)))
  obtain ⟨r25, h26, hM⟩ := bind_some hM
  refine WL.callX (F0 := [Row 3 (pl api_Route.enc) noK A03 a0_9]) [] [] [false, false] (fun _ => _) [7] (by kernel_rfl) (gangwayref24_ways_calls k A03 a0_9 _ h26) rfl rfl (by kernel_rfl) (by kernel_rfl) (fun _ => rfl) (fun A27 => ?_)
  refine WL.rn 5 [] [(14, .pointer A27), (15, .bool r25)] ?_
  refine WP.done (WP.seq (WP.region (WL.rn 3 [] [(68, .bool (r11 == 0))] ?_)))
  refine WL.bo 68 (r11 == 0) 3 [] [] (fun b' => [(71, .bool (b' && (r15 == 0)))]) ?_
  refine WL.rn 1 [] [(72, .bool ((r11 == 0) && (r15 == 0)))] ?_
  refine WL.bo 72 ((r11 == 0) && (r15 == 0)) 3 [] [] (fun b' => [(75, .bool (b' && (r19 == 0)))]) ?_
  refine WL.rn 1 [] [(76, .bool (((r11 == 0) && (r15 == 0)) && (r19 == 0)))] ?_
  refine WL.bo 76 (((r11 == 0) && (r15 == 0)) && (r19 == 0)) 3 [] [] (fun b' => [(79, .bool (b' && (r22 == 0)))]) ?_
  refine WL.rn 1 [] [(80, .bool ((((r11 == 0) && (r15 == 0)) && (r19 == 0)) && (r22 == 0)))] ?_
  refine WL.bo 80 ((((r11 == 0) && (r15 == 0)) && (r19 == 0)) && (r22 == 0)) 2 [] [] (fun b' => [(82, .bool (b' && r25))]) ?_
  refine WL.rn 1 [] [(83, .bool (((((r11 == 0) && (r15 == 0)) && (r19 == 0)) && (r22 == 0)) && r25))] ?_
  refine WL.join (σ := Bool) 7 (fun st => gangwayref24_New.k2 a0_6 a0_1 a0_2 a0 a0_10 st = some r) (fun st => [(1, .pointer (some ⟨b1, 0, none⟩)), (2, .pointer none), (3, .int .i64 0), (6, .pointer A13), (8, .pointer (some ⟨b18, 0, none⟩)), (10, .pointer A21), (12, .pointer A24), (14, .pointer A27), (90, .bool st)]) (fun st => Sat w Z [(b1, .cells #[.int .u64 a0, .int .u64 a0_1, .int .u32 a0_2, slcV A00 a0_3.length, slcV A01 a0_4.length, .int .i64 a0_5.Room, .int .i64 a0_5.Life, .int .i64 a0_5.Moves, .int .i64 a0_5.Window, .int .u64 a0_6.Mac, .int .u32 a0_6.Ip, .int .i64 a0_6.Room, .int .i64 a0_6.Life, .int .i64 a0_6.Pend, .int .i64 a0_6.Tries, .int .i64 a0_6.Apart, .int .i64 a0_7, slcV A02 a0_8.length, slcV A03 a0_9.length, .int .i64 a0_10, .bool a0_11] 73 (0, 0)), (b18, .cells #[.int .u64 r14.Bridge, slcV A17 r14.Ports.length, .int .i64 r14.Now] 111 (0, 0))] [] ([Row 15 (pl api_SpanPort.enc) noK A17 r14.Ports, Row 1 (pl (encI .i64)) noK A4 x3, GIn noK A4 x3, GIn noK (SkL.at b2 0 (fun _ => ())) ([] : List Int), Row 3 api_PortCfg.encS api_PortCfg.inK A00 a0_3, Row 1 (pl encB) noK A01 a0_4, Row 3 api_Seg.encS api_Seg.inK A02 a0_8, Row 3 (pl api_Route.enc) noK A03 a0_9] ++ Glob)) (fun st hM => ?_) (fun K2 => ?_)
  ·
   obtain ⟨x31, rfl⟩ : ∃ y, y = st := ⟨st, rfl⟩
   replace hM : gangwayref24_New.k2 a0_6 a0_1 a0_2 a0 a0_10 x31 = some r := hM
   unfold gangwayref24_New.k2 at hM
   try dsimp only
   refine WL.rn 1 [] [(16, .bool x31)] ?_
   refine WP.done (WP.seq (WP.seq (WP.region (WL.rn 3 [] [(93, .bool (!x31))] ?_))))
   refine WL.bo 93 (!x31) 7 [] [0, 0] (fun b' => [(100, .bool (b' || (a0_6.Mac != a0_1)))]) ?_
   refine WL.rn 1 [] [(101, .bool ((!x31) || (a0_6.Mac != a0_1)))] ?_
   refine WL.bo 101 ((!x31) || (a0_6.Mac != a0_1)) 7 [] [0, 0] (fun b' => [(108, .bool (b' || (a0_6.Ip != a0_2)))]) ?_
   refine WL.rn 1 [] [(109, .bool (((!x31) || (a0_6.Mac != a0_1)) || (a0_6.Ip != a0_2)))] ?_
   refine WL.bo 109 (((!x31) || (a0_6.Mac != a0_1)) || (a0_6.Ip != a0_2)) 4 [] [0] (fun b' => [(113, .bool (b' || (a0 == 0)))]) ?_
   refine WL.rn 1 [] [(114, .bool ((((!x31) || (a0_6.Mac != a0_1)) || (a0_6.Ip != a0_2)) || (a0 == 0)))] ?_
   refine WL.bo 114 ((((!x31) || (a0_6.Mac != a0_1)) || (a0_6.Ip != a0_2)) || (a0 == 0)) 4 [] [0] (fun b' => [(118, .bool (b' || (decide (a0_10 < 68))))]) ?_
   refine WL.rn 1 [] [(119, .bool (((((!x31) || (a0_6.Mac != a0_1)) || (a0_6.Ip != a0_2)) || (a0 == 0)) || (decide (a0_10 < 68))))] ?_
   refine WL.bo 119 (((((!x31) || (a0_6.Mac != a0_1)) || (a0_6.Ip != a0_2)) || (a0 == 0)) || (decide (a0_10 < 68))) 4 [] [0] (fun b' => [(123, .bool (b' || (decide (a0_10 > 65535))))]) ?_
   refine WP.done ?_
   refine WP.cond ((((((!x31) || (a0_6.Mac != a0_1)) || (a0_6.Ip != a0_2)) || (a0 == 0)) || (decide (a0_10 < 68))) || (decide (a0_10 > 65535))) rfl rfl (fun c32 => ?_) (fun c32 => ?_)
   ·replace hM := cond_t hM c32
    refine WP.seq (WP.rn [] [(2, .pointer none), (3, .int .i64 240)] ?_)
    obtain rfl := Option.some.inj hM
    exact WP.ret [] [] (.tuple #[.pointer none, .int .i64 240]) (by kernel_rfl) (fun w' hw => ⟨(none : Option Addr), rfl, (hw.pick [] (by kernel_rfl)).less (sub_ret [] [4, 5, 6, 7] (by kernel_rfl) (by kernel_rfl))⟩)
   ·replace hM := cond_f hM c32
    refine WP.skip (WP.seq ?_)
    obtain ⟨t33, h34, hM⟩ := bind_some hM
    refine WP.rs [1, 2, 3, 6, 8, 10, 12, 14] ?_
    refine WP.graphF (X := ((SkL Unit) × Nat)) 11 3 [⟨0, 11, fun _ => [(b1, .cells #[.int .u64 a0, .int .u64 a0_1, .int .u32 a0_2, slcV A00 a0_3.length, slcV A01 a0_4.length, .int .i64 a0_5.Room, .int .i64 a0_5.Life, .int .i64 a0_5.Moves, .int .i64 a0_5.Window, .int .u64 a0_6.Mac, .int .u32 a0_6.Ip, .int .i64 a0_6.Room, .int .i64 a0_6.Life, .int .i64 a0_6.Pend, .int .i64 a0_6.Tries, .int .i64 a0_6.Apart, .int .i64 a0_7, slcV A02 a0_8.length, slcV A03 a0_9.length, .int .i64 a0_10, .bool a0_11] 73 (0, 0))], fun _ => []⟩, ⟨0, 11, fun _ => [(b18, .cells #[.int .u64 r14.Bridge, slcV A17 r14.Ports.length, .int .i64 r14.Now] 111 (0, 0))], fun _ => []⟩, ⟨9, 11, fun ξ => [((ξ 8).2, .cells #[.int .u64 a0, .int .u64 a0_1, .int .u32 a0_2, slcV A00 a0_3.length, slcV A01 a0_4.length, .int .i64 a0_5.Room, .int .i64 a0_5.Life, .int .i64 a0_5.Moves, .int .i64 a0_5.Window, .int .u64 a0_6.Mac, .int .u32 a0_6.Ip, .int .i64 a0_6.Room, .int .i64 a0_6.Life, .int .i64 a0_6.Pend, .int .i64 a0_6.Tries, .int .i64 a0_6.Apart, .int .i64 a0_7, slcV A02 a0_8.length, slcV A03 a0_9.length, .int .i64 a0_10, .bool a0_11, .pointer A13, .int .u64 r14.Bridge, slcV A17 r14.Ports.length, .int .i64 r14.Now, .pointer A21, .pointer A24, .pointer A27, slcV (ξ 6).1 (List.replicate t33 0 : List Int).length, .slice none 0 0] 146 (0, 0))], fun ξ => []⟩] [⟨[], [0], [0], [], [], fun _ => .agg #[.int .u64 a0, .int .u64 a0_1, .int .u32 a0_2, slcV A00 a0_3.length, slcV A01 a0_4.length, .int .i64 a0_5.Room, .int .i64 a0_5.Life, .int .i64 a0_5.Moves, .int .i64 a0_5.Window, .int .u64 a0_6.Mac, .int .u32 a0_6.Ip, .int .i64 a0_6.Room, .int .i64 a0_6.Life, .int .i64 a0_6.Pend, .int .i64 a0_6.Tries, .int .i64 a0_6.Apart, .int .i64 a0_7, slcV A02 a0_8.length, slcV A03 a0_9.length, .int .i64 a0_10, .bool a0_11], fun _ => []⟩, ⟨[], [], [], [], [], fun _ => .pointer A13, fun _ => []⟩, ⟨[], [1], [1], [], [], fun _ => .agg #[.int .u64 r14.Bridge, slcV A17 r14.Ports.length, .int .i64 r14.Now], fun _ => []⟩, ⟨[], [], [], [], [], fun _ => .pointer A21, fun _ => []⟩, ⟨[], [], [], [], [], fun _ => .pointer A24, fun _ => []⟩, ⟨[], [], [], [], [], fun _ => .pointer A27, fun _ => []⟩, ⟨[], [], [], [], [], fun ξ => slcV (ξ 6).1 (List.replicate t33 0 : List Int).length, fun ξ => [Row 1 (pl (encI .i64)) noK (ξ 6).1 (List.replicate t33 0 : List Int)]⟩, ⟨[0, 1, 2, 3, 4, 5, 6], [], [], [6], [], fun ξ => .agg #[.int .u64 a0, .int .u64 a0_1, .int .u32 a0_2, slcV A00 a0_3.length, slcV A01 a0_4.length, .int .i64 a0_5.Room, .int .i64 a0_5.Life, .int .i64 a0_5.Moves, .int .i64 a0_5.Window, .int .u64 a0_6.Mac, .int .u32 a0_6.Ip, .int .i64 a0_6.Room, .int .i64 a0_6.Life, .int .i64 a0_6.Pend, .int .i64 a0_6.Tries, .int .i64 a0_6.Apart, .int .i64 a0_7, slcV A02 a0_8.length, slcV A03 a0_9.length, .int .i64 a0_10, .bool a0_11, .pointer A13, .int .u64 r14.Bridge, slcV A17 r14.Ports.length, .int .i64 r14.Now, .pointer A21, .pointer A24, .pointer A27, slcV (ξ 6).1 (List.replicate t33 0 : List Int).length, .slice none 0 0], fun ξ => []⟩, ⟨[0, 1, 2, 3, 4, 5, 6, 7], [], [2], [6], [], fun ξ => .pointer (some ⟨(ξ 8).2, 0, none⟩), fun ξ => []⟩, ⟨[0, 1, 2, 3, 4, 5, 6, 7, 8], [], [], [8], [], fun ξ => .pointer (some ⟨(ξ 8).2, 0, none⟩), fun ξ => []⟩, ⟨[0, 1, 2, 3, 4, 5, 6, 7, 8, 9], [], [], [], [2], fun _ => .int .i64 0, fun _ => []⟩] (fun ξ => [(2, .pointer (some ⟨(ξ 8).2, 0, none⟩)), (3, .int .i64 0)]) (fun ξ => [(b1, .cells #[.int .u64 a0, .int .u64 a0_1, .int .u32 a0_2, slcV A00 a0_3.length, slcV A01 a0_4.length, .int .i64 a0_5.Room, .int .i64 a0_5.Life, .int .i64 a0_5.Moves, .int .i64 a0_5.Window, .int .u64 a0_6.Mac, .int .u32 a0_6.Ip, .int .i64 a0_6.Room, .int .i64 a0_6.Life, .int .i64 a0_6.Pend, .int .i64 a0_6.Tries, .int .i64 a0_6.Apart, .int .i64 a0_7, slcV A02 a0_8.length, slcV A03 a0_9.length, .int .i64 a0_10, .bool a0_11] 73 (0, 0)), (b18, .cells #[.int .u64 r14.Bridge, slcV A17 r14.Ports.length, .int .i64 r14.Now] 111 (0, 0)), ((ξ 8).2, .cells #[.int .u64 a0, .int .u64 a0_1, .int .u32 a0_2, slcV A00 a0_3.length, slcV A01 a0_4.length, .int .i64 a0_5.Room, .int .i64 a0_5.Life, .int .i64 a0_5.Moves, .int .i64 a0_5.Window, .int .u64 a0_6.Mac, .int .u32 a0_6.Ip, .int .i64 a0_6.Room, .int .i64 a0_6.Life, .int .i64 a0_6.Pend, .int .i64 a0_6.Tries, .int .i64 a0_6.Apart, .int .i64 a0_7, slcV A02 a0_8.length, slcV A03 a0_9.length, .int .i64 a0_10, .bool a0_11, .pointer A13, .int .u64 r14.Bridge, slcV A17 r14.Ports.length, .int .i64 r14.Now, .pointer A21, .pointer A24, .pointer A27, slcV (ξ 6).1 (List.replicate t33 0 : List Int).length, .slice none 0 0] 146 (0, 0))]) (fun ξ => []) (fun ξ => [Row 1 (pl (encI .i64)) noK (ξ 6).1 (List.replicate t33 0 : List Int)]) (AllN.cons ?_ (AllN.cons ?_ (AllN.cons ?_ (AllN.cons ?_ (AllN.cons ?_ (AllN.cons ?_ (AllN.cons ?_ (AllN.cons ?_ (AllN.cons ?_ (AllN.cons ?_ (AllN.cons ?_ AllN.nil))))))))))) (AllN.cons (VAgr.c rfl) (AllN.cons (VAgr.c rfl) (AllN.cons (VAgr.c rfl) (AllN.cons (VAgr.c rfl) (AllN.cons (VAgr.c rfl) (AllN.cons (VAgr.c rfl) (AllN.cons (fun t ht ξ ξ' h => by cases ht; have e6 : ξ 6 = ξ' 6 := h 6 (memN_iff.1 rfl); exact ⟨by first | rfl | simp only [e6], by first | rfl | simp only [e6]⟩) (AllN.cons (fun t ht ξ ξ' h => by cases ht; have e6 : ξ 6 = ξ' 6 := h 6 (memN_iff.1 rfl); exact ⟨by first | rfl | simp only [e6], by first | rfl | simp only [e6]⟩) (AllN.cons (fun t ht ξ ξ' h => by cases ht; have e8 : ξ 8 = ξ' 8 := h 8 (memN_iff.1 rfl); exact ⟨by first | rfl | simp only [e8], by first | rfl | simp only [e8]⟩) (AllN.cons (fun t ht ξ ξ' h => by cases ht; have e8 : ξ 8 = ξ' 8 := h 8 (memN_iff.1 rfl); exact ⟨by first | rfl | simp only [e8], by first | rfl | simp only [e8]⟩) (AllN.cons (VAgr.c rfl) AllN.nil))))))))))) (AllN.cons (RAgr.c rfl) (AllN.cons (RAgr.c rfl) (AllN.cons (fun r hr ξ ξ' h => by cases hr; have e6 : ξ 6 = ξ' 6 := h 6 (memN_iff.1 rfl); have e8 : ξ 8 = ξ' 8 := h 8 (memN_iff.1 rfl); exact ⟨by first | rfl | simp only [e6, e8], by first | rfl | simp only [e6, e8]⟩) AllN.nil))) (fun ξ => ?_)
    ·
     intro o t ho ht ξ Gr Γr Lr Q hk
     cases ho; cases ht
     refine WL.rn 1 [0, 0, 0, 0, 0, 0, 0, 0, 0, 0, 0, 0, 0, 0, 0, 0, 0, 0, 0, 0, 0] [(124, .agg #[.int .u64 a0, .int .u64 a0_1, .int .u32 a0_2, slcV A00 a0_3.length, slcV A01 a0_4.length, .int .i64 a0_5.Room, .int .i64 a0_5.Life, .int .i64 a0_5.Moves, .int .i64 a0_5.Window, .int .u64 a0_6.Mac, .int .u32 a0_6.Ip, .int .i64 a0_6.Room, .int .i64 a0_6.Life, .int .i64 a0_6.Pend, .int .i64 a0_6.Tries, .int .i64 a0_6.Apart, .int .i64 a0_7, slcV A02 a0_8.length, slcV A03 a0_9.length, .int .i64 a0_10, .bool a0_11])] ?_
     exact WL.fin (hk default)
    ·
     intro o t ho ht ξ Gr Γr Lr Q hk
     cases ho; cases ht
     refine WL.rn 1 [] [(125, .pointer A13)] ?_
     exact WL.fin (hk default)
    ·
     intro o t ho ht ξ Gr Γr Lr Q hk
     cases ho; cases ht
     refine WL.rn 1 [0, 0, 0] [(126, .agg #[.int .u64 r14.Bridge, slcV A17 r14.Ports.length, .int .i64 r14.Now])] ?_
     exact WL.fin (hk default)
    ·
     intro o t ho ht ξ Gr Γr Lr Q hk
     cases ho; cases ht
     refine WL.rn 1 [] [(127, .pointer A21)] ?_
     exact WL.fin (hk default)
    ·
     intro o t ho ht ξ Gr Γr Lr Q hk
     cases ho; cases ht
     refine WL.rn 1 [] [(128, .pointer A24)] ?_
     exact WL.fin (hk default)
    ·
     intro o t ho ht ξ Gr Γr Lr Q hk
     cases ho; cases ht
     refine WL.rn 1 [] [(129, .pointer A27)] ?_
     exact WL.fin (hk default)
    ·
     intro o t ho ht ξ Gr Γr Lr Q hk
     cases ho; cases ht
     refine WL.ofRun (V := fun x : SkL Unit => slcV x (List.replicate t33 0 : List Int).length) (R := fun x => [Row 1 (pl (encI .i64)) noK x (List.replicate t33 0 : List Int)]) (L' := fun x => (130, slcV x (List.replicate t33 0 : List Int).length) :: _) (by kernel_rfl) (newZeros (f := (encI .i64)) (z := 0) (zv := .int .i64 0) (i := 13) (k := .i64) (n := t33) (e := 3) (m := 1) rfl (by kernel_rfl) (by kernel_rfl) rfl rfl (by decide) (fun _ => rfl) (by kernel_rfl) h34) (by kernel_rfl) (fun _ => rfl) (fun A35 => ?_)
     refine WL.less (Φ' := (([Row 1 (pl (encI .i64)) noK A35 (List.replicate t33 0 : List Int), Row 15 (pl api_SpanPort.enc) noK A17 r14.Ports, Row 1 (pl (encI .i64)) noK A4 x3, GIn noK A4 x3, GIn noK (SkL.at b2 0 (fun _ => ())) ([] : List Int), Row 3 api_PortCfg.encS api_PortCfg.inK A00 a0_3, Row 1 (pl encB) noK A01 a0_4, Row 3 api_Seg.encS api_Seg.inK A02 a0_8, Row 3 (pl api_Route.enc) noK A03 a0_9] ++ Γr) ++ Glob)) (fun _ h => h) ?_
     exact WL.fin (hk (A35, default))
    ·
     intro o t ho ht ξ Gr Γr Lr Q hk
     cases ho; cases ht
     refine WL.rn 1 [] [(131, .agg #[.int .u64 a0, .int .u64 a0_1, .int .u32 a0_2, slcV A00 a0_3.length, slcV A01 a0_4.length, .int .i64 a0_5.Room, .int .i64 a0_5.Life, .int .i64 a0_5.Moves, .int .i64 a0_5.Window, .int .u64 a0_6.Mac, .int .u32 a0_6.Ip, .int .i64 a0_6.Room, .int .i64 a0_6.Life, .int .i64 a0_6.Pend, .int .i64 a0_6.Tries, .int .i64 a0_6.Apart, .int .i64 a0_7, slcV A02 a0_8.length, slcV A03 a0_9.length, .int .i64 a0_10, .bool a0_11, .pointer A13, .int .u64 r14.Bridge, slcV A17 r14.Ports.length, .int .i64 r14.Now, .pointer A21, .pointer A24, .pointer A27, slcV (ξ 6).1 (List.replicate t33 0 : List Int).length, .slice none 0 0])] ?_
     exact WL.fin (hk default)
    ·
     intro o t ho ht ξ Gr Γr Lr Q hk
     cases ho; cases ht
     refine WL.rh 1 [] (fun b36 => [(132, .pointer (some ⟨b36, 0, none⟩))]) (fun b36 => []) (fun b36 => [(b36, .cells #[.int .u64 a0, .int .u64 a0_1, .int .u32 a0_2, slcV A00 a0_3.length, slcV A01 a0_4.length, .int .i64 a0_5.Room, .int .i64 a0_5.Life, .int .i64 a0_5.Moves, .int .i64 a0_5.Window, .int .u64 a0_6.Mac, .int .u32 a0_6.Ip, .int .i64 a0_6.Room, .int .i64 a0_6.Life, .int .i64 a0_6.Pend, .int .i64 a0_6.Tries, .int .i64 a0_6.Apart, .int .i64 a0_7, slcV A02 a0_8.length, slcV A03 a0_9.length, .int .i64 a0_10, .bool a0_11, .pointer A13, .int .u64 r14.Bridge, slcV A17 r14.Ports.length, .int .i64 r14.Now, .pointer A21, .pointer A24, .pointer A27, slcV (ξ 6).1 (List.replicate t33 0 : List Int).length, .slice none 0 0] 146 (0, 0))]) (fun b36 => ?_)
     exact WL.fin (hk (default, b36))
    ·
     intro o t ho ht ξ Gr Γr Lr Q hk
     cases ho; cases ht
     refine WL.rn 1 [] [(2, .pointer (some ⟨(ξ 8).2, 0, none⟩))] ?_
     exact WL.fin (hk default)
    ·
     intro o t ho ht ξ Gr Γr Lr Q hk
     cases ho; cases ht
     refine WL.rn 1 [] [(3, .int .i64 0)] ?_
     exact WL.fin (hk default)
    generalize (ξ 6).1 = A35
    generalize (ξ 8).2 = b36
    refine WP.less (Φ' := ([Row 1 (pl (encI .i64)) noK A35 (List.replicate t33 0 : List Int), Row 15 (pl api_SpanPort.enc) noK A17 r14.Ports, Row 1 (pl (encI .i64)) noK A4 x3, GIn noK A4 x3, GIn noK (SkL.at b2 0 (fun _ => ())) ([] : List Int), Row 3 api_PortCfg.encS api_PortCfg.inK A00 a0_3, Row 1 (pl encB) noK A01 a0_4, Row 3 api_Seg.encS api_Seg.inK A02 a0_8, Row 3 (pl api_Route.enc) noK A03 a0_9] ++ Glob)) (fun _ h => h) ?_
    refine WP.kp [false, false, true] ?_
    obtain rfl := Option.some.inj hM
    exact WP.ret [] [] (.tuple #[.pointer (some ⟨b36, 0, none⟩), .int .i64 0]) (by kernel_rfl) (fun w' hw => ⟨(some ⟨b36, 0, none⟩), rfl, (hw.pick [] (by kernel_rfl)).less (sub_ret [] [5, 6, 7, 8] (by kernel_rfl) (by kernel_rfl))⟩)
  ·
   refine WL.sp 83 (((((r11 == 0) && (r15 == 0)) && (r19 == 0)) && (r22 == 0)) && r25) (fun c28 => ?_) (fun c28 => ?_)
   ·replace hM := cond_t hM c28
    refine WL.rn 4 [0, 0] [(85, .int .u32 a0_2), (87, slcV A02 a0_8.length)] ?_
    obtain ⟨r29, h30, hM⟩ := bind_some hM
    refine WL.callP [] [] (gangwayref21_Check_calls k A02 a0_2 a0_8 _ h30) (sub_pick [6] (by kernel_rfl)) (by kernel_rfl) (by kernel_rfl) rfl ?_
    refine WL.rn 2 [] [(90, .bool (r29 == 0))] ?_
    exact WL.sub [1, 2, 3, 6, 8, 10, 12, 14, 90] (by kernel_rfl) (WL.pick [0, 1] (by kernel_rfl) (by kernel_rfl) (WL.lessF [0, 1, 2, 3, 4, 5, 6, 7] (by kernel_rfl) (K2 (r29 == 0) hM)))
   ·replace hM := cond_f hM c28
    refine WL.rn 7 [] [(90, .bool false)] ?_
    exact WL.sub [1, 2, 3, 6, 8, 10, 12, 14, 90] (by kernel_rfl) (WL.pick [0, 1] (by kernel_rfl) (by kernel_rfl) (WL.lessF [0, 1, 2, 3, 4, 5, 6, 7] (by kernel_rfl) (K2 false hM)))
def gangwayref26_Check.k2 (x14 : Int) (x15 : Int) (rec_l4 : Int → Int → Option (Int)) (x33 : Bool) (x34 : Bool) : Option (Int) :=
 bif x34 then
  some 270
 else
  rec_l4 x14 (i64 (x15 + 1))
def gangwayref26_Check.k3 (x14 : Int) (x15 : Int) (a0 : (List api_Gate)) (x12 : Int) (rec_l4 : Int → Int → Option (Int)) (x26 : Bool) (x27 : Bool) : Option (Int) :=
 bif x27 then
  gangwayref26_Check.k2 x14 x15 rec_l4 true true
 else
  (getL a0.length a0 x12).bind fun t29 =>
  (getL a0.length a0 x15).bind fun t31 =>
  gangwayref26_Check.k2 x14 x15 rec_l4 false (t29.Bridge == t31.Bridge)
def gangwayref26_Check.l4 (x12 : Int) (a0 : (List api_Gate)) (rec_l5 : Int → Int → Option (Int)) : Nat → Int → Int → Option (Int)
 | 0, _, _ => none
 | n1 + 1, x14, x15 =>
  bif decide (x15 < x12) then
   (getL a0.length a0 x12).bind fun t17 =>
   (getL a0.length a0 x15).bind fun t19 =>
   bif (t17.Ip == t19.Ip) then
    gangwayref26_Check.k3 x14 x15 a0 x12 (gangwayref26_Check.l4 x12 a0 rec_l5 n1) true true
   else
    (getL a0.length a0 x12).bind fun t22 =>
    (getL a0.length a0 x15).bind fun t24 =>
    gangwayref26_Check.k3 x14 x15 a0 x12 (gangwayref26_Check.l4 x12 a0 rec_l5 n1) false (t22.Mac == t24.Mac)
  else
   rec_l5 x14 (i64 (x12 + 1))
def gangwayref26_Check.l5 (a0 : (List api_Gate)) (k : Nat) : Nat → Int → Int → Option (Int)
 | 0, _, _ => none
 | n + 1, x11, x12 =>
  bif decide (x12 < (a0.length : Int)) then
   gangwayref26_Check.l4 x12 a0 (gangwayref26_Check.l5 a0 k n) k x11 0
  else
   some 0
def gangwayref26_Check.l1 (a0 : (List api_Gate)) (k : Nat) : Nat → Int → Int → Option (Int)
 | 0, _, _ => none
 | n + 1, x2, x3 =>
  bif decide (x3 < (a0.length : Int)) then
   (getL a0.length a0 x3).bind fun t5 =>
   (gangwayref24_New.f k t5.Bridge t5.Mac t5.Ip t5.Ports t5.Edges t5.Keep t5.Near t5.Heard t5.Segs t5.Routes t5.Most t5.Answers).bind fun r7 =>
   bif (r7 != 0) then
    some r7
   else
    gangwayref26_Check.l1 a0 k n x2 (i64 (x3 + 1))
  else
   gangwayref26_Check.l5 a0 k k x2 0
def gangwayref26_Check.f (k : Nat) (a0 : (List api_Gate)) : Option (Int) :=
 bif decide ((a0.length : Int) > 16) then
  some 2
 else
  gangwayref26_Check.l1 a0 k k 0 0
theorem gangwayref26_Check_calls (k : Nat) (A00 : SkL ((SkL (SkL Unit)) × (SkL Unit) × (SkL (SkL Unit)) × (SkL Unit))) (a0 : (List api_Gate)) (r : Int) (h : gangwayref26_Check.f k a0 = some r) : Pure Tryz.prog ([Row 21 api_Gate.encS api_Gate.inK A00 a0] ++ Glob) 13 #[slcV A00 a0.length] (.int .i64 r) := by
 intro w Z hS
 refine callsS (args := [slcV A00 a0.length]) (L := [(0, slcV A00 a0.length)]) (N := 76) Tryz.func13 hS ?_
 have hM := h
 clear h hS
 unfold gangwayref26_Check.f at hM
 refine WP.seq (WP.rn [] [(2, .int .i64 0)] ?_)
 refine WP.seq (WP.seq (WP.rn [] [(10, .bool (decide ((a0.length : Int) > 16)))] ?_))
 refine WP.cond (decide ((a0.length : Int) > 16)) rfl rfl (fun c1 => ?_) (fun c1 => ?_)
 ·replace hM := cond_t hM c1
  refine WP.seq (WP.rn [] [(2, .int .i64 2)] ?_)
  obtain rfl := Option.some.inj hM
  exact WP.retF [] [] [0]
 ·replace hM := cond_f hM c1
  refine WP.skip (WP.seq (WP.seq (WP.rn [] [(3, .int .i64 0)] ?_)))
  refine WP.block (WP.sub [0, 2, 3] (L' := [(0, slcV A00 a0.length), (2, .int .i64 0), (3, .int .i64 0)]) (by kernel_rfl) ?_)
  refine WP.lessF [0] (F' := [Row 21 api_Gate.encS api_Gate.inK A00 a0]) (by kernel_rfl) ?_
  refine WP.loop (σ := Int × Int) (fun n st => gangwayref26_Check.l1 a0 k n st.1 st.2) r (fun st => [(0, slcV A00 a0.length), (2, .int .i64 st.1), (3, .int .i64 st.2)]) (fun st => Sat w Z [] [] ([Row 21 api_Gate.encS api_Gate.inK A00 a0] ++ Glob)) (st := (0, 0)) (fun n st hM => ?_) hM
  rcases n with _ | n
  ·exact nomatch (show (none : Option _) = some r from hM)
  obtain ⟨x2, x3⟩ := st
  replace hM : gangwayref26_Check.l1 a0 k (n + 1) x2 x3 = some r := hM
  rw [gangwayref26_Check.l1] at hM
  try dsimp only
  refine WP.seq (WP.seq (WP.rn [] [(11, .int .i64 x3), (12, slcV A00 a0.length), (13, .int .i64 (a0.length : Int)), (14, .bool (decide (x3 < (a0.length : Int))))] ?_))
  refine WP.cond (decide (x3 < (a0.length : Int))) rfl rfl (fun c4 => ?_) (fun c4 => ?_)
  ·replace hM := cond_t hM c4
   refine WP.skip (WP.seq (WP.block (WP.seq (WP.region (WL.rn 2 [] [(18, slcV A00 a0.length), (19, .int .i64 x3)] ?_)))))
   obtain ⟨t5, h6, hM⟩ := bind_some hM
   refine WL.valF (φ := Row 21 api_Gate.encS api_Gate.inK A00 a0) (fact_at 0 rfl) (fun w hR => run_indexRowF (A := A00) (xs := a0) (i := x3) (k := .i64) (e := 73) (m := 21) (by kernel_rfl) (by kernel_rfl) h6 (by kernel_rfl) (by kernel_rfl) hR) (by kernel_rfl) (by kernel_rfl) rfl ?_
   refine WL.valF (φ := Row 21 api_Gate.encS api_Gate.inK A00 a0) (fact_at 0 rfl) (fun w hR => run_loadRowFA (A := A00) (xs := a0) (i := x3) (j := 0) (n := 21) (vs := [.int .u64 t5.Bridge, .int .u64 t5.Mac, .int .u32 t5.Ip, slcV ((A00.s (Int.toNat x3)).1) t5.Ports.length, slcV ((A00.s (Int.toNat x3)).2.1) t5.Edges.length, .int .i64 t5.Keep.Room, .int .i64 t5.Keep.Life, .int .i64 t5.Keep.Moves, .int .i64 t5.Keep.Window, .int .u64 t5.Near.Mac, .int .u32 t5.Near.Ip, .int .i64 t5.Near.Room, .int .i64 t5.Near.Life, .int .i64 t5.Near.Pend, .int .i64 t5.Near.Tries, .int .i64 t5.Near.Apart, .int .i64 t5.Heard, slcV ((A00.s (Int.toNat x3)).2.2.1) t5.Segs.length, slcV ((A00.s (Int.toNat x3)).2.2.2) t5.Routes.length, .int .i64 t5.Most, .bool t5.Answers]) h6 (fun _ => by kernel_rfl) (by kernel_rfl) (by kernel_rfl) (by kernel_rfl) rfl hR) (by kernel_rfl) (by kernel_rfl) rfl ?_
   refine WL.know (Row 3 api_PortCfg.encS api_PortCfg.inK ((A00.s (Int.toNat x3)).1) t5.Ports) [0] [Row 21 api_Gate.encS api_Gate.inK A00 a0] (by kernel_rfl) (fun w hψ => ((hψ _ (List.mem_singleton.2 rfl)).inner _ _ (getL_parts h6).2).1) ?_
   refine WL.know (Row 1 (pl encB) noK ((A00.s (Int.toNat x3)).2.1) t5.Edges) [1] [Row 21 api_Gate.encS api_Gate.inK A00 a0] (by kernel_rfl) (fun w hψ => ((hψ _ (List.mem_singleton.2 rfl)).inner _ _ (getL_parts h6).2).2.1) ?_
   refine WL.know (Row 3 api_Seg.encS api_Seg.inK ((A00.s (Int.toNat x3)).2.2.1) t5.Segs) [2] [Row 21 api_Gate.encS api_Gate.inK A00 a0] (by kernel_rfl) (fun w hψ => ((hψ _ (List.mem_singleton.2 rfl)).inner _ _ (getL_parts h6).2).2.2.1) ?_
   refine WL.know (Row 3 (pl api_Route.enc) noK ((A00.s (Int.toNat x3)).2.2.2) t5.Routes) [3] [Row 21 api_Gate.encS api_Gate.inK A00 a0] (by kernel_rfl) (fun w hψ => ((hψ _ (List.mem_singleton.2 rfl)).inner _ _ (getL_parts h6).2).2.2.2) ?_
   obtain ⟨r7, h8, hM⟩ := bind_some hM
   refine WL.callX (F0 := [Row 3 api_PortCfg.encS api_PortCfg.inK ((A00.s (Int.toNat x3)).1) t5.Ports, Row 1 (pl encB) noK ((A00.s (Int.toNat x3)).2.1) t5.Edges, Row 3 api_Seg.encS api_Seg.inK ((A00.s (Int.toNat x3)).2.2.1) t5.Segs, Row 3 (pl api_Route.enc) noK ((A00.s (Int.toNat x3)).2.2.2) t5.Routes]) [] [] [] (fun _ => _) [3, 2, 1, 0] (by kernel_rfl) (gangwayref24_New_calls k ((A00.s (Int.toNat x3)).1) ((A00.s (Int.toNat x3)).2.1) ((A00.s (Int.toNat x3)).2.2.1) ((A00.s (Int.toNat x3)).2.2.2) t5.Bridge t5.Mac t5.Ip t5.Ports t5.Edges t5.Keep t5.Near t5.Heard t5.Segs t5.Routes t5.Most t5.Answers _ h8) rfl rfl (by kernel_rfl) (by kernel_rfl) (fun _ => rfl) (fun A9 => ?_)
   refine WL.rn 5 [] [(5, .int .i64 r7), (17, .tuple #[.pointer A9, .int .i64 r7]), (23, .pointer A9), (24, .int .i64 r7)] ?_
   refine WP.done (WP.seq (WP.rn [] [(25, .int .i64 r7), (26, .bool (r7 != 0))] ?_))
   refine WP.cond (r7 != 0) rfl rfl (fun c10 => ?_) (fun c10 => ?_)
   ·replace hM := cond_t hM c10
    refine WP.seq (WP.rn [] [(2, .int .i64 r7), (27, .int .i64 r7)] ?_)
    obtain rfl := Option.some.inj hM
    exact WP.retF [] [] [4]
   ·replace hM := cond_f hM c10
    refine WP.skip (WP.leave (WP.rn [] [(3, .int .i64 (i64 (x3 + 1))), (15, .int .i64 x3), (16, .int .i64 (i64 (x3 + 1)))] ?_))
    exact WP.again' [0, 2, 3] (x2, i64 (x3 + 1)) hM (by kernel_rfl) (fun _ h => (h.pick [] (by kernel_rfl)).lessF [4] (by kernel_rfl))
  ·replace hM := cond_f hM c4
   refine WP.exit rfl (WP.seq (WP.seq (WP.rn [] [(6, .int .i64 0)] ?_)))
   refine WP.block (WP.sub [0, 2, 6] (L' := [(0, slcV A00 a0.length), (2, .int .i64 x2), (6, .int .i64 0)]) (by kernel_rfl) ?_)
   refine WP.lessF [0] (F' := [Row 21 api_Gate.encS api_Gate.inK A00 a0]) (by kernel_rfl) ?_
   refine WP.loop (σ := Int × Int) (fun n st => gangwayref26_Check.l5 a0 k n st.1 st.2) r (fun st => [(0, slcV A00 a0.length), (2, .int .i64 st.1), (6, .int .i64 st.2)]) (fun st => Sat w Z [] [] ([Row 21 api_Gate.encS api_Gate.inK A00 a0] ++ Glob)) (st := (x2, 0)) (fun n st hM => ?_) hM
   rcases n with _ | n
   ·exact nomatch (show (none : Option _) = some r from hM)
   obtain ⟨x11, x12⟩ := st
   replace hM : gangwayref26_Check.l5 a0 k (n + 1) x11 x12 = some r := hM
   rw [gangwayref26_Check.l5] at hM
   try dsimp only
   refine WP.seq (WP.seq (WP.rn [] [(28, .int .i64 x12), (29, slcV A00 a0.length), (30, .int .i64 (a0.length : Int)), (31, .bool (decide (x12 < (a0.length : Int))))] ?_))
   refine WP.cond (decide (x12 < (a0.length : Int))) rfl rfl (fun c13 => ?_) (fun c13 => ?_)
   ·replace hM := cond_t hM c13
    refine WP.skip (WP.seq (WP.block (WP.seq (WP.rn [] [(7, .int .i64 0)] ?_))))
    refine WP.block (WP.sub [0, 2, 6, 7, 28, 29, 30, 31] (L' := [(0, slcV A00 a0.length), (2, .int .i64 x11), (6, .int .i64 x12), (7, .int .i64 0), (28, .int .i64 x12), (29, slcV A00 a0.length), (30, .int .i64 (a0.length : Int)), (31, .bool (decide (x12 < (a0.length : Int))))]) (by kernel_rfl) ?_)
    refine WP.lessF [0] (F' := [Row 21 api_Gate.encS api_Gate.inK A00 a0]) (by kernel_rfl) ?_
    refine WP.loop (σ := Int × Int) (fun n1 st => gangwayref26_Check.l4 x12 a0 (gangwayref26_Check.l5 a0 k n) n1 st.1 st.2) r (fun st => [(0, slcV A00 a0.length), (2, .int .i64 st.1), (6, .int .i64 x12), (7, .int .i64 st.2), (28, .int .i64 x12), (29, slcV A00 a0.length), (30, .int .i64 (a0.length : Int)), (31, .bool (decide (x12 < (a0.length : Int))))]) (fun st => Sat w Z [] [] ([Row 21 api_Gate.encS api_Gate.inK A00 a0] ++ Glob)) (st := (x11, 0)) (fun n1 st hM => ?_) hM
    rcases n1 with _ | n1
    ·exact nomatch (show (none : Option _) = some r from hM)
    obtain ⟨x14, x15⟩ := st
    replace hM : gangwayref26_Check.l4 x12 a0 (gangwayref26_Check.l5 a0 k n) (n1 + 1) x14 x15 = some r := hM
    rw [gangwayref26_Check.l4] at hM
    try dsimp only
    refine WP.seq (WP.seq (WP.rn [] [(34, .int .i64 x15), (35, .int .i64 x12), (36, .bool (decide (x15 < x12)))] ?_))
    refine WP.cond (decide (x15 < x12)) rfl rfl (fun c16 => ?_) (fun c16 => ?_)
    ·replace hM := cond_t hM c16
     refine WP.skip (WP.seq (WP.block (WP.seq (WP.quiet (by kernel_rfl) (by kernel_rfl) ?_))))
     refine QL.rn 2 [] [(39, slcV A00 a0.length), (40, .int .i64 x12)] ?_
     obtain ⟨t17, h18, hM⟩ := bind_some hM
     refine QL.valF (φ := Row 21 api_Gate.encS api_Gate.inK A00 a0) (fact_at 0 rfl) (fun w hR => run_indexRowF (A := A00) (xs := a0) (i := x12) (k := .i64) (e := 73) (m := 21) (by kernel_rfl) (by kernel_rfl) h18 (by kernel_rfl) (by kernel_rfl) hR) (by kernel_rfl) (by kernel_rfl) rfl ?_
     refine QL.valF (φ := Row 21 api_Gate.encS api_Gate.inK A00 a0) (fact_at 0 rfl) (fun w hR => run_fieldRowF (A := A00) (xs := a0) (i := x12) (n := Int.toNat x12 * 21 + 0) (n' := Int.toNat x12 * 21 + 2) h18 (by kernel_rfl) (fun _ _ => by kernel_rfl) hR) (by kernel_rfl) (by kernel_rfl) rfl ?_
     refine QL.valF (φ := Row 21 api_Gate.encS api_Gate.inK A00 a0) (fact_at 0 rfl) (fun w hR => run_loadRowF (A := A00) (xs := a0) (i := x12) (j := 2) (v := .int .u32 t17.Ip) h18 (fun _ => by kernel_rfl) (by kernel_rfl) (by kernel_rfl) hR) (by kernel_rfl) (by kernel_rfl) rfl ?_
     refine QL.rn 2 [] [(44, slcV A00 a0.length), (45, .int .i64 x15)] ?_
     obtain ⟨t19, h20, hM⟩ := bind_some hM
     refine QL.valF (φ := Row 21 api_Gate.encS api_Gate.inK A00 a0) (fact_at 0 rfl) (fun w hR => run_indexRowF (A := A00) (xs := a0) (i := x15) (k := .i64) (e := 73) (m := 21) (by kernel_rfl) (by kernel_rfl) h20 (by kernel_rfl) (by kernel_rfl) hR) (by kernel_rfl) (by kernel_rfl) rfl ?_
     refine QL.valF (φ := Row 21 api_Gate.encS api_Gate.inK A00 a0) (fact_at 0 rfl) (fun w hR => run_fieldRowF (A := A00) (xs := a0) (i := x15) (n := Int.toNat x15 * 21 + 0) (n' := Int.toNat x15 * 21 + 2) h20 (by kernel_rfl) (fun _ _ => by kernel_rfl) hR) (by kernel_rfl) (by kernel_rfl) rfl ?_
     refine QL.valF (φ := Row 21 api_Gate.encS api_Gate.inK A00 a0) (fact_at 0 rfl) (fun w hR => run_loadRowF (A := A00) (xs := a0) (i := x15) (j := 2) (v := .int .u32 t19.Ip) h20 (fun _ => by kernel_rfl) (by kernel_rfl) (by kernel_rfl) hR) (by kernel_rfl) (by kernel_rfl) rfl ?_
     refine QL.rn 2 [] [(49, .bool (t17.Ip == t19.Ip)), (50, .bool (t17.Ip == t19.Ip))] ?_
     refine QL.join (σ := Bool × Bool) 12 (fun st => gangwayref26_Check.k3 x14 x15 a0 x12 (gangwayref26_Check.l4 x12 a0 (gangwayref26_Check.l5 a0 k n) n1) st.1 st.2 = some r) (fun st => [(0, slcV A00 a0.length), (2, .int .i64 x14), (6, .int .i64 x12), (7, .int .i64 x15), (28, .int .i64 x12), (29, slcV A00 a0.length), (30, .int .i64 (a0.length : Int)), (31, .bool (decide (x12 < (a0.length : Int)))), (34, .int .i64 x15), (35, .int .i64 x12), (36, .bool (decide (x15 < x12))), (39, slcV A00 a0.length), (40, .int .i64 x12), (41, ptrV A00 (Int.toNat x12 * 21)), (42, ptrV A00 (Int.toNat x12 * 21 + 2)), (43, .int .u32 t17.Ip), (44, slcV A00 a0.length), (45, .int .i64 x15), (46, ptrV A00 (Int.toNat x15 * 21)), (47, ptrV A00 (Int.toNat x15 * 21 + 2)), (48, .int .u32 t19.Ip), (49, .bool (t17.Ip == t19.Ip)), (50, .bool st.1), (62, .bool st.2)]) (fun st hM => ?_) (fun K3 => ?_)
     ·
      obtain ⟨x26, x27⟩ := st
      replace hM : gangwayref26_Check.k3 x14 x15 a0 x12 (gangwayref26_Check.l4 x12 a0 (gangwayref26_Check.l5 a0 k n) n1) x26 x27 = some r := hM
      unfold gangwayref26_Check.k3 at hM
      show QL _ _ _ _ _ _ [(0, slcV A00 a0.length), (2, .int .i64 x14), (6, .int .i64 x12), (7, .int .i64 x15), (28, .int .i64 x12), (29, slcV A00 a0.length), (30, .int .i64 (a0.length : Int)), (31, .bool (decide (x12 < (a0.length : Int)))), (34, .int .i64 x15), (35, .int .i64 x12), (36, .bool (decide (x15 < x12))), (39, slcV A00 a0.length), (40, .int .i64 x12), (41, ptrV A00 (Int.toNat x12 * 21)), (42, ptrV A00 (Int.toNat x12 * 21 + 2)), (43, .int .u32 t17.Ip), (44, slcV A00 a0.length), (45, .int .i64 x15), (46, ptrV A00 (Int.toNat x15 * 21)), (47, ptrV A00 (Int.toNat x15 * 21 + 2)), (48, .int .u32 t19.Ip), (49, .bool (t17.Ip == t19.Ip)), (50, .bool x26), (62, .bool x27)]
      refine QL.rn 1 [] [(63, .bool x27)] ?_
      refine QL.join (σ := Bool × Bool) 12 (fun st => gangwayref26_Check.k2 x14 x15 (gangwayref26_Check.l4 x12 a0 (gangwayref26_Check.l5 a0 k n) n1) st.1 st.2 = some r) (fun st => [(0, slcV A00 a0.length), (2, .int .i64 x14), (6, .int .i64 x12), (7, .int .i64 x15), (28, .int .i64 x12), (29, slcV A00 a0.length), (30, .int .i64 (a0.length : Int)), (31, .bool (decide (x12 < (a0.length : Int)))), (34, .int .i64 x15), (35, .int .i64 x12), (36, .bool (decide (x15 < x12))), (39, slcV A00 a0.length), (40, .int .i64 x12), (41, ptrV A00 (Int.toNat x12 * 21)), (42, ptrV A00 (Int.toNat x12 * 21 + 2)), (43, .int .u32 t17.Ip), (44, slcV A00 a0.length), (45, .int .i64 x15), (46, ptrV A00 (Int.toNat x15 * 21)), (47, ptrV A00 (Int.toNat x15 * 21 + 2)), (48, .int .u32 t19.Ip), (49, .bool (t17.Ip == t19.Ip)), (50, .bool x26), (62, .bool x27), (63, .bool st.1), (75, .bool st.2)]) (fun st hM => ?_) (fun K2 => ?_)
      ·
       obtain ⟨x33, x34⟩ := st
       replace hM : gangwayref26_Check.k2 x14 x15 (gangwayref26_Check.l4 x12 a0 (gangwayref26_Check.l5 a0 k n) n1) x33 x34 = some r := hM
       unfold gangwayref26_Check.k2 at hM
       show QL _ _ _ _ _ _ [(0, slcV A00 a0.length), (2, .int .i64 x14), (6, .int .i64 x12), (7, .int .i64 x15), (28, .int .i64 x12), (29, slcV A00 a0.length), (30, .int .i64 (a0.length : Int)), (31, .bool (decide (x12 < (a0.length : Int)))), (34, .int .i64 x15), (35, .int .i64 x12), (36, .bool (decide (x15 < x12))), (39, slcV A00 a0.length), (40, .int .i64 x12), (41, ptrV A00 (Int.toNat x12 * 21)), (42, ptrV A00 (Int.toNat x12 * 21 + 2)), (43, .int .u32 t17.Ip), (44, slcV A00 a0.length), (45, .int .i64 x15), (46, ptrV A00 (Int.toNat x15 * 21)), (47, ptrV A00 (Int.toNat x15 * 21 + 2)), (48, .int .u32 t19.Ip), (49, .bool (t17.Ip == t19.Ip)), (50, .bool x26), (62, .bool x27), (63, .bool x33), (75, .bool x34)]
       refine QL.done ?_
       refine WP.cond x34 rfl rfl (fun c35 => ?_) (fun c35 => ?_)
       ·replace hM := cond_t hM c35
        refine WP.seq (WP.rn [] [(2, .int .i64 270)] ?_)
        obtain rfl := Option.some.inj hM
        exact WP.retF [] [] [0]
       ·replace hM := cond_f hM c35
        refine WP.skip (WP.leave (WP.rn [] [(7, .int .i64 (i64 (x15 + 1))), (37, .int .i64 x15), (38, .int .i64 (i64 (x15 + 1)))] ?_))
        exact WP.again' [0, 2, 6, 7, 28, 29, 30, 31] (x14, i64 (x15 + 1)) hM (by kernel_rfl) (fun _ h => (h.pick [] (by kernel_rfl)).lessF [0] (by kernel_rfl))
      ·
       refine QL.sp 63 x27 (fun c28 => ?_) (fun c28 => ?_)
       ·replace hM := cond_t hM c28
        refine QL.rn 12 [] [(64, .tuple #[]), (65, .tuple #[]), (66, .tuple #[]), (67, .tuple #[]), (68, .tuple #[]), (69, .tuple #[]), (70, .tuple #[]), (71, .tuple #[]), (72, .tuple #[]), (73, .tuple #[]), (74, .tuple #[]), (75, .bool true)] ?_
        exact QL.sub [0, 2, 6, 7, 28, 29, 30, 31, 34, 35, 36, 39, 40, 41, 42, 43, 44, 45, 46, 47, 48, 49, 50, 62, 63, 75] (by kernel_rfl) (K2 (true, true) hM)
       ·replace hM := cond_f hM c28
        refine QL.rn 2 [] [(64, slcV A00 a0.length), (65, .int .i64 x12)] ?_
        obtain ⟨t29, h30, hM⟩ := bind_some hM
        refine QL.valF (φ := Row 21 api_Gate.encS api_Gate.inK A00 a0) (fact_at 0 rfl) (fun w hR => run_indexRowF (A := A00) (xs := a0) (i := x12) (k := .i64) (e := 73) (m := 21) (by kernel_rfl) (by kernel_rfl) h30 (by kernel_rfl) (by kernel_rfl) hR) (by kernel_rfl) (by kernel_rfl) rfl ?_
        refine QL.valF (φ := Row 21 api_Gate.encS api_Gate.inK A00 a0) (fact_at 0 rfl) (fun w hR => run_fieldRowF (A := A00) (xs := a0) (i := x12) (n := Int.toNat x12 * 21 + 0) (n' := Int.toNat x12 * 21 + 0) h30 (by kernel_rfl) (fun _ _ => by kernel_rfl) hR) (by kernel_rfl) (by kernel_rfl) rfl ?_
        refine QL.valF (φ := Row 21 api_Gate.encS api_Gate.inK A00 a0) (fact_at 0 rfl) (fun w hR => run_loadRowF (A := A00) (xs := a0) (i := x12) (j := 0) (v := .int .u64 t29.Bridge) h30 (fun _ => by kernel_rfl) (by kernel_rfl) (by kernel_rfl) hR) (by kernel_rfl) (by kernel_rfl) rfl ?_
        refine QL.rn 2 [] [(69, slcV A00 a0.length), (70, .int .i64 x15)] ?_
        obtain ⟨t31, h32, hM⟩ := bind_some hM
        refine QL.valF (φ := Row 21 api_Gate.encS api_Gate.inK A00 a0) (fact_at 0 rfl) (fun w hR => run_indexRowF (A := A00) (xs := a0) (i := x15) (k := .i64) (e := 73) (m := 21) (by kernel_rfl) (by kernel_rfl) h32 (by kernel_rfl) (by kernel_rfl) hR) (by kernel_rfl) (by kernel_rfl) rfl ?_
        refine QL.valF (φ := Row 21 api_Gate.encS api_Gate.inK A00 a0) (fact_at 0 rfl) (fun w hR => run_fieldRowF (A := A00) (xs := a0) (i := x15) (n := Int.toNat x15 * 21 + 0) (n' := Int.toNat x15 * 21 + 0) h32 (by kernel_rfl) (fun _ _ => by kernel_rfl) hR) (by kernel_rfl) (by kernel_rfl) rfl ?_
        refine QL.valF (φ := Row 21 api_Gate.encS api_Gate.inK A00 a0) (fact_at 0 rfl) (fun w hR => run_loadRowF (A := A00) (xs := a0) (i := x15) (j := 0) (v := .int .u64 t31.Bridge) h32 (fun _ => by kernel_rfl) (by kernel_rfl) (by kernel_rfl) hR) (by kernel_rfl) (by kernel_rfl) rfl ?_
        refine QL.rn 2 [] [(74, .bool (t29.Bridge == t31.Bridge)), (75, .bool (t29.Bridge == t31.Bridge))] ?_
        exact QL.sub [0, 2, 6, 7, 28, 29, 30, 31, 34, 35, 36, 39, 40, 41, 42, 43, 44, 45, 46, 47, 48, 49, 50, 62, 63, 75] (by kernel_rfl) (K2 (false, (t29.Bridge == t31.Bridge)) hM)
     ·
      refine QL.sp 50 (t17.Ip == t19.Ip) (fun c21 => ?_) (fun c21 => ?_)
      ·replace hM := cond_t hM c21
       refine QL.rn 12 [] [(51, .tuple #[]), (52, .tuple #[]), (53, .tuple #[]), (54, .tuple #[]), (55, .tuple #[]), (56, .tuple #[]), (57, .tuple #[]), (58, .tuple #[]), (59, .tuple #[]), (60, .tuple #[]), (61, .tuple #[]), (62, .bool true)] ?_
       exact QL.sub [0, 2, 6, 7, 28, 29, 30, 31, 34, 35, 36, 39, 40, 41, 42, 43, 44, 45, 46, 47, 48, 49, 50, 62] (by kernel_rfl) (K3 (true, true) hM)
      ·replace hM := cond_f hM c21
       refine QL.rn 2 [] [(51, slcV A00 a0.length), (52, .int .i64 x12)] ?_
       obtain ⟨t22, h23, hM⟩ := bind_some hM
       refine QL.valF (φ := Row 21 api_Gate.encS api_Gate.inK A00 a0) (fact_at 0 rfl) (fun w hR => run_indexRowF (A := A00) (xs := a0) (i := x12) (k := .i64) (e := 73) (m := 21) (by kernel_rfl) (by kernel_rfl) h23 (by kernel_rfl) (by kernel_rfl) hR) (by kernel_rfl) (by kernel_rfl) rfl ?_
       refine QL.valF (φ := Row 21 api_Gate.encS api_Gate.inK A00 a0) (fact_at 0 rfl) (fun w hR => run_fieldRowF (A := A00) (xs := a0) (i := x12) (n := Int.toNat x12 * 21 + 0) (n' := Int.toNat x12 * 21 + 1) h23 (by kernel_rfl) (fun _ _ => by kernel_rfl) hR) (by kernel_rfl) (by kernel_rfl) rfl ?_
       refine QL.valF (φ := Row 21 api_Gate.encS api_Gate.inK A00 a0) (fact_at 0 rfl) (fun w hR => run_loadRowF (A := A00) (xs := a0) (i := x12) (j := 1) (v := .int .u64 t22.Mac) h23 (fun _ => by kernel_rfl) (by kernel_rfl) (by kernel_rfl) hR) (by kernel_rfl) (by kernel_rfl) rfl ?_
       refine QL.rn 2 [] [(56, slcV A00 a0.length), (57, .int .i64 x15)] ?_
       obtain ⟨t24, h25, hM⟩ := bind_some hM
       refine QL.valF (φ := Row 21 api_Gate.encS api_Gate.inK A00 a0) (fact_at 0 rfl) (fun w hR => run_indexRowF (A := A00) (xs := a0) (i := x15) (k := .i64) (e := 73) (m := 21) (by kernel_rfl) (by kernel_rfl) h25 (by kernel_rfl) (by kernel_rfl) hR) (by kernel_rfl) (by kernel_rfl) rfl ?_
       refine QL.valF (φ := Row 21 api_Gate.encS api_Gate.inK A00 a0) (fact_at 0 rfl) (fun w hR => run_fieldRowF (A := A00) (xs := a0) (i := x15) (n := Int.toNat x15 * 21 + 0) (n' := Int.toNat x15 * 21 + 1) h25 (by kernel_rfl) (fun _ _ => by kernel_rfl) hR) (by kernel_rfl) (by kernel_rfl) rfl ?_
       refine QL.valF (φ := Row 21 api_Gate.encS api_Gate.inK A00 a0) (fact_at 0 rfl) (fun w hR => run_loadRowF (A := A00) (xs := a0) (i := x15) (j := 1) (v := .int .u64 t24.Mac) h25 (fun _ => by kernel_rfl) (by kernel_rfl) (by kernel_rfl) hR) (by kernel_rfl) (by kernel_rfl) rfl ?_
       refine QL.rn 2 [] [(61, .bool (t22.Mac == t24.Mac)), (62, .bool (t22.Mac == t24.Mac))] ?_
       exact QL.sub [0, 2, 6, 7, 28, 29, 30, 31, 34, 35, 36, 39, 40, 41, 42, 43, 44, 45, 46, 47, 48, 49, 50, 62] (by kernel_rfl) (K3 (false, (t22.Mac == t24.Mac)) hM)
    ·replace hM := cond_f hM c16
     refine WP.exit rfl (WP.leave (WP.rn [] [(6, .int .i64 (i64 (x12 + 1))), (32, .int .i64 x12), (33, .int .i64 (i64 (x12 + 1)))] ?_))
     exact WP.again' [0, 2, 6] (x14, i64 (x12 + 1)) hM (by kernel_rfl) (fun _ h => (h.pick [] (by kernel_rfl)).lessF [0] (by kernel_rfl))
   ·replace hM := cond_f hM c13
    refine WP.exit rfl (WP.seq (WP.rn [] [(2, .int .i64 0)] ?_))
    obtain rfl := Option.some.inj hM
    exact WP.retF [] [] [0]
def gangwaylaw28_bound.l1 (a1 : (List api_Event)) (x9 : (List api_Gate)) : Nat → (List api_Event) → Int → Option ((List api_Gate) × (List api_Event))
 | 0, _, _ => none
 | n + 1, x11, x13 =>
  bif ((decide (x13 < (a1.length : Int))) && (decide (x13 < 30))) then
   (getL a1.length a1 x13).bind fun t15 =>
   (sliceS t15.S 0 (imin (t15.S.size : Int) 200)).bind fun t18 =>
   (roomL 40 (x11 ++ ([(api_Event.mk t15.In t15.Gate t15.Port t18)] : List api_Event)).length).bind fun u22 =>
   gangwaylaw28_bound.l1 a1 x9 n (x11 ++ ([(api_Event.mk t15.In t15.Gate t15.Port t18)] : List api_Event)) (i64 (x13 + 1))
  else
   some (x9, x11)
def gangwaylaw28_bound.k2 (a1 : (List api_Event)) (k : Nat) (x9 : (List api_Gate)) : Option ((List api_Gate) × (List api_Event)) :=
 gangwaylaw28_bound.l1 a1 x9 k ([] : List api_Event) 0
def gangwaylaw28_bound.f (k : Nat) (a0 : (List api_Gate)) (a1 : (List api_Event)) : Option ((List api_Gate) × (List api_Event)) :=
 (gangwaylaw27_Bound.f k a0).bind fun r1 =>
 (gangwayref26_Check.f k r1).bind fun r5 =>
 bif (r5 != 0) then
  gangwaylaw28_bound.k2 a1 k ([] : List api_Gate)
 else
  gangwaylaw28_bound.k2 a1 k r1
theorem gangwaylaw28_bound_calls (k : Nat) (A00 : SkL ((SkL (SkL Unit)) × (SkL Unit) × (SkL (SkL Unit)) × (SkL Unit))) (A01 : SkL Unit) (a0 : (List api_Gate)) (a1 : (List api_Event)) (r : (List api_Gate) × (List api_Event)) (h : gangwaylaw28_bound.f k a0 a1 = some r) : Does Tryz.prog 6 #[slcV A00 a0.length, slcV A01 a1.length] [] ([Row 21 api_Gate.encS api_Gate.inK A00 a0, Row 4 (pl api_Event.enc) noK A01 a1] ++ Glob) (fun x : ((SkL ((SkL (SkL Unit)) × (SkL Unit) × (SkL (SkL Unit)) × (SkL Unit))) × (SkL Unit)) => .tuple #[slcV x.1 r.1.length, slcV x.2 r.2.length]) (fun x => []) (fun _ => []) (fun x => [Row 21 api_Gate.encS api_Gate.inK x.1 r.1, Row 4 (pl api_Event.enc) noK x.2 r.2] ++ ([Row 21 api_Gate.encS api_Gate.inK A00 a0, Row 4 (pl api_Event.enc) noK A01 a1] ++ Glob)) := by
 intro w Z hS
 refine callsS (args := [slcV A00 a0.length, slcV A01 a1.length]) (L := [(0, slcV A00 a0.length), (1, slcV A01 a1.length)]) (N := 45) Tryz.func6 hS ?_
 have hM := h
 clear h hS
 unfold gangwaylaw28_bound.f at hM
 refine WP.seq (WP.rn [] [(4, .slice none 0 0), (5, .slice none 0 0)] ?_)
 refine WP.seq (WP.region (WL.rn 1 [] [(10, slcV A00 a0.length)] ?_))
 obtain ⟨r1, h2, hM⟩ := bind_some hM
 refine WL.callX (F0 := [Row 21 api_Gate.encS api_Gate.inK A00 a0]) [] [] [] (fun _ => _) [0] (by kernel_rfl) (gangwaylaw27_Bound_calls k A00 a0 _ h2) rfl rfl (by kernel_rfl) (by kernel_rfl) (fun _ => rfl) (fun A3 => ?_)
 refine WL.rh 3 [] (fun b4 => [(6, slcV A3 r1.length), (7, .slice (some ⟨b4, 0, none⟩) 0 0)]) (fun b4 => []) (fun b4 => [(b4, .cells #[] 28 (0, 0))]) (fun b4 => ?_)
 refine WP.done ?_
 refine WP.seqJoin (σ := (List api_Gate) × SkL ((SkL (SkL Unit)) × (SkL Unit) × (SkL (SkL Unit)) × (SkL Unit))) (fun st => gangwaylaw28_bound.k2 a1 k st.1 = some r) (fun st => [(1, slcV A01 a1.length), (4, .slice none 0 0), (5, .slice none 0 0), (6, slcV st.2 st.1.length), (7, .slice (some ⟨b4, 0, none⟩) 0 0)]) (fun st => Sat w Z [(b4, .cells #[] 28 (0, 0))] [] ([Row 21 api_Gate.encS api_Gate.inK st.2 st.1, Row 21 api_Gate.encS api_Gate.inK A3 r1, Row 21 api_Gate.encS api_Gate.inK A00 a0, Row 4 (pl api_Event.enc) noK A01 a1] ++ Glob)) (fun st hM => ?_) (fun K2 => ?_)
 ·
  obtain ⟨x9, A10⟩ := st
  replace hM : gangwaylaw28_bound.k2 a1 k x9 = some r := hM
  unfold gangwaylaw28_bound.k2 at hM
  try dsimp only
  refine WP.seq (WP.seq (WP.rn [] [(8, .int .i64 0)] ?_))
  refine WP.block ?_
  refine WP.growLit (H' := []) (m := 4) (e := 28) (f := (pl api_Event.enc)) noK 0 (b := b4) (cs := #[]) (fun _ => ()) ([] : List api_Event) (by kernel_rfl) (fun _ _ => rfl) (by kernel_rfl) (by decide) [] [] (by kernel_rfl) (fun w hψ => (InK.no _ _)) (by kernel_rfl) ?_
  refine WP.sub [1, 4, 5, 6, 7, 8] (L' := [(1, slcV A01 a1.length), (4, .slice none 0 0), (5, .slice none 0 0), (6, slcV A10 x9.length), (7, slcV (SkL.at b4 0 (fun _ => ())) ([] : List api_Event).length), (8, .int .i64 0)]) (by kernel_rfl) ?_
  refine WP.lessF [0, 0, 1, 2, 3, 4] (F' := [GIn noK (SkL.at b4 0 (fun _ => ())) ([] : List api_Event), GIn noK (SkL.at b4 0 (fun _ => ())) ([] : List api_Event), Row 21 api_Gate.encS api_Gate.inK A10 x9, Row 21 api_Gate.encS api_Gate.inK A3 r1, Row 21 api_Gate.encS api_Gate.inK A00 a0, Row 4 (pl api_Event.enc) noK A01 a1]) (by kernel_rfl) ?_
  refine WP.loop (σ := (List api_Event) × SkL Unit × Int) (fun n st => gangwaylaw28_bound.l1 a1 x9 n st.1 st.2.2) r (fun st => [(1, slcV A01 a1.length), (4, .slice none 0 0), (5, .slice none 0 0), (6, slcV A10 x9.length), (7, slcV st.2.1 st.1.length), (8, .int .i64 st.2.2)]) (fun st => Sat w Z [] [OwnR 4 28 (pl api_Event.enc) st.2.1 st.1] ([GIn noK st.2.1 st.1, GIn noK (SkL.at b4 0 (fun _ => ())) ([] : List api_Event), Row 21 api_Gate.encS api_Gate.inK A10 x9, Row 21 api_Gate.encS api_Gate.inK A3 r1, Row 21 api_Gate.encS api_Gate.inK A00 a0, Row 4 (pl api_Event.enc) noK A01 a1] ++ Glob)) (st := (([] : List api_Event), (SkL.at b4 0 (fun _ => ())), 0)) (fun n st hM => ?_) hM
  rcases n with _ | n
  ·exact nomatch (show (none : Option _) = some r from hM)
  obtain ⟨x11, A12, x13⟩ := st
  replace hM : gangwaylaw28_bound.l1 a1 x9 (n + 1) x11 x13 = some r := hM
  rw [gangwaylaw28_bound.l1] at hM
  try dsimp only
  refine WP.seq (WP.seq (WP.region (WL.rn 5 [] [(17, .int .i64 x13), (18, slcV A01 a1.length), (19, .int .i64 (a1.length : Int)), (20, .bool (decide (x13 < (a1.length : Int)))), (21, .bool (decide (x13 < (a1.length : Int))))] ?_)))
  refine WL.bo 21 (decide (x13 < (a1.length : Int))) 3 [] [] (fun b' => [(24, .bool (b' && (decide (x13 < 30))))]) ?_
  refine WP.done ?_
  refine WP.cond ((decide (x13 < (a1.length : Int))) && (decide (x13 < 30))) rfl rfl (fun c14 => ?_) (fun c14 => ?_)
  ·replace hM := cond_t hM c14
   refine WP.skip (WP.seq (WP.block (WP.seq (WP.region (WL.rn 2 [] [(27, slcV A01 a1.length), (28, .int .i64 x13)] ?_)))))
   obtain ⟨t15, h16, hM⟩ := bind_some hM
   refine WL.valF (φ := Row 4 (pl api_Event.enc) noK A01 a1) (fact_at 5 rfl) (fun w hR => run_indexRowF (A := A01) (xs := a1) (i := x13) (k := .i64) (e := 28) (m := 4) (by kernel_rfl) (by kernel_rfl) h16 (by kernel_rfl) (by kernel_rfl) hR) (by kernel_rfl) (by kernel_rfl) rfl ?_
   refine WL.valF (φ := Row 4 (pl api_Event.enc) noK A01 a1) (fact_at 5 rfl) (fun w hR => run_loadRowFA (A := A01) (xs := a1) (i := x13) (j := 0) (n := 4) (vs := [.bool t15.In, .int .i64 t15.Gate, .int .i64 t15.Port, .string t15.S]) h16 (fun _ => by kernel_rfl) (by kernel_rfl) (by kernel_rfl) (by kernel_rfl) rfl hR) (by kernel_rfl) (by kernel_rfl) rfl ?_
   refine WL.rh 2 [0, 0, 0, 0] (fun b17 => [(9, .pointer (some ⟨b17, 0, none⟩))]) (fun b17 => []) (fun b17 => [(b17, api_Event.o t15)]) (fun b17 => ?_)
   refine WP.done (WP.seq (WP.region ?_))
   refine WL.rn 6 [0, 0] [(31, .pointer (some ⟨b17, 3, none⟩)), (32, .string t15.S), (33, .pointer (some ⟨b17, 3, none⟩)), (34, .string t15.S), (35, .int .i64 (t15.S.size : Int)), (36, .int .i64 (imin (t15.S.size : Int) 200))] ?_
   obtain ⟨t18, h19, hM⟩ := bind_some hM
   refine WL.val (fun _ => run_sliceS_hi (s := t15.S) (kh := .i64) (h := imin (t15.S.size : Int) 200) (by kernel_rfl) (by kernel_rfl) (by kernel_rfl) h19) (by kernel_rfl) (by kernel_rfl) rfl ?_
   refine WL.rh 2 [0] (fun _ => [(38, .pointer (some ⟨b17, 3, none⟩))]) (fun _ => [(0, 3, [.string t18])]) (fun _ => []) (fun _ => ?_)
   refine WP.done (WP.region ?_)
   refine WL.rh 3 [0, 0, 0, 0] (fun b20 => [(39, slcV A12 x11.length), (40, .agg #[.bool t15.In, .int .i64 t15.Gate, .int .i64 t15.Port, .string t18]), (41, .slice (some ⟨b20, 0, none⟩) 1 1)]) (fun b20 => []) (fun b20 => [(b20, .cells #[.bool t15.In, .int .i64 t15.Gate, .int .i64 t15.Port, .string t18] 28 (0, 0))]) (fun b20 => ?_)
   refine WL.ice (H' := [(b17, .cells #[.bool t15.In, .int .i64 t15.Gate, .int .i64 t15.Port, .string t18] 28 (0, 0))]) (Row 4 (pl api_Event.enc) noK (SkL.at b20 1 (fun _ => ())) ([(api_Event.mk t15.In t15.Gate t15.Port t18)] : List api_Event)) 1 (b := b20) (ob := .cells #[.bool t15.In, .int .i64 t15.Gate, .int .i64 t15.Port, .string t18] 28 (0, 0)) (by kernel_rfl) [] [] (by kernel_rfl) (fun w hb hψ => row_of_block hb (fun _ _ => rfl) ⟨[], by kernel_rfl⟩ (Nat.le_of_ble_eq_true rfl) (InK.no _ _)) (by kernel_rfl) ?_
   obtain ⟨u22, h21, hM⟩ := bind_some hM
   refine WL.growApp (G' := []) (A := A12) (B := (SkL.at b20 1 (fun _ => ()))) (xs := x11) (ys := ([(api_Event.mk t15.In t15.Gate t15.Port t18)] : List api_Event)) (m := 4) (by_ := 40) (e := 28) (z := .agg #[.bool false, .int .i64 0, .int .i64 0, .string (⟨#[]⟩ : ByteArray)]) (f := (pl api_Event.enc)) (K := noK) (d := 42) 0 rfl rfl (by kernel_rfl) (by kernel_rfl) (by kernel_rfl) (by kernel_rfl) (by kernel_rfl) (fun _ _ => rfl) (fun _ _ => rfl) (by kernel_rfl) (by kernel_rfl) (by kernel_rfl) (by kernel_rfl) (by kernel_rfl) (fact_at 1 rfl) (fact_at 0 rfl) h21 (by kernel_rfl) (fun A23 => ?_)
   refine WL.less (Φ' := ([GIn noK A23 (x11 ++ ([(api_Event.mk t15.In t15.Gate t15.Port t18)] : List api_Event)), Row 4 (pl api_Event.enc) noK (SkL.at b20 1 (fun _ => ())) ([(api_Event.mk t15.In t15.Gate t15.Port t18)] : List api_Event), GIn noK A12 x11, GIn noK (SkL.at b4 0 (fun _ => ())) ([] : List api_Event), Row 21 api_Gate.encS api_Gate.inK A10 x9, Row 21 api_Gate.encS api_Gate.inK A3 r1, Row 21 api_Gate.encS api_Gate.inK A00 a0, Row 4 (pl api_Event.enc) noK A01 a1] ++ Glob)) (fun _ h => h) ?_
   refine WL.rn 1 [] [(7, slcV A23 (x11 ++ ([(api_Event.mk t15.In t15.Gate t15.Port t18)] : List api_Event)).length)] ?_
   refine WP.done (WP.leave (WP.rn [] [(8, .int .i64 (i64 (x13 + 1))), (25, .int .i64 x13), (26, .int .i64 (i64 (x13 + 1)))] ?_))
   exact WP.again' [1, 4, 5, 6, 7, 8] ((x11 ++ ([(api_Event.mk t15.In t15.Gate t15.Port t18)] : List api_Event)), A23, i64 (x13 + 1)) hM (by kernel_rfl) (fun _ h => ((h.pick [] (by kernel_rfl)).lessF [0, 3, 4, 5, 6, 7] (by kernel_rfl)).pickG [0] [] 1 rfl (by decide) (by kernel_rfl))
  ·replace hM := cond_f hM c14
   refine WP.exit rfl (WP.seq (WP.rn [] [(4, slcV A10 x9.length), (5, slcV A12 x11.length)] ?_))
   refine WP.growIce (G' := []) (m := 4) (e := 28) (f := (pl api_Event.enc)) (K := noK) (A := A12) (xs := x11) 0 0 (by kernel_rfl) (by kernel_rfl) (fun _ _ => rfl) (by kernel_rfl) ?_
   obtain rfl := Option.some.inj hM
   exact WP.ret [] [] (.tuple #[slcV A10 x9.length, slcV A12 x11.length]) (by kernel_rfl) (fun w' hw => ⟨(A10, A12), rfl, (hw.pick [] (by kernel_rfl)).less (sub_ret [3, 0] [5, 6] (by kernel_rfl) (by kernel_rfl))⟩)
 ·
  refine WP.seq (WP.region (WL.rn 1 [] [(13, slcV A3 r1.length)] ?_))
  obtain ⟨r5, h6, hM⟩ := bind_some hM
  refine WL.callP [] [] (gangwayref26_Check_calls k A3 r1 _ h6) (sub_pick [0] (by kernel_rfl)) (by kernel_rfl) (by kernel_rfl) rfl ?_
  refine WL.rn 1 [] [(15, .bool (r5 != 0))] ?_
  refine WP.done ?_
  refine WP.cond (r5 != 0) rfl rfl (fun c7 => ?_) (fun c7 => ?_)
  ·replace hM := cond_t hM c7
   refine WP.rh [] (fun b8 => [(6, .slice (some ⟨b8, 0, none⟩) 0 0)]) (fun b8 => []) (fun b8 => [(b8, .cells #[] 73 (0, 0))]) (fun b8 => ?_)
   refine WP.ice (H' := [(b4, .cells #[] 28 (0, 0))]) (Row 21 api_Gate.encS api_Gate.inK (SkL.at b8 0 (skF [] ((SkL.nil (fun _ => (SkL.nil (fun _ => ())))), (SkL.nil (fun _ => ())), (SkL.nil (fun _ => (SkL.nil (fun _ => ())))), (SkL.nil (fun _ => ()))))) ([] : List api_Gate)) 1 (b := b8) (ob := .cells #[] 73 (0, 0)) (by kernel_rfl) [] [] (by kernel_rfl) (fun w hb hψ => row_of_block hb (fun _ _ => rfl) ⟨[], by kernel_rfl⟩ (Nat.le_of_ble_eq_true rfl) trivial) (by kernel_rfl) ?_
   exact WP.sub [1, 4, 5, 6, 7] (by kernel_rfl) (WP.pick [0] (by kernel_rfl) (by kernel_rfl) (WP.lessF [0, 1, 2, 3] (by kernel_rfl) (K2 (([] : List api_Gate), (SkL.at b8 0 (skF [] ((SkL.nil (fun _ => (SkL.nil (fun _ => ())))), (SkL.nil (fun _ => ())), (SkL.nil (fun _ => (SkL.nil (fun _ => ())))), (SkL.nil (fun _ => ())))))) hM)))
  ·replace hM := cond_f hM c7
   refine WP.skip ?_
   exact WP.sub [1, 4, 5, 6, 7] (by kernel_rfl) (WP.pick [0] (by kernel_rfl) (by kernel_rfl) (WP.lessF [0, 0, 1, 2] (by kernel_rfl) (K2 (r1, A3) hM)))
def octets_part.f (a0 : ByteArray) (a1 : Int) (a2 : Int) : Option (ByteArray × Un0) :=
 bif ((decide (a1 < 0)) || (decide (a2 < 0))) then
  some ((⟨#[]⟩ : ByteArray), some (a1, 1))
 else
  bif ((decide (a1 > (a0.size : Int))) || (decide (a2 > (i64 ((a0.size : Int) - a1))))) then
   some ((⟨#[]⟩ : ByteArray), some (a1, 10))
  else
   (sliceS a0 a1 (i64 (a1 + a2))).bind fun t3 =>
   some (t3, none)
theorem octets_part_calls (a0 : ByteArray) (a1 : Int) (a2 : Int) (r : ByteArray × Un0) (h : octets_part.f a0 a1 a2 = some r) : Pure Tryz.prog Glob 126 #[.string a0, .int .i64 a1, .int .i64 a2] (.tuple #[.string r.1, Un0.v r.2]) := by
 intro w Z hS
 refine callsS (args := [.string a0, .int .i64 a1, .int .i64 a2]) (L := [(0, .string a0), (1, .int .i64 a1), (2, .int .i64 a2)]) (N := 42) Tryz.func126 hS ?_
 have hM := h
 clear h hS
 unfold octets_part.f at hM
 refine WP.seq ?_
 refine WP.rn [] [(6, .string (⟨#[]⟩ : ByteArray)), (7, .nilIface)] ?_
 refine WP.seq (WP.block (WP.seq (WP.region (WL.rn 3 [] [(11, .bool (decide (a1 < 0)))] ?_))))
 refine WL.bo 11 (decide (a1 < 0)) 3 [] [] (fun b' => [(14, .bool (b' || (decide (a2 < 0))))]) ?_
 refine WL.rn 1 [] [(8, .bool ((decide (a1 < 0)) || (decide (a2 < 0))))] ?_
 refine WP.done ?_
 refine WP.cond ((decide (a1 < 0)) || (decide (a2 < 0))) rfl rfl (fun c1 => ?_) (fun c1 => ?_)
 ·replace hM := cond_t hM c1
  refine WP.seq ?_
  refine WP.rn [] [(6, .string (⟨#[]⟩ : ByteArray)), (7, .iface 315 (.agg #[.int .i64 a1, .iface 32 (.int .i64 1)]))] ?_
  obtain rfl := Option.some.inj hM
  exact WP.retQ [] []
 ·replace hM := cond_f hM c1
  refine WP.seq (WP.region (WL.rn 5 [] [(24, .bool (decide (a1 > (a0.size : Int))))] ?_))
  refine WL.bo 24 (decide (a1 > (a0.size : Int))) 7 [] [] (fun b' => [(31, .bool (b' || (decide (a2 > (i64 ((a0.size : Int) - a1))))))]) ?_
  refine WL.rn 1 [] [(19, .bool ((decide (a1 > (a0.size : Int))) || (decide (a2 > (i64 ((a0.size : Int) - a1))))))] ?_
  refine WP.done ?_
  refine WP.cond ((decide (a1 > (a0.size : Int))) || (decide (a2 > (i64 ((a0.size : Int) - a1))))) rfl rfl (fun c2 => ?_) (fun c2 => ?_)
  ·replace hM := cond_t hM c2
   refine WP.seq ?_
   refine WP.rn [] [(6, .string (⟨#[]⟩ : ByteArray)), (7, .iface 315 (.agg #[.int .i64 a1, .iface 32 (.int .i64 10)]))] ?_
   obtain rfl := Option.some.inj hM
   exact WP.retQ [] []
  ·replace hM := cond_f hM c2
   refine WP.skip (WP.leave (WP.seq (WP.region (WL.rn 5 [] [(36, .string a0), (37, .int .i64 a1), (40, .int .i64 (i64 (a1 + a2)))] ?_))))
   obtain ⟨t3, h4, hM⟩ := bind_some hM
   refine WL.val (fun _ => run_sliceS (s := a0) (kl := .i64) (kh := .i64) (l := a1) (h := i64 (a1 + a2)) (by kernel_rfl) (by kernel_rfl) (by kernel_rfl) (by kernel_rfl) h4) (by kernel_rfl) (by kernel_rfl) rfl ?_
   refine WL.rn 2 [] [(6, .string t3), (7, .nilIface)] ?_
   refine WP.done ?_
   obtain rfl := Option.some.inj hM
   exact WP.retQ [] []
def octets_at_Unwrap.f (a0 : Int) (a0_1 : Int) : Option (Int) :=
 some a0_1
theorem octets_at_Unwrap_calls (a0 : Int) (a0_1 : Int) (r : Int) (h : octets_at_Unwrap.f a0 a0_1 = some r) : Pure Tryz.prog Glob 205 #[.agg #[.int .i64 a0, .iface 32 (.int .i64 a0_1)]] (.iface 32 (.int .i64 r)) := by
 intro w Z hS
 refine callsS (args := [.agg #[.int .i64 a0, .iface 32 (.int .i64 a0_1)]]) (L := [(0, .agg #[.int .i64 a0, .iface 32 (.int .i64 a0_1)])]) (N := 5) Tryz.func205 hS ?_
 have hM := h
 clear h hS
 unfold octets_at_Unwrap.f at hM
 refine WP.seq ?_
 refine WP.rh [] (fun b1 => [(1, .pointer (some ⟨b1, 0, none⟩)), (2, .nilIface)]) (fun b1 => []) (fun b1 => [(b1, .cells #[.int .i64 a0, .iface 32 (.int .i64 a0_1)] 315 (0, 0))]) (fun b1 => ?_)
 refine WP.seq (WP.rn [0] [(2, .iface 32 (.int .i64 a0_1))] ?_)
 refine WP.kp [false] ?_
 obtain rfl := Option.some.inj hM
 exact WP.retQ [] []
def errors_as.f (a0 : Int) (a0_1 : Int) (a1 : Int) : Option (Bool × Int) :=
 (octets_at_Unwrap.f a0 a0_1).bind fun r3 =>
 some (true, r3)
theorem errors_as_calls (b_0 : Nat) (b_1 : Nat) (a0 : Int) (a0_1 : Int) (a1 : Int) (r : Bool × Int) (h : errors_as.f a0 a0_1 a1 = some r) : Does Tryz.prog 147 #[.iface 315 (.agg #[.int .i64 a0, .iface 32 (.int .i64 a0_1)]), .iface 243 (.pointer (some ⟨b_0, 0, none⟩)), .agg #[.pointer (some ⟨1, 243, none⟩), .pointer (some ⟨b_1, 0, none⟩), .int .u64 150], .iface 292 (.agg #[.pointer (some ⟨1, 32, none⟩)])] [(b_0, .cells #[.int .i64 a1] 32 (0, 0)), (b_1, .cells #[.pointer (some ⟨b_0, 0, none⟩)] 243 (0, 0))] Glob (fun _ : Unit => .bool r.1) (fun _ => [(b_0, .cells #[.int .i64 r.2] 32 (0, 0)), (b_1, .cells #[.pointer (some ⟨b_0, 0, none⟩)] 243 (0, 0))]) (fun _ => []) (fun _ => Glob) := by
 intro w Z hS
 refine callsS (args := [.iface 315 (.agg #[.int .i64 a0, .iface 32 (.int .i64 a0_1)]), .iface 243 (.pointer (some ⟨b_0, 0, none⟩)), .agg #[.pointer (some ⟨1, 243, none⟩), .pointer (some ⟨b_1, 0, none⟩), .int .u64 150], .iface 292 (.agg #[.pointer (some ⟨1, 32, none⟩)])]) (L := [(0, .iface 315 (.agg #[.int .i64 a0, .iface 32 (.int .i64 a0_1)])), (1, .iface 243 (.pointer (some ⟨b_0, 0, none⟩))), (2, .agg #[.pointer (some ⟨1, 243, none⟩), .pointer (some ⟨b_1, 0, none⟩), .int .u64 150]), (3, .iface 292 (.agg #[.pointer (some ⟨1, 32, none⟩)]))]) (N := 62) Tryz.func147 hS ?_
 have hM := h
 clear h hS
 unfold errors_as.f at hM
 refine WP.seq ?_
 refine WP.rh [] (fun b1 => [(6, .pointer (some ⟨b1, 0, none⟩)), (8, .bool false)]) (fun b1 => []) (fun b1 => [(b1, .cells #[.pointer (some ⟨1, 243, none⟩), .pointer (some ⟨b_1, 0, none⟩), .int .u64 150] 305 (0, 0))]) (fun b1 => ?_)
 refine WP.block (WP.unroll 40 ?_)
 refine WP.block (WP.seq (WP.seq ?_))
 refine WP.rn [] [(16, .iface 315 (.agg #[.int .i64 a0, .iface 32 (.int .i64 a0_1)])), (17, .iface 292 (.agg #[.pointer (some ⟨1, 315, none⟩)])), (18, .iface 292 (.agg #[.pointer (some ⟨1, 32, none⟩)])), (19, .bool false)] ?_
 refine WP.no rfl rfl (WP.skip (WP.seq (WP.seq (WP.region (WL.rn 1 [] [(26, .iface 315 (.agg #[.int .i64 a0, .iface 32 (.int .i64 a0_1)]))] ?_)))))
 refine WL.val (fun _ => run_assertLacks (t := 315) (v := .agg #[.int .i64 a0, .iface 32 (.int .i64 a0_1)]) (z := .nilIface) (by kernel_rfl) (by kernel_rfl) (by kernel_rfl)) (by kernel_rfl) (by kernel_rfl) rfl ?_
 refine WL.rn 5 [] [(9, .nilIface), (10, .bool false), (25, .tuple #[.nilIface, .bool false]), (28, .nilIface), (29, .bool false)] ?_
 refine WP.done (WP.seq (WP.rn [] [(30, .bool false), (31, .bool false), (32, .tuple #[]), (33, .tuple #[]), (34, .tuple #[]), (35, .bool false)] ?_))
 refine WP.no rfl rfl (WP.skip (WP.seq (WP.rn [] [(36, .iface 315 (.agg #[.int .i64 a0, .iface 32 (.int .i64 a0_1)]))] ?_)))
 refine WP.block (WP.seq (WP.region ?_))
 refine WL.val (fun _ => run_assertHas (t := 315) (v := .agg #[.int .i64 a0, .iface 32 (.int .i64 a0_1)]) (by kernel_rfl) (by kernel_rfl)) (by kernel_rfl) (by kernel_rfl) rfl ?_
 refine WL.rn 2 [] [(38, .bool true), (39, .iface 315 (.agg #[.int .i64 a0, .iface 32 (.int .i64 a0_1)]))] ?_
 refine WP.done (WP.yes rfl rfl (WP.seq (WP.rn [] [(11, .iface 315 (.agg #[.int .i64 a0, .iface 32 (.int .i64 a0_1)]))] ?_)))
 refine WP.seq (WP.region (WL.rn 1 [] [(40, .iface 315 (.agg #[.int .i64 a0, .iface 32 (.int .i64 a0_1)]))] ?_))
 obtain ⟨r3, h4, hM⟩ := bind_some hM
 refine WL.callP [] [] (octets_at_Unwrap_calls a0 a0_1 _ h4) (fun _ h => h) (by kernel_rfl) (by kernel_rfl) rfl ?_
 refine WL.rn 1 [] [(0, .iface 32 (.int .i64 r3))] ?_
 refine WP.done (WP.seq (WP.rn [] [(42, .iface 32 (.int .i64 r3)), (43, .bool false)] ?_))
 refine WP.no rfl rfl (WP.skip (WP.leave (WP.leave (WP.round ?_))))
 refine WP.block (WP.seq (WP.seq ?_))
 refine WP.rn [] [(16, .iface 32 (.int .i64 r3)), (17, .iface 292 (.agg #[.pointer (some ⟨1, 32, none⟩)])), (18, .iface 292 (.agg #[.pointer (some ⟨1, 32, none⟩)])), (19, .bool true)] ?_
 refine WP.yes rfl rfl (WP.seq ?_)
 refine WP.rh [2, 2, 2, 1, 3, 0] (fun b5 => [(20, .agg #[.pointer (some ⟨1, 243, none⟩), .pointer (some ⟨b_1, 0, none⟩), .int .u64 150]), (21, .agg #[.pointer (some ⟨1, 32, none⟩), .pointer (some ⟨b_0, 0, none⟩), .int .u64 386]), (22, .iface 32 (.int .i64 r3)), (23, .agg #[.pointer (some ⟨1, 32, none⟩), .pointer (some ⟨b5, 0, none⟩), .int .u64 130])]) (fun b5 => [(0, 0, [.int .i64 r3])]) (fun b5 => [(b5, .cells #[.int .i64 r3] 32 (0, 0))]) (fun b5 => ?_)
 refine WP.seq (WP.rn [] [(8, .bool true)] ?_)
 obtain rfl := Option.some.inj hM
 exact WP.ret [] [] (.bool true) (by kernel_rfl) (fun w' hw => ⟨(), rfl, hw.pick [0, 1] (by kernel_rfl)⟩)
def errors_As.f (a0 : Int) (a0_1 : Int) (a1 : Int) : Option (Bool × Int) :=
 (errors_as.f a0 a0_1 a1).bind fun (r2, r3) =>
 some (r2, r3)
theorem errors_As_calls (b_0 : Nat) (a0 : Int) (a0_1 : Int) (a1 : Int) (r : Bool × Int) (h : errors_As.f a0 a0_1 a1 = some r) : Does Tryz.prog 119 #[.iface 315 (.agg #[.int .i64 a0, .iface 32 (.int .i64 a0_1)]), .iface 243 (.pointer (some ⟨b_0, 0, none⟩))] [(b_0, .cells #[.int .i64 a1] 32 (0, 0))] Glob (fun _ : Unit => .bool r.1) (fun _ => [(b_0, .cells #[.int .i64 r.2] 32 (0, 0))]) (fun _ => []) (fun _ => Glob) := by
 intro w Z hS
 refine callsS (args := [.iface 315 (.agg #[.int .i64 a0, .iface 32 (.int .i64 a0_1)]), .iface 243 (.pointer (some ⟨b_0, 0, none⟩))]) (L := [(0, .iface 315 (.agg #[.int .i64 a0, .iface 32 (.int .i64 a0_1)])), (1, .iface 243 (.pointer (some ⟨b_0, 0, none⟩)))]) (N := 42) Tryz.func119 hS ?_
 have hM := h
 clear h hS
 unfold errors_As.f at hM
 refine WP.seq (WP.rn [] [(4, .bool false)] ?_)
 refine WP.seq (WP.seq (WP.rn [] [(9, .bool false)] ?_))
 refine WP.no rfl rfl (WP.skip (WP.seq (WP.seq (WP.rn [] [(11, .bool false)] ?_))))
 refine WP.no rfl rfl (WP.skip (WP.seq ?_))
 refine WP.rh [2, 2, 2] (fun b1 => [(5, .pointer (some ⟨(b1 + 1), 0, none⟩))]) (fun b1 => []) (fun b1 => [(b1, .cells #[.pointer (some ⟨b_0, 0, none⟩)] 243 (0, 0)), ((b1 + 1), .cells #[.pointer (some ⟨1, 243, none⟩), .pointer (some ⟨b1, 0, none⟩), .int .u64 150] 305 (0, 0))]) (fun b1 => ?_)
 refine WP.seq ?_
 refine WP.rn [2, 2, 2] [(6, .iface 292 (.agg #[.pointer (some ⟨1, 243, none⟩)]))] ?_
 refine WP.seq (WP.seq (WP.rn [2, 2, 2, 1] [(23, .bool false)] ?_))
 refine WP.no rfl rfl (WP.skip (WP.seq ?_))
 refine WP.rn [] [(7, .iface 292 (.agg #[.pointer (some ⟨1, 32, none⟩)]))] ?_
 refine WP.seq (WP.seq (WP.region ?_))
 refine WL.rn 5 [] [(30, .bool true), (31, .iface 292 (.agg #[.pointer (some ⟨1, 32, none⟩)]))] ?_
 refine WL.loadGlob (v := .iface 292 (.agg #[.pointer (some ⟨1, 151, none⟩)])) (by simp [Glob]) (fun _ => by kernel_rfl) (by kernel_rfl) rfl ?_
 refine WL.rn 3 [] [(35, .bool false)] ?_
 refine WP.done (WP.no rfl rfl (WP.skip (WP.seq (WP.region ?_))))
 refine WL.rn 4 [2, 2, 2] [(37, .iface 315 (.agg #[.int .i64 a0, .iface 32 (.int .i64 a0_1)])), (38, .iface 243 (.pointer (some ⟨b_0, 0, none⟩))), (39, .agg #[.pointer (some ⟨1, 243, none⟩), .pointer (some ⟨b1, 0, none⟩), .int .u64 150]), (40, .iface 292 (.agg #[.pointer (some ⟨1, 32, none⟩)]))] ?_
 obtain ⟨⟨r2, r3⟩, h4, hM⟩ := bind_some hM
 dsimp only at hM
 refine WL.callE (X := Unit) [] [] [true, true, false] (fun _ => _) (errors_as_calls b_0 b1 a0 a0_1 a1 _ h4) rfl rfl (fun _ h => h) (by kernel_rfl) (by kernel_rfl) (fun _ => rfl) (fun _ => ?_)
 refine WL.rn 1 [] [(4, .bool r2)] ?_
 refine WP.done (WP.kp [true, false, false] ?_)
 obtain rfl := Option.some.inj hM
 exact WP.ret [] [] (.bool r2) (by kernel_rfl) (fun w' hw => ⟨(), rfl, hw.pick [0] (by kernel_rfl)⟩)
def octets_number.f (a0 : Int) (a0_1 : Int) : Option (Int) :=
 (errors_As.f a0 a0_1 0).bind fun (r2, r3) =>
 bif r2 then
  some r3
 else
  some 0
theorem octets_number_calls (a0 : Int) (a0_1 : Int) (r : Int) (h : octets_number.f a0 a0_1 = some r) : Pure Tryz.prog Glob 127 #[.iface 315 (.agg #[.int .i64 a0, .iface 32 (.int .i64 a0_1)])] (.int .i64 r) := by
 intro w Z hS
 refine callsS (args := [.iface 315 (.agg #[.int .i64 a0, .iface 32 (.int .i64 a0_1)])]) (L := [(0, .iface 315 (.agg #[.int .i64 a0, .iface 32 (.int .i64 a0_1)]))]) (N := 12) Tryz.func127 hS ?_
 have hM := h
 clear h hS
 unfold octets_number.f at hM
 refine WP.seq (WP.rn [] [(2, .int .i64 0)] ?_)
 refine WP.seq ?_
 refine WP.rh [] (fun b1 => [(3, .pointer (some ⟨b1, 0, none⟩))]) (fun b1 => []) (fun b1 => [(b1, .cells #[.int .i64 0] 32 (0, 0))]) (fun b1 => ?_)
 refine WP.seq (WP.seq (WP.region ?_))
 refine WL.rn 5 [] [(6, .bool true), (7, .iface 315 (.agg #[.int .i64 a0, .iface 32 (.int .i64 a0_1)])), (8, .iface 243 (.pointer (some ⟨b1, 0, none⟩)))] ?_
 obtain ⟨⟨r2, r3⟩, h4, hM⟩ := bind_some hM
 dsimp only at hM
 refine WL.callE (X := Unit) [] [] [true] (fun _ => _) (errors_As_calls b1 a0 a0_1 0 _ h4) rfl rfl (fun _ h => h) (by kernel_rfl) (by kernel_rfl) (fun _ => rfl) (fun _ => ?_)
 refine WL.rn 1 [] [(10, .bool r2)] ?_
 refine WP.done ?_
 refine WP.cond r2 rfl rfl (fun c5 => ?_) (fun c5 => ?_)
 ·replace hM := cond_t hM c5
  refine WP.seq (WP.rn [0] [(2, .int .i64 r3)] ?_)
  refine WP.kp [false] ?_
  obtain rfl := Option.some.inj hM
  exact WP.retQ [] []
 ·replace hM := cond_f hM c5
  refine WP.skip (WP.seq (WP.rn [] [(2, .int .i64 0)] ?_))
  refine WP.kp [false] ?_
  obtain rfl := Option.some.inj hM
  exact WP.retQ [] []
def octets_Get.l1 (a2 : Int) (r2 : ByteArray) : Nat → Int → Int → Option (Int × Int)
 | 0, _, _ => none
 | n + 1, x9, x10 =>
  bif decide (x10 < a2) then
   (idxS r2 x10).bind fun t12 =>
   octets_Get.l1 a2 r2 n (bOr .u64 (u64 (x9 * 256)) (u64 t12)) (i64 (x10 + 1))
  else
   some (x9, 0)
def octets_Get.f (k : Nat) (a0 : ByteArray) (a1 : Int) (a2 : Int) : Option (Int × Int) :=
 bif ((decide (a2 < 1)) || (decide (a2 > 8))) then
  some (0, 1)
 else
  (octets_part.f a0 a1 a2).bind fun (r2, r3) =>
  match r3 with
  | none =>
   octets_Get.l1 a2 r2 k 0 0
  | some (q5, q6) =>
   (octets_number.f q5 q6).bind fun r7 =>
   some (0, r7)
theorem octets_Get_calls (k : Nat) (a0 : ByteArray) (a1 : Int) (a2 : Int) (r : Int × Int) (h : octets_Get.f k a0 a1 a2 = some r) : Pure Tryz.prog Glob 78 #[.string a0, .int .i64 a1, .int .i64 a2] (.tuple #[.int .u64 r.1, .int .i64 r.2]) := by
 intro w Z hS
 refine callsS (args := [.string a0, .int .i64 a1, .int .i64 a2]) (L := [(0, .string a0), (1, .int .i64 a1), (2, .int .i64 a2)]) (N := 42) Tryz.func78 hS ?_
 have hM := h
 clear h hS
 unfold octets_Get.f at hM
 refine WP.seq (WP.rn [] [(6, .int .u64 0), (7, .int .i64 0)] ?_)
 refine WP.seq (WP.seq (WP.region (WL.rn 3 [] [(14, .bool (decide (a2 < 1)))] ?_)))
 refine WL.bo 14 (decide (a2 < 1)) 3 [] [] (fun b' => [(17, .bool (b' || (decide (a2 > 8))))]) ?_
 refine WP.done ?_
 refine WP.cond ((decide (a2 < 1)) || (decide (a2 > 8))) rfl rfl (fun c1 => ?_) (fun c1 => ?_)
 ·replace hM := cond_t hM c1
  refine WP.seq (WP.rn [] [(6, .int .u64 0), (7, .int .i64 1)] ?_)
  obtain rfl := Option.some.inj hM
  exact WP.retQ [] []
 ·replace hM := cond_f hM c1
  refine WP.skip (WP.seq (WP.region (WL.rn 3 [] [(19, .string a0), (20, .int .i64 a1), (21, .int .i64 a2)] ?_)))
  obtain ⟨⟨r2, r3⟩, h4, hM⟩ := bind_some hM
  dsimp only at hM
  refine WL.callP [] [] (octets_part_calls a0 a1 a2 _ h4) (fun _ h => h) (by kernel_rfl) (by kernel_rfl) rfl ?_
  refine WL.rn 5 [] [(8, .string r2), (9, Un0.v r3)] ?_
  refine WP.done (WP.seq (WP.seq (WP.region (WL.rn 1 [] [(25, Un0.v r3)] ?_))))
  rcases r3 with _ | ⟨q5, q6⟩
  ·dsimp only at hM
   refine WL.rn 1 [] [(26, .bool false)] ?_
   refine WP.done (WP.no rfl rfl (WP.skip (WP.seq (WP.rn [] [(10, .int .u64 0)] ?_))))
   refine WP.seq (WP.seq (WP.rn [] [(29, .int .i64 a2), (30, .int .i64 0)] ?_))
   refine WP.block (WP.sub [6, 7, 8, 10, 29, 30] (L' := [(6, .int .u64 0), (7, .int .i64 0), (8, .string r2), (10, .int .u64 0), (29, .int .i64 a2), (30, .int .i64 0)]) (by kernel_rfl) ?_)
   refine WP.loop (σ := Int × Int) (fun n st => octets_Get.l1 a2 r2 n st.1 st.2) r (fun st => [(6, .int .u64 0), (7, .int .i64 0), (8, .string r2), (10, .int .u64 st.1), (29, .int .i64 a2), (30, .int .i64 st.2)]) (fun st => Sat w Z [] [] Glob) (st := (0, 0)) (fun n st hM => ?_) hM
   rcases n with _ | n
   ·exact nomatch (show (none : Option _) = some r from hM)
   obtain ⟨x9, x10⟩ := st
   replace hM : octets_Get.l1 a2 r2 (n + 1) x9 x10 = some r := hM
   rw [octets_Get.l1] at hM
   try dsimp only
   refine WP.seq (WP.rn [] [(31, .bool (decide (x10 < a2)))] ?_)
   refine WP.seq ?_
   refine WP.cond (decide (x10 < a2)) rfl rfl (fun c11 => ?_) (fun c11 => ?_)
   ·replace hM := cond_t hM c11
    refine WP.skip (WP.seq (WP.block (WP.seq (WP.rn [] [(11, .int .i64 x10), (32, .int .i64 x10)] ?_))))
    refine WP.region (WL.rn 4 [] [(33, .int .u64 x9), (34, .int .u64 (u64 (x9 * 256))), (35, .string r2), (36, .int .i64 x10)] ?_)
    obtain ⟨t12, h13, hM⟩ := bind_some hM
    refine WL.val (fun _ => run_idxS (s := r2) (k := .i64) (i := x10) (by kernel_rfl) (by kernel_rfl) (by kernel_rfl) h13) (by kernel_rfl) (by kernel_rfl) rfl ?_
    refine WL.rn 3 [] [(10, .int .u64 (bOr .u64 (u64 (x9 * 256)) (u64 t12))), (38, .int .u64 (u64 t12)), (39, .int .u64 (bOr .u64 (u64 (x9 * 256)) (u64 t12)))] ?_
    refine WP.done (WP.leave (WP.rn [] [(30, .int .i64 (i64 (x10 + 1))), (40, .int .i64 (i64 (x10 + 1)))] ?_))
    exact WP.again' [6, 7, 8, 10, 29, 30] (bOr .u64 (u64 (x9 * 256)) (u64 t12), i64 (x10 + 1)) hM (by kernel_rfl) (fun _ h => h.pick [] (by kernel_rfl))
   ·replace hM := cond_f hM c11
    refine WP.exit rfl (WP.seq (WP.rn [] [(6, .int .u64 x9), (7, .int .i64 0)] ?_))
    obtain rfl := Option.some.inj hM
    exact WP.retQ [] []
  ·dsimp only at hM
   refine WL.rn 1 [] [(26, .bool true)] ?_
   refine WP.done (WP.yes rfl rfl (WP.seq (WP.region (WL.rn 1 [] [(27, .iface 315 (.agg #[.int .i64 q5, .iface 32 (.int .i64 q6)]))] ?_))))
   obtain ⟨r7, h8, hM⟩ := bind_some hM
   refine WL.callP [] [] (octets_number_calls q5 q6 _ h8) (fun _ h => h) (by kernel_rfl) (by kernel_rfl) rfl ?_
   refine WL.rn 2 [] [(6, .int .u64 0), (7, .int .i64 r7)] ?_
   refine WP.done ?_
   obtain rfl := Option.some.inj hM
   exact WP.retQ [] []
def ether_reader_get.f (k : Nat) (a0 : ether_reader) (a1 : Int) (a2 : ByteArray) : Option (Int × Un1 × ether_reader) :=
 (octets_Get.f k a0.s a0.at_ a1).bind fun (r1, r2) =>
 bif (r2 != 0) then
  some (0, some (a2, 40), a0)
 else
  some (r1, none, (ether_reader.mk a0.s (i64 (a0.at_ + a1))))
theorem ether_reader_get_calls (k : Nat) (b_0 : Nat) (a0 : ether_reader) (a1 : Int) (a2 : ByteArray) (r : Int × Un1 × ether_reader) (h : ether_reader_get.f k a0 a1 a2 = some r) : Does Tryz.prog 114 #[.pointer (some ⟨b_0, 0, none⟩), .int .i64 a1, .string a2] [(b_0, ether_reader.o a0)] Glob (fun _ : Unit => .tuple #[.int .u64 r.1, Un1.v r.2.1]) (fun _ => [(b_0, ether_reader.o r.2.2)]) (fun _ => []) (fun _ => Glob) := by
 intro w Z hS
 refine callsS (args := [.pointer (some ⟨b_0, 0, none⟩), .int .i64 a1, .string a2]) (L := [(0, .pointer (some ⟨b_0, 0, none⟩)), (1, .int .i64 a1), (2, .string a2)]) (N := 38) Tryz.func114 hS ?_
 have hM := h
 clear h hS
 unfold ether_reader_get.f at hM
 refine WP.seq (WP.rn [] [(6, .int .u64 0), (7, .nilIface)] ?_)
 refine WP.seq (WP.quiet (by kernel_rfl) (by kernel_rfl) ?_)
 refine QL.rn 9 [0, 0] [(14, .string a0.s), (18, .int .i64 a0.at_), (19, .int .i64 a1)] ?_
 obtain ⟨⟨r1, r2⟩, h3, hM⟩ := bind_some hM
 dsimp only at hM
 refine QL.callP [] [] (octets_Get_calls k a0.s a0.at_ a1 _ h3) (fun _ h => h) (by kernel_rfl) (by kernel_rfl) rfl ?_
 refine QL.rn 5 [] [(8, .int .u64 r1), (9, .int .i64 r2)] ?_
 refine QL.done ?_
 refine WP.seq (WP.seq (WP.rn [] [(24, .bool (r2 != 0))] ?_))
 refine WP.cond (r2 != 0) rfl rfl (fun c4 => ?_) (fun c4 => ?_)
 ·replace hM := cond_t hM c4
  refine WP.seq (WP.rn [] [(6, .int .u64 0), (7, .iface 290 (.agg #[.string a2, .iface 32 (.int .i64 40)]))] ?_)
  obtain rfl := Option.some.inj hM
  exact WP.ret [] [] (.tuple #[.int .u64 0, .iface 290 (.agg #[.string a2, .iface 32 (.int .i64 40)])]) (by kernel_rfl) (fun w' hw => ⟨(), rfl, hw.pick [0] (by kernel_rfl)⟩)
 ·replace hM := cond_f hM c4
  refine WP.skip (WP.seq ?_)
  refine WP.rh [0, 0] (fun _ => []) (fun _ => [(0, 1, [.int .i64 (i64 (a0.at_ + a1))])]) (fun _ => []) (fun _ => ?_)
  refine WP.seq (WP.rn [] [(6, .int .u64 r1), (7, .nilIface)] ?_)
  obtain rfl := Option.some.inj hM
  exact WP.ret [] [] (.tuple #[.int .u64 r1, .nilIface]) (by kernel_rfl) (fun w' hw => ⟨(), rfl, hw.pick [0] (by kernel_rfl)⟩)
def ether_reader_tagged.f (k : Nat) (a0 : ether_reader) (a1 : api_Frame) : Option (Int × Un1 × ether_reader × api_Frame) :=
 (ether_reader_get.f k a0 2 (⟨#[116, 97, 103]⟩ : ByteArray)).bind fun (r1, r2, r3) =>
 match r2 with
 | none =>
  (ether_reader_get.f k r3 2 (⟨#[116, 121, 112, 101]⟩ : ByteArray)).bind fun (r7, r8, r9) =>
  match r8 with
  | none =>
   some (i64 r7, none, r9, (api_Frame.mk a1.Dst a1.Src (api_Tag.mk true (Int.fdiv (i64 r1) 8192) ((bAnd .i64 (i64 r1) 4096) != 0) (Int.tmod (i64 r1) 4096)) a1.Type_ a1.Body))
  | some (q11, q12) =>
   some (i64 r7, some (q11, q12), r9, (api_Frame.mk a1.Dst a1.Src (api_Tag.mk true (Int.fdiv (i64 r1) 8192) ((bAnd .i64 (i64 r1) 4096) != 0) (Int.tmod (i64 r1) 4096)) a1.Type_ a1.Body))
 | some (q5, q6) =>
  some (0, some (q5, q6), r3, a1)
theorem ether_reader_tagged_calls (k : Nat) (b_0 : Nat) (b_1 : Nat) (a0 : ether_reader) (a1 : api_Frame) (r : Int × Un1 × ether_reader × api_Frame) (h : ether_reader_tagged.f k a0 a1 = some r) : Does Tryz.prog 115 #[.pointer (some ⟨b_0, 0, none⟩), .pointer (some ⟨b_1, 0, none⟩)] [(b_0, ether_reader.o a0), (b_1, api_Frame.o a1)] Glob (fun _ : Unit => .tuple #[.int .i64 r.1, Un1.v r.2.1]) (fun _ => [(b_0, ether_reader.o r.2.2.1), (b_1, api_Frame.o r.2.2.2)]) (fun _ => []) (fun _ => Glob) := by
 intro w Z hS
 refine callsS (args := [.pointer (some ⟨b_0, 0, none⟩), .pointer (some ⟨b_1, 0, none⟩)]) (L := [(0, .pointer (some ⟨b_0, 0, none⟩)), (1, .pointer (some ⟨b_1, 0, none⟩))]) (N := 39) Tryz.func115 hS ?_
 have hM := h
 clear h hS
 unfold ether_reader_tagged.f at hM
 refine WP.seq (WP.rn [] [(4, .int .i64 0), (5, .nilIface)] ?_)
 refine WP.seq (WP.region ?_)
 refine WL.rn 1 [] [(11, .pointer (some ⟨b_0, 0, none⟩))] ?_
 obtain ⟨⟨r1, r2, r3⟩, h4, hM⟩ := bind_some hM
 dsimp only at hM
 refine WL.callE (X := Unit) [] [] [true, false] (fun _ => _) (ether_reader_get_calls k b_0 a0 2 (⟨#[116, 97, 103]⟩ : ByteArray) _ h4) rfl rfl (fun _ h => h) (by kernel_rfl) (by kernel_rfl) (fun _ => rfl) (fun _ => ?_)
 refine WL.rn 5 [] [(6, .int .u64 r1), (7, Un1.v r2)] ?_
 refine WP.done (WP.seq (WP.seq (WP.region (WL.rn 1 [] [(15, Un1.v r2)] ?_))))
 rcases r2 with _ | ⟨q5, q6⟩
 ·dsimp only at hM
  refine WL.rn 1 [] [(16, .bool false)] ?_
  refine WP.done (WP.no rfl rfl (WP.skip (WP.seq (WP.rn [] [(8, .int .i64 (i64 r1))] ?_))))
  refine WP.seq ?_
  refine WP.rh [1, 1, 1, 1] (fun _ => []) (fun _ => [(1, 2, [.bool true, .int .i64 (Int.fdiv (i64 r1) 8192), .bool ((bAnd .i64 (i64 r1) 4096) != 0), .int .i64 (Int.tmod (i64 r1) 4096)])]) (fun _ => []) (fun _ => ?_)
  refine WP.seq (WP.region ?_)
  refine WL.rn 1 [] [(32, .pointer (some ⟨b_0, 0, none⟩))] ?_
  obtain ⟨⟨r7, r8, r9⟩, h10, hM⟩ := bind_some hM
  dsimp only at hM
  refine WL.callE (X := Unit) [] [] [true, false] (fun _ => _) (ether_reader_get_calls k b_0 r3 2 (⟨#[116, 121, 112, 101]⟩ : ByteArray) _ h10) rfl rfl (fun _ h => h) (by kernel_rfl) (by kernel_rfl) (fun _ => rfl) (fun _ => ?_)
  refine WL.rn 5 [] [(7, Un1.v r8), (9, .int .u64 r7)] ?_
  refine WP.done (WP.seq (WP.rn [] [(4, .int .i64 (i64 r7)), (5, Un1.v r8)] ?_))
  rcases r8 with _ | ⟨q11, q12⟩
  ·dsimp only at hM
   obtain rfl := Option.some.inj hM
   exact WP.ret [] [] (.tuple #[.int .i64 (i64 r7), .nilIface]) (by kernel_rfl) (fun w' hw => ⟨(), rfl, hw.pick [0, 1] (by kernel_rfl)⟩)
  ·dsimp only at hM
   obtain rfl := Option.some.inj hM
   exact WP.ret [] [] (.tuple #[.int .i64 (i64 r7), .iface 290 (.agg #[.string q11, .iface 32 (.int .i64 q12)])]) (by kernel_rfl) (fun w' hw => ⟨(), rfl, hw.pick [0, 1] (by kernel_rfl)⟩)
 ·dsimp only at hM
  refine WL.rn 1 [] [(16, .bool true)] ?_
  refine WP.done (WP.yes rfl rfl (WP.seq (WP.rn [] [(4, .int .i64 0), (5, .iface 290 (.agg #[.string q5, .iface 32 (.int .i64 q6)]))] ?_)))
  obtain rfl := Option.some.inj hM
  exact WP.ret [] [] (.tuple #[.int .i64 0, .iface 290 (.agg #[.string q5, .iface 32 (.int .i64 q6)])]) (by kernel_rfl) (fun w' hw => ⟨(), rfl, hw.pick [0, 1] (by kernel_rfl)⟩)
def ether_reader_body.k1 (a1 : api_Frame) (a2 : Int) (t1 : ByteArray) (x4 : Bool) : Option (Un1 × api_Frame) :=
 bif x4 then
  some (some ((⟨#[116, 121, 112, 101]⟩ : ByteArray), 41), a1)
 else
  bif decide (a2 > 1500) then
   some (none, (api_Frame.mk a1.Dst a1.Src a1.Tag a2 t1))
  else
   bif decide (a2 > (t1.size : Int)) then
    some (some ((⟨#[98, 111, 100, 121]⟩ : ByteArray), 40), a1)
   else
    (sliceS t1 0 a2).bind fun t8 =>
    some (none, (api_Frame.mk a1.Dst a1.Src a1.Tag a1.Type_ t8))
def ether_reader_body.f (a0 : ether_reader) (a1 : api_Frame) (a2 : Int) : Option (Un1 × api_Frame) :=
 (sliceS a0.s a0.at_ (a0.s.size : Int)).bind fun t1 =>
 bif (a2 == 33024) then
  ether_reader_body.k1 a1 a2 t1 true
 else
  ether_reader_body.k1 a1 a2 t1 ((decide (a2 > 1500)) && (decide (a2 < 1536)))
theorem ether_reader_body_calls (b_0 : Nat) (b_1 : Nat) (a0 : ether_reader) (a1 : api_Frame) (a2 : Int) (r : Un1 × api_Frame) (h : ether_reader_body.f a0 a1 a2 = some r) : Does Tryz.prog 116 #[.pointer (some ⟨b_0, 0, none⟩), .pointer (some ⟨b_1, 0, none⟩), .int .i64 a2] [(b_0, ether_reader.o a0), (b_1, api_Frame.o a1)] Glob (fun _ : Unit => Un1.v r.1) (fun _ => [(b_0, ether_reader.o a0), (b_1, api_Frame.o r.2)]) (fun _ => []) (fun _ => Glob) := by
 intro w Z hS
 refine callsS (args := [.pointer (some ⟨b_0, 0, none⟩), .pointer (some ⟨b_1, 0, none⟩), .int .i64 a2]) (L := [(0, .pointer (some ⟨b_0, 0, none⟩)), (1, .pointer (some ⟨b_1, 0, none⟩)), (2, .int .i64 a2)]) (N := 55) Tryz.func116 hS ?_
 have hM := h
 clear h hS
 unfold ether_reader_body.f at hM
 refine WP.seq (WP.rn [] [(6, .nilIface)] ?_)
 refine WP.seq (WP.quiet (by kernel_rfl) (by kernel_rfl) ?_)
 refine QL.rn 8 [0, 0] [(11, .string a0.s), (15, .int .i64 a0.at_)] ?_
 obtain ⟨t1, h2, hM⟩ := bind_some hM
 refine QL.val (fun _ => run_sliceS_lo (s := a0.s) (kl := .i64) (l := a0.at_) (by kernel_rfl) (by kernel_rfl) (by kernel_rfl) h2) (by kernel_rfl) (by kernel_rfl) rfl ?_
 refine QL.rn 1 [] [(7, .string t1)] ?_
 refine QL.done ?_
 refine WP.seq (WP.block (WP.seq (WP.region (WL.rn 3 [] [(20, .bool (a2 == 33024))] ?_))))
 refine WL.join (σ := Bool) 7 (fun st => ether_reader_body.k1 a1 a2 t1 st = some r) (fun st => [(1, .pointer (some ⟨b_1, 0, none⟩)), (2, .int .i64 a2), (6, .nilIface), (7, .string t1), (27, .bool st)]) (fun st => Sat w Z [(b_0, ether_reader.o a0), (b_1, api_Frame.o a1)] [] Glob) (fun st hM => ?_) (fun K1 => ?_)
 ·
  obtain ⟨x4, rfl⟩ : ∃ y, y = st := ⟨st, rfl⟩
  replace hM : ether_reader_body.k1 a1 a2 t1 x4 = some r := hM
  unfold ether_reader_body.k1 at hM
  try dsimp only
  refine WL.rn 1 [] [(17, .bool x4)] ?_
  refine WP.done ?_
  refine WP.cond x4 rfl rfl (fun c5 => ?_) (fun c5 => ?_)
  ·replace hM := cond_t hM c5
   refine WP.seq ?_
   refine WP.rn [] [(6, .iface 290 (.agg #[.string (⟨#[116, 121, 112, 101]⟩ : ByteArray), .iface 32 (.int .i64 41)]))] ?_
   obtain rfl := Option.some.inj hM
   exact WP.ret [] [] (.iface 290 (.agg #[.string (⟨#[116, 121, 112, 101]⟩ : ByteArray), .iface 32 (.int .i64 41)])) (by kernel_rfl) (fun w' hw => ⟨(), rfl, hw.pick [0, 1] (by kernel_rfl)⟩)
  ·replace hM := cond_f hM c5
   refine WP.seq (WP.rn [] [(31, .bool (decide (a2 > 1500)))] ?_)
   refine WP.cond (decide (a2 > 1500)) rfl rfl (fun c6 => ?_) (fun c6 => ?_)
   ·replace hM := cond_t hM c6
    refine WP.seq ?_
    refine WP.rh [1, 1] (fun _ => []) (fun _ => [(1, 6, [.int .i64 a2, .string t1])]) (fun _ => []) (fun _ => ?_)
    refine WP.seq (WP.rn [] [(6, .nilIface)] ?_)
    obtain rfl := Option.some.inj hM
    exact WP.ret [] [] (.nilIface) (by kernel_rfl) (fun w' hw => ⟨(), rfl, hw.pick [0, 1] (by kernel_rfl)⟩)
   ·replace hM := cond_f hM c6
    refine WP.skip (WP.leave (WP.seq (WP.seq (WP.rn [] [(45, .bool (decide (a2 > (t1.size : Int))))] ?_))))
    refine WP.cond (decide (a2 > (t1.size : Int))) rfl rfl (fun c7 => ?_) (fun c7 => ?_)
    ·replace hM := cond_t hM c7
     refine WP.seq ?_
     refine WP.rn [] [(6, .iface 290 (.agg #[.string (⟨#[98, 111, 100, 121]⟩ : ByteArray), .iface 32 (.int .i64 40)]))] ?_
     obtain rfl := Option.some.inj hM
     exact WP.ret [] [] (.iface 290 (.agg #[.string (⟨#[98, 111, 100, 121]⟩ : ByteArray), .iface 32 (.int .i64 40)])) (by kernel_rfl) (fun w' hw => ⟨(), rfl, hw.pick [0, 1] (by kernel_rfl)⟩)
    ·replace hM := cond_f hM c7
     refine WP.skip (WP.seq (WP.region ?_))
     refine WL.rn 3 [] [(49, .pointer (some ⟨b_1, 0, none⟩)), (50, .string t1), (51, .int .i64 a2)] ?_
     obtain ⟨t8, h9, hM⟩ := bind_some hM
     refine WL.val (fun _ => run_sliceS_hi (s := t1) (kh := .i64) (h := a2) (by kernel_rfl) (by kernel_rfl) (by kernel_rfl) h9) (by kernel_rfl) (by kernel_rfl) rfl ?_
     refine WL.rh 3 [1] (fun _ => []) (fun _ => [(1, 7, [.string t8])]) (fun _ => []) (fun _ => ?_)
     refine WP.done (WP.seq (WP.rn [] [(6, .nilIface)] ?_))
     obtain rfl := Option.some.inj hM
     exact WP.ret [] [] (.nilIface) (by kernel_rfl) (fun w' hw => ⟨(), rfl, hw.pick [0, 1] (by kernel_rfl)⟩)
 ·
  refine WL.sp 20 (a2 == 33024) (fun c3 => ?_) (fun c3 => ?_)
  ·replace hM := cond_t hM c3
   refine WL.rn 7 [] [(27, .bool true)] ?_
   exact WL.sub [1, 2, 6, 7, 27] (by kernel_rfl) (WL.pick [0, 1] (by kernel_rfl) (by kernel_rfl) (K1 true hM))
  ·replace hM := cond_f hM c3
   refine WL.rn 3 [] [(23, .bool (decide (a2 > 1500)))] ?_
   refine WL.bo 23 (decide (a2 > 1500)) 3 [] [] (fun b' => [(26, .bool (b' && (decide (a2 < 1536))))]) ?_
   refine WL.rn 1 [] [(27, .bool ((decide (a2 > 1500)) && (decide (a2 < 1536))))] ?_
   exact WL.sub [1, 2, 6, 7, 27] (by kernel_rfl) (WL.pick [0, 1] (by kernel_rfl) (by kernel_rfl) (K1 ((decide (a2 > 1500)) && (decide (a2 < 1536))) hM))
def ether_reader_frame.k1 (x29 : Un1) (x30 : Int) (x31 : ByteArray) (x32 : Int) (x33 : Int) (x34 : Int) (x35 : Bool) (x36 : Int) (x37 : Bool) (x38 : Int) (x39 : Int) (x40 : ByteArray) : Option (api_Frame × Un1 × ether_reader) :=
 match x29 with
 | none =>
  (ether_reader_body.f (ether_reader.mk x31 x32) (api_Frame.mk x33 x34 (api_Tag.mk x35 x36 x37 x38) x39 x40) x30).bind fun (r43, r44) =>
  match r43 with
  | none =>
   some (r44, none, (ether_reader.mk x31 x32))
  | some (q46, q47) =>
   some (r44, some (q46, q47), (ether_reader.mk x31 x32))
 | some (q41, q42) =>
  some ((api_Frame.mk x33 x34 (api_Tag.mk x35 x36 x37 x38) x39 x40), some (q41, q42), (ether_reader.mk x31 x32))
def ether_reader_frame.f (k : Nat) (a0 : ether_reader) : Option (api_Frame × Un1 × ether_reader) :=
 (ether_reader_get.f k a0 6 (⟨#[116, 111]⟩ : ByteArray)).bind fun (r3, r4, r5) =>
 match r4 with
 | none =>
  (ether_reader_get.f k r5 6 (⟨#[102, 114, 111, 109]⟩ : ByteArray)).bind fun (r9, r10, r11) =>
  match r10 with
  | none =>
   (ether_reader_get.f k r11 2 (⟨#[116, 121, 112, 101]⟩ : ByteArray)).bind fun (r15, r16, r17) =>
   match r16 with
   | none =>
    bif ((i64 r15) == 33024) then
     (ether_reader_tagged.f k r17 (api_Frame.mk r3 r9 (api_Tag.mk false 0 false 0) 0 (⟨#[]⟩ : ByteArray))).bind fun (r20, r21, r22, r23) =>
     match r21 with
     | none =>
      ether_reader_frame.k1 none r20 r22.s r22.at_ r23.Dst r23.Src r23.Tag.Has r23.Tag.Pri r23.Tag.Dei r23.Tag.Vid r23.Type_ r23.Body
     | some (q27, q28) =>
      ether_reader_frame.k1 (some (q27, q28)) r20 r22.s r22.at_ r23.Dst r23.Src r23.Tag.Has r23.Tag.Pri r23.Tag.Dei r23.Tag.Vid r23.Type_ r23.Body
    else
     ether_reader_frame.k1 none (i64 r15) r17.s r17.at_ r3 r9 false 0 false 0 0 (⟨#[]⟩ : ByteArray)
   | some (q25, q26) =>
    ether_reader_frame.k1 (some (q25, q26)) (i64 r15) r17.s r17.at_ r3 r9 false 0 false 0 0 (⟨#[]⟩ : ByteArray)
  | some (q13, q14) =>
   some ((api_Frame.mk r3 r9 (api_Tag.mk false 0 false 0) 0 (⟨#[]⟩ : ByteArray)), some (q13, q14), r11)
 | some (q7, q8) =>
  some ((api_Frame.mk r3 0 (api_Tag.mk false 0 false 0) 0 (⟨#[]⟩ : ByteArray)), some (q7, q8), r5)
theorem ether_reader_frame_calls (k : Nat) (b_0 : Nat) (a0 : ether_reader) (r : api_Frame × Un1 × ether_reader) (h : ether_reader_frame.f k a0 = some r) : Does Tryz.prog 67 #[.pointer (some ⟨b_0, 0, none⟩)] [(b_0, ether_reader.o a0)] Glob (fun _ : Unit => .tuple #[api_Frame.v r.1, Un1.v r.2.1]) (fun _ => [(b_0, ether_reader.o r.2.2)]) (fun _ => []) (fun _ => Glob) := by
 intro w Z hS
 refine callsS (args := [.pointer (some ⟨b_0, 0, none⟩)]) (L := [(0, .pointer (some ⟨b_0, 0, none⟩))]) (N := 56) Tryz.func67 hS ?_
 have hM := h
 clear h hS
 unfold ether_reader_frame.f at hM
 refine WP.seq ?_
 refine WP.rh [] (fun b1 => [(2, .pointer (some ⟨b1, 0, none⟩)), (3, .nilIface)]) (fun b1 => []) (fun b1 => [(b1, .cells #[.int .u64 0, .int .u64 0, .bool false, .int .i64 0, .bool false, .int .i64 0, .int .i64 0, .string (⟨#[]⟩ : ByteArray)] 40 (0, 0))]) (fun b1 => ?_)
 refine WP.seq ?_
 refine WP.rh [] (fun b2 => [(4, .pointer (some ⟨b2, 0, none⟩))]) (fun b2 => []) (fun b2 => [(b2, .cells #[.int .u64 0, .int .u64 0, .bool false, .int .i64 0, .bool false, .int .i64 0, .int .i64 0, .string (⟨#[]⟩ : ByteArray)] 40 (0, 0))]) (fun b2 => ?_)
 refine WP.seq (WP.rn [] [(5, .nilIface)] ?_)
 refine WP.seq (WP.seq (WP.region ?_))
 refine WL.rn 1 [] [(10, .pointer (some ⟨b_0, 0, none⟩))] ?_
 obtain ⟨⟨r3, r4, r5⟩, h6, hM⟩ := bind_some hM
 dsimp only at hM
 refine WL.callE (X := Unit) [] [] [true, false, false] (fun _ => _) (ether_reader_get_calls k b_0 a0 6 (⟨#[116, 111]⟩ : ByteArray) _ h6) rfl rfl (fun _ h => h) (by kernel_rfl) (by kernel_rfl) (fun _ => rfl) (fun _ => ?_)
 refine WL.rh 6 [2] (fun _ => [(5, Un1.v r4)]) (fun _ => [(2, 0, [.int .u64 r3])]) (fun _ => []) (fun _ => ?_)
 refine WP.done (WP.seq (WP.region (WL.rn 1 [] [(15, Un1.v r4)] ?_)))
 rcases r4 with _ | ⟨q7, q8⟩
 ·dsimp only at hM
  refine WL.rn 1 [] [(16, .bool false)] ?_
  refine WP.done (WP.no rfl rfl (WP.skip (WP.seq (WP.seq (WP.region ?_)))))
  refine WL.rn 1 [] [(20, .pointer (some ⟨b_0, 0, none⟩))] ?_
  obtain ⟨⟨r9, r10, r11⟩, h12, hM⟩ := bind_some hM
  dsimp only at hM
  refine WL.callE (X := Unit) [] [] [true, false, false] (fun _ => _) (ether_reader_get_calls k b_0 r5 6 (⟨#[102, 114, 111, 109]⟩ : ByteArray) _ h12) rfl rfl (fun _ h => h) (by kernel_rfl) (by kernel_rfl) (fun _ => rfl) (fun _ => ?_)
  refine WL.rh 6 [2] (fun _ => [(5, Un1.v r10)]) (fun _ => [(2, 1, [.int .u64 r9])]) (fun _ => []) (fun _ => ?_)
  refine WP.done (WP.seq (WP.region (WL.rn 1 [] [(25, Un1.v r10)] ?_)))
  rcases r10 with _ | ⟨q13, q14⟩
  ·dsimp only at hM
   refine WL.rn 1 [] [(26, .bool false)] ?_
   refine WP.done (WP.no rfl rfl (WP.skip (WP.seq (WP.region ?_))))
   refine WL.rn 1 [] [(30, .pointer (some ⟨b_0, 0, none⟩))] ?_
   obtain ⟨⟨r15, r16, r17⟩, h18, hM⟩ := bind_some hM
   dsimp only at hM
   refine WL.callE (X := Unit) [] [] [true, false, false] (fun _ => _) (ether_reader_get_calls k b_0 r11 2 (⟨#[116, 121, 112, 101]⟩ : ByteArray) _ h18) rfl rfl (fun _ h => h) (by kernel_rfl) (by kernel_rfl) (fun _ => rfl) (fun _ => ?_)
   refine WL.rn 5 [] [(5, Un1.v r16), (6, .int .u64 r15)] ?_
   refine WP.done (WP.seq (WP.rn [] [(7, .int .i64 (i64 r15))] ?_))
   refine WP.seqJoin (σ := Un1 × Int × ByteArray × Int × Int × Int × Bool × Int × Bool × Int × Int × ByteArray) (fun st => ether_reader_frame.k1 st.1 st.2.1 st.2.2.1 st.2.2.2.1 st.2.2.2.2.1 st.2.2.2.2.2.1 st.2.2.2.2.2.2.1 st.2.2.2.2.2.2.2.1 st.2.2.2.2.2.2.2.2.1 st.2.2.2.2.2.2.2.2.2.1 st.2.2.2.2.2.2.2.2.2.2.1 st.2.2.2.2.2.2.2.2.2.2.2 = some r) (fun st => [(0, .pointer (some ⟨b_0, 0, none⟩)), (2, .pointer (some ⟨b1, 0, none⟩)), (3, .nilIface), (4, .pointer (some ⟨b2, 0, none⟩)), (5, Un1.v st.1), (7, .int .i64 st.2.1)]) (fun st => Sat w Z [(b_0, .cells #[.string st.2.2.1, .int .i64 st.2.2.2.1] 149 (0, 0)), (b2, .cells #[.int .u64 st.2.2.2.2.1, .int .u64 st.2.2.2.2.2.1, .bool st.2.2.2.2.2.2.1, .int .i64 st.2.2.2.2.2.2.2.1, .bool st.2.2.2.2.2.2.2.2.1, .int .i64 st.2.2.2.2.2.2.2.2.2.1, .int .i64 st.2.2.2.2.2.2.2.2.2.2.1, .string st.2.2.2.2.2.2.2.2.2.2.2] 40 (0, 0)), (b1, .cells #[.int .u64 0, .int .u64 0, .bool false, .int .i64 0, .bool false, .int .i64 0, .int .i64 0, .string (⟨#[]⟩ : ByteArray)] 40 (0, 0))] [] Glob) (fun st hM => ?_) (fun K1 => ?_)
   ·
    obtain ⟨x29, x30, x31, x32, x33, x34, x35, x36, x37, x38, x39, x40⟩ := st
    replace hM : ether_reader_frame.k1 x29 x30 x31 x32 x33 x34 x35 x36 x37 x38 x39 x40 = some r := hM
    unfold ether_reader_frame.k1 at hM
    try dsimp only
    refine WP.seq (WP.seq (WP.region (WL.rn 1 [] [(47, Un1.v x29)] ?_)))
    rcases x29 with _ | ⟨q41, q42⟩
    ·dsimp only at hM
     refine WL.rn 1 [] [(48, .bool false)] ?_
     refine WP.done (WP.no rfl rfl (WP.skip (WP.seq (WP.region ?_))))
     refine WL.rn 2 [] [(51, .pointer (some ⟨b_0, 0, none⟩)), (52, .int .i64 x30)] ?_
     obtain ⟨⟨r43, r44⟩, h45, hM⟩ := bind_some hM
     dsimp only at hM
     refine WL.callE (X := Unit) [] [] [true, true, false] (fun _ => _) (ether_reader_body_calls b_0 b2 (ether_reader.mk x31 x32) (api_Frame.mk x33 x34 (api_Tag.mk x35 x36 x37 x38) x39 x40) x30 _ h45) rfl rfl (fun _ h => h) (by kernel_rfl) (by kernel_rfl) (fun _ => rfl) (fun _ => ?_)
     refine WL.rn 1 [] [(8, Un1.v r43)] ?_
     refine WP.done (WP.seq ?_)
     refine WP.rh [1, 1, 1, 1, 1, 1, 1, 1, 2, 2, 2, 2, 2, 2, 2, 2] (fun _ => [(3, Un1.v r43)]) (fun _ => [(2, 0, [.int .u64 r44.Dst, .int .u64 r44.Src, .bool r44.Tag.Has, .int .i64 r44.Tag.Pri, .bool r44.Tag.Dei, .int .i64 r44.Tag.Vid, .int .i64 r44.Type_, .string r44.Body])]) (fun _ => []) (fun _ => ?_)
     refine WP.kp [true, false, true] ?_
     rcases r43 with _ | ⟨q46, q47⟩
     ·dsimp only at hM
      obtain rfl := Option.some.inj hM
      exact WP.ret [1, 1, 1, 1, 1, 1, 1, 1] [b1, b1, b1, b1, b1, b1, b1, b1] (.tuple #[api_Frame.v r44, .nilIface]) (by kernel_rfl) (fun w' hw => ⟨(), rfl, hw.pick [0] (by kernel_rfl)⟩)
     ·dsimp only at hM
      obtain rfl := Option.some.inj hM
      exact WP.ret [1, 1, 1, 1, 1, 1, 1, 1] [b1, b1, b1, b1, b1, b1, b1, b1] (.tuple #[api_Frame.v r44, .iface 290 (.agg #[.string q46, .iface 32 (.int .i64 q47)])]) (by kernel_rfl) (fun w' hw => ⟨(), rfl, hw.pick [0] (by kernel_rfl)⟩)
    ·dsimp only at hM
     refine WL.rn 1 [] [(48, .bool true)] ?_
     refine WP.done (WP.yes rfl rfl (WP.seq ?_))
     refine WP.rh [1, 1, 1, 1, 1, 1, 1, 1, 2, 2, 2, 2, 2, 2, 2, 2] (fun _ => [(3, .iface 290 (.agg #[.string q41, .iface 32 (.int .i64 q42)]))]) (fun _ => [(2, 0, [.int .u64 x33, .int .u64 x34, .bool x35, .int .i64 x36, .bool x37, .int .i64 x38, .int .i64 x39, .string x40])]) (fun _ => []) (fun _ => ?_)
     obtain rfl := Option.some.inj hM
     exact WP.ret [2, 2, 2, 2, 2, 2, 2, 2] [b1, b1, b1, b1, b1, b1, b1, b1] (.tuple #[.agg #[.int .u64 x33, .int .u64 x34, .bool x35, .int .i64 x36, .bool x37, .int .i64 x38, .int .i64 x39, .string x40], .iface 290 (.agg #[.string q41, .iface 32 (.int .i64 q42)])]) (by kernel_rfl) (fun w' hw => ⟨(), rfl, hw.pick [0] (by kernel_rfl)⟩)
   ·
    refine WP.seq (WP.region (WL.rn 1 [] [(36, Un1.v r16)] ?_))
    rcases r16 with _ | ⟨q25, q26⟩
    ·dsimp only at hM
     refine WL.rn 5 [] [(41, .bool ((i64 r15) == 33024))] ?_
     refine WP.done ?_
     refine WP.cond ((i64 r15) == 33024) rfl rfl (fun c19 => ?_) (fun c19 => ?_)
     ·replace hM := cond_t hM c19
      refine WP.region ?_
      refine WL.rn 1 [] [(43, .pointer (some ⟨b_0, 0, none⟩))] ?_
      obtain ⟨⟨r20, r21, r22, r23⟩, h24, hM⟩ := bind_some hM
      dsimp only at hM
      refine WL.callE (X := Unit) [] [] [true, false, true] (fun _ => _) (ether_reader_tagged_calls k b_0 b2 r17 (api_Frame.mk r3 r9 (api_Tag.mk false 0 false 0) 0 (⟨#[]⟩ : ByteArray)) _ h24) rfl rfl (fun _ h => h) (by kernel_rfl) (by kernel_rfl) (fun _ => rfl) (fun _ => ?_)
      refine WL.rn 5 [] [(5, Un1.v r21), (7, .int .i64 r20)] ?_
      refine WP.done ?_
      rcases r21 with _ | ⟨q27, q28⟩
      ·dsimp only at hM
       exact WP.sub [0, 2, 3, 4, 5, 7] (by kernel_rfl) (WP.pick [0, 1, 2] (by kernel_rfl) (by kernel_rfl) (K1 (none, r20, r22.s, r22.at_, r23.Dst, r23.Src, r23.Tag.Has, r23.Tag.Pri, r23.Tag.Dei, r23.Tag.Vid, r23.Type_, r23.Body) hM))
      ·dsimp only at hM
       exact WP.sub [0, 2, 3, 4, 5, 7] (by kernel_rfl) (WP.pick [0, 1, 2] (by kernel_rfl) (by kernel_rfl) (K1 (some (q27, q28), r20, r22.s, r22.at_, r23.Dst, r23.Src, r23.Tag.Has, r23.Tag.Pri, r23.Tag.Dei, r23.Tag.Vid, r23.Type_, r23.Body) hM))
     ·replace hM := cond_f hM c19
      refine WP.skip ?_
      exact WP.sub [0, 2, 3, 4, 5, 7] (by kernel_rfl) (WP.pick [0, 2, 1] (by kernel_rfl) (by kernel_rfl) (K1 (none, i64 r15, r17.s, r17.at_, r3, r9, false, 0, false, 0, 0, (⟨#[]⟩ : ByteArray)) hM))
    ·dsimp only at hM
     refine WL.rn 5 [] [(41, .bool false)] ?_
     refine WP.done (WP.no rfl rfl (WP.skip ?_))
     exact WP.sub [0, 2, 3, 4, 5, 7] (by kernel_rfl) (WP.pick [0, 2, 1] (by kernel_rfl) (by kernel_rfl) (K1 (some (q25, q26), i64 r15, r17.s, r17.at_, r3, r9, false, 0, false, 0, 0, (⟨#[]⟩ : ByteArray)) hM))
  ·dsimp only at hM
   refine WL.rn 1 [] [(26, .bool true)] ?_
   refine WP.done (WP.yes rfl rfl (WP.seq ?_))
   refine WP.rh [2, 2, 2, 2, 2, 2, 2, 2, 1, 1, 1, 1, 1, 1, 1, 1] (fun _ => [(3, .iface 290 (.agg #[.string q13, .iface 32 (.int .i64 q14)]))]) (fun _ => [(1, 0, [.int .u64 r3, .int .u64 r9])]) (fun _ => []) (fun _ => ?_)
   obtain rfl := Option.some.inj hM
   exact WP.ret [1, 1, 1, 1, 1, 1, 1, 1] [b1, b1, b1, b1, b1, b1, b1, b1] (.tuple #[.agg #[.int .u64 r3, .int .u64 r9, .bool false, .int .i64 0, .bool false, .int .i64 0, .int .i64 0, .string (⟨#[]⟩ : ByteArray)], .iface 290 (.agg #[.string q13, .iface 32 (.int .i64 q14)])]) (by kernel_rfl) (fun w' hw => ⟨(), rfl, hw.pick [0] (by kernel_rfl)⟩)
 ·dsimp only at hM
  refine WL.rn 1 [] [(16, .bool true)] ?_
  refine WP.done (WP.yes rfl rfl (WP.seq ?_))
  refine WP.rh [2, 2, 2, 2, 2, 2, 2, 2, 1, 1, 1, 1, 1, 1, 1, 1] (fun _ => [(3, .iface 290 (.agg #[.string q7, .iface 32 (.int .i64 q8)]))]) (fun _ => [(1, 0, [.int .u64 r3])]) (fun _ => []) (fun _ => ?_)
  obtain rfl := Option.some.inj hM
  exact WP.ret [1, 1, 1, 1, 1, 1, 1, 1] [b1, b1, b1, b1, b1, b1, b1, b1] (.tuple #[.agg #[.int .u64 r3, .int .u64 0, .bool false, .int .i64 0, .bool false, .int .i64 0, .int .i64 0, .string (⟨#[]⟩ : ByteArray)], .iface 290 (.agg #[.string q7, .iface 32 (.int .i64 q8)])]) (by kernel_rfl) (fun w' hw => ⟨(), rfl, hw.pick [0] (by kernel_rfl)⟩)
def errors_Is.f (a1 : Int) : Option (Bool) :=
 some false
theorem errors_Is_calls (a1 : Int) (r : Bool) (h : errors_Is.f a1 = some r) : Pure Tryz.prog Glob 68 #[.nilIface, .iface 32 (.int .i64 a1)] (.bool r) := by
 intro w Z hS
 refine callsS (args := [.nilIface, .iface 32 (.int .i64 a1)]) (L := [(0, .nilIface), (1, .iface 32 (.int .i64 a1))]) (N := 22) Tryz.func68 hS ?_
 have hM := h
 clear h hS
 unfold errors_Is.f at hM
 refine WP.seq (WP.rn [] [(4, .bool false)] ?_)
 refine WP.seq (WP.seq (WP.rn [] [(11, .bool true)] ?_))
 refine WP.yes rfl rfl (WP.seq (WP.rn [] [(4, .bool false)] ?_))
 obtain rfl := Option.some.inj hM
 exact WP.retQ [] []
def ether_odd_Unwrap.f (a0 : ByteArray) (a0_1 : Int) : Option (Int) :=
 some a0_1
theorem ether_odd_Unwrap_calls (a0 : ByteArray) (a0_1 : Int) (r : Int) (h : ether_odd_Unwrap.f a0 a0_1 = some r) : Pure Tryz.prog Glob 189 #[.agg #[.string a0, .iface 32 (.int .i64 a0_1)]] (.iface 32 (.int .i64 r)) := by
 intro w Z hS
 refine callsS (args := [.agg #[.string a0, .iface 32 (.int .i64 a0_1)]]) (L := [(0, .agg #[.string a0, .iface 32 (.int .i64 a0_1)])]) (N := 5) Tryz.func189 hS ?_
 have hM := h
 clear h hS
 unfold ether_odd_Unwrap.f at hM
 refine WP.seq ?_
 refine WP.rh [] (fun b1 => [(1, .pointer (some ⟨b1, 0, none⟩)), (2, .nilIface)]) (fun b1 => []) (fun b1 => [(b1, .cells #[.string a0, .iface 32 (.int .i64 a0_1)] 290 (0, 0))]) (fun b1 => ?_)
 refine WP.seq (WP.rn [0] [(2, .iface 32 (.int .i64 a0_1))] ?_)
 refine WP.kp [false] ?_
 obtain rfl := Option.some.inj hM
 exact WP.retQ [] []
def errors_is.f (a0 : ByteArray) (a0_1 : Int) (a1 : Int) (a2 : Bool) : Option (Bool) :=
 (ether_odd_Unwrap.f a0 a0_1).bind fun r2 =>
 bif (a2 && (r2 == a1)) then
  some true
 else
  some false
theorem errors_is_calls (a0 : ByteArray) (a0_1 : Int) (a1 : Int) (a2 : Bool) (r : Bool) (h : errors_is.f a0 a0_1 a1 a2 = some r) : Pure Tryz.prog Glob 118 #[.iface 290 (.agg #[.string a0, .iface 32 (.int .i64 a0_1)]), .iface 32 (.int .i64 a1), .bool a2] (.bool r) := by
 intro w Z hS
 refine callsS (args := [.iface 290 (.agg #[.string a0, .iface 32 (.int .i64 a0_1)]), .iface 32 (.int .i64 a1), .bool a2]) (L := [(0, .iface 290 (.agg #[.string a0, .iface 32 (.int .i64 a0_1)])), (1, .iface 32 (.int .i64 a1)), (2, .bool a2)]) (N := 54) Tryz.func118 hS ?_
 have hM := h
 clear h hS
 unfold errors_is.f at hM
 refine WP.seq (WP.rn [] [(6, .bool false)] ?_)
 refine WP.block (WP.unroll 40 ?_)
 refine WP.block (WP.seq (WP.seq (WP.region (WL.rn 2 [] [(14, .bool a2), (15, .bool a2)] ?_))))
 refine WL.bo 15 a2 4 [] [] (fun b' => [(19, .bool false)]) ?_
 refine WP.done (WP.no rfl rfl (WP.skip (WP.seq (WP.seq (WP.region (WL.rn 1 [] [(21, .iface 290 (.agg #[.string a0, .iface 32 (.int .i64 a0_1)]))] ?_))))))
 refine WL.val (fun _ => run_assertLacks (t := 290) (v := .agg #[.string a0, .iface 32 (.int .i64 a0_1)]) (z := .nilIface) (by kernel_rfl) (by kernel_rfl) (by kernel_rfl)) (by kernel_rfl) (by kernel_rfl) rfl ?_
 refine WL.rn 5 [] [(7, .nilIface), (8, .bool false), (20, .tuple #[.nilIface, .bool false]), (23, .nilIface), (24, .bool false)] ?_
 refine WP.done (WP.seq (WP.rn [] [(25, .bool false), (26, .bool false), (27, .tuple #[]), (28, .tuple #[]), (29, .tuple #[]), (30, .bool false)] ?_))
 refine WP.no rfl rfl (WP.skip (WP.seq (WP.rn [] [(31, .iface 290 (.agg #[.string a0, .iface 32 (.int .i64 a0_1)]))] ?_)))
 refine WP.block (WP.seq (WP.region ?_))
 refine WL.val (fun _ => run_assertHas (t := 290) (v := .agg #[.string a0, .iface 32 (.int .i64 a0_1)]) (by kernel_rfl) (by kernel_rfl)) (by kernel_rfl) (by kernel_rfl) rfl ?_
 refine WL.rn 2 [] [(33, .bool true), (34, .iface 290 (.agg #[.string a0, .iface 32 (.int .i64 a0_1)]))] ?_
 refine WP.done (WP.yes rfl rfl (WP.seq (WP.rn [] [(9, .iface 290 (.agg #[.string a0, .iface 32 (.int .i64 a0_1)]))] ?_)))
 refine WP.seq (WP.region (WL.rn 1 [] [(35, .iface 290 (.agg #[.string a0, .iface 32 (.int .i64 a0_1)]))] ?_))
 obtain ⟨r2, h3, hM⟩ := bind_some hM
 refine WL.callP [] [] (ether_odd_Unwrap_calls a0 a0_1 _ h3) (fun _ h => h) (by kernel_rfl) (by kernel_rfl) rfl ?_
 refine WL.rn 1 [] [(0, .iface 32 (.int .i64 r2))] ?_
 refine WP.done (WP.seq (WP.rn [] [(37, .iface 32 (.int .i64 r2)), (38, .bool false)] ?_))
 refine WP.no rfl rfl (WP.skip (WP.leave (WP.leave (WP.round ?_))))
 refine WP.block (WP.seq (WP.seq (WP.region (WL.rn 2 [] [(14, .bool a2), (15, .bool a2)] ?_))))
 refine WL.bo 15 a2 4 [] [] (fun b' => [(19, .bool (b' && (r2 == a1)))]) ?_
 refine WP.done ?_
 refine WP.cond (a2 && (r2 == a1)) rfl rfl (fun c4 => ?_) (fun c4 => ?_)
 ·replace hM := cond_t hM c4
  refine WP.seq (WP.rn [] [(6, .bool true)] ?_)
  obtain rfl := Option.some.inj hM
  exact WP.retQ [] []
 ·replace hM := cond_f hM c4
  refine WP.skip (WP.seq (WP.seq (WP.region (WL.rn 1 [] [(21, .iface 32 (.int .i64 r2))] ?_))))
  refine WL.val (fun _ => run_assertLacks (t := 32) (v := .int .i64 r2) (z := .nilIface) (by kernel_rfl) (by kernel_rfl) (by kernel_rfl)) (by kernel_rfl) (by kernel_rfl) rfl ?_
  refine WL.rn 5 [] [(7, .nilIface), (8, .bool false), (20, .tuple #[.nilIface, .bool false]), (23, .nilIface), (24, .bool false)] ?_
  refine WP.done (WP.seq (WP.rn [] [(25, .bool false), (26, .bool false), (27, .tuple #[]), (28, .tuple #[]), (29, .tuple #[]), (30, .bool false)] ?_))
  refine WP.no rfl rfl (WP.skip (WP.seq (WP.rn [] [(31, .iface 32 (.int .i64 r2))] ?_)))
  refine WP.block (WP.seq (WP.region ?_))
  refine WL.val (fun _ => run_assertLacks (t := 32) (v := .int .i64 r2) (z := .nilIface) (by kernel_rfl) (by kernel_rfl) (by kernel_rfl)) (by kernel_rfl) (by kernel_rfl) rfl ?_
  refine WL.rn 2 [] [(33, .bool false), (34, .nilIface)] ?_
  refine WP.done (WP.no rfl rfl (WP.seq (WP.region ?_)))
  refine WL.val (fun _ => run_assertLacks (t := 32) (v := .int .i64 r2) (z := .nilIface) (by kernel_rfl) (by kernel_rfl) (by kernel_rfl)) (by kernel_rfl) (by kernel_rfl) rfl ?_
  refine WL.rn 2 [] [(40, .bool false), (41, .nilIface)] ?_
  refine WP.done (WP.no rfl rfl (WP.seq (WP.rn [] [] ?_)))
  refine WP.seq (WP.rn [] [(6, .bool false)] ?_)
  obtain rfl := Option.some.inj hM
  exact WP.retQ [] []
def errors_Is_1.f (a0 : ByteArray) (a0_1 : Int) (a1 : Int) : Option (Bool) :=
 (errors_is.f a0 a0_1 a1 true).bind fun r1 =>
 some r1
theorem errors_Is_1_calls (a0 : ByteArray) (a0_1 : Int) (a1 : Int) (r : Bool) (h : errors_Is_1.f a0 a0_1 a1 = some r) : Pure Tryz.prog Glob 68 #[.iface 290 (.agg #[.string a0, .iface 32 (.int .i64 a0_1)]), .iface 32 (.int .i64 a1)] (.bool r) := by
 intro w Z hS
 refine callsS (args := [.iface 290 (.agg #[.string a0, .iface 32 (.int .i64 a0_1)]), .iface 32 (.int .i64 a1)]) (L := [(0, .iface 290 (.agg #[.string a0, .iface 32 (.int .i64 a0_1)])), (1, .iface 32 (.int .i64 a1))]) (N := 22) Tryz.func68 hS ?_
 have hM := h
 clear h hS
 unfold errors_Is_1.f at hM
 refine WP.seq (WP.rn [] [(4, .bool false)] ?_)
 refine WP.seq (WP.seq (WP.rn [] [(11, .bool false)] ?_))
 refine WP.no rfl rfl (WP.skip (WP.seq (WP.rn [] [(5, .bool true)] ?_)))
 refine WP.seq (WP.region (WL.rn 3 [] [(18, .iface 290 (.agg #[.string a0, .iface 32 (.int .i64 a0_1)])), (19, .iface 32 (.int .i64 a1)), (20, .bool true)] ?_))
 obtain ⟨r1, h2, hM⟩ := bind_some hM
 refine WL.callP [] [] (errors_is_calls a0 a0_1 a1 true _ h2) (fun _ h => h) (by kernel_rfl) (by kernel_rfl) rfl ?_
 refine WL.rn 1 [] [(4, .bool r1)] ?_
 refine WP.done ?_
 obtain rfl := Option.some.inj hM
 exact WP.retQ [] []
def errors_as_1.f (a0 : ByteArray) (a0_1 : Int) (a1 : Int) : Option (Bool × Int) :=
 (ether_odd_Unwrap.f a0 a0_1).bind fun r3 =>
 some (true, r3)
theorem errors_as_1_calls (b_0 : Nat) (b_1 : Nat) (a0 : ByteArray) (a0_1 : Int) (a1 : Int) (r : Bool × Int) (h : errors_as_1.f a0 a0_1 a1 = some r) : Does Tryz.prog 147 #[.iface 290 (.agg #[.string a0, .iface 32 (.int .i64 a0_1)]), .iface 243 (.pointer (some ⟨b_0, 0, none⟩)), .agg #[.pointer (some ⟨1, 243, none⟩), .pointer (some ⟨b_1, 0, none⟩), .int .u64 150], .iface 292 (.agg #[.pointer (some ⟨1, 32, none⟩)])] [(b_0, .cells #[.int .i64 a1] 32 (0, 0)), (b_1, .cells #[.pointer (some ⟨b_0, 0, none⟩)] 243 (0, 0))] Glob (fun _ : Unit => .bool r.1) (fun _ => [(b_0, .cells #[.int .i64 r.2] 32 (0, 0)), (b_1, .cells #[.pointer (some ⟨b_0, 0, none⟩)] 243 (0, 0))]) (fun _ => []) (fun _ => Glob) := by
 intro w Z hS
 refine callsS (args := [.iface 290 (.agg #[.string a0, .iface 32 (.int .i64 a0_1)]), .iface 243 (.pointer (some ⟨b_0, 0, none⟩)), .agg #[.pointer (some ⟨1, 243, none⟩), .pointer (some ⟨b_1, 0, none⟩), .int .u64 150], .iface 292 (.agg #[.pointer (some ⟨1, 32, none⟩)])]) (L := [(0, .iface 290 (.agg #[.string a0, .iface 32 (.int .i64 a0_1)])), (1, .iface 243 (.pointer (some ⟨b_0, 0, none⟩))), (2, .agg #[.pointer (some ⟨1, 243, none⟩), .pointer (some ⟨b_1, 0, none⟩), .int .u64 150]), (3, .iface 292 (.agg #[.pointer (some ⟨1, 32, none⟩)]))]) (N := 62) Tryz.func147 hS ?_
 have hM := h
 clear h hS
 unfold errors_as_1.f at hM
 refine WP.seq ?_
 refine WP.rh [] (fun b1 => [(6, .pointer (some ⟨b1, 0, none⟩)), (8, .bool false)]) (fun b1 => []) (fun b1 => [(b1, .cells #[.pointer (some ⟨1, 243, none⟩), .pointer (some ⟨b_1, 0, none⟩), .int .u64 150] 305 (0, 0))]) (fun b1 => ?_)
 refine WP.block (WP.unroll 40 ?_)
 refine WP.block (WP.seq (WP.seq ?_))
 refine WP.rn [] [(16, .iface 290 (.agg #[.string a0, .iface 32 (.int .i64 a0_1)])), (17, .iface 292 (.agg #[.pointer (some ⟨1, 290, none⟩)])), (18, .iface 292 (.agg #[.pointer (some ⟨1, 32, none⟩)])), (19, .bool false)] ?_
 refine WP.no rfl rfl (WP.skip (WP.seq (WP.seq (WP.region (WL.rn 1 [] [(26, .iface 290 (.agg #[.string a0, .iface 32 (.int .i64 a0_1)]))] ?_)))))
 refine WL.val (fun _ => run_assertLacks (t := 290) (v := .agg #[.string a0, .iface 32 (.int .i64 a0_1)]) (z := .nilIface) (by kernel_rfl) (by kernel_rfl) (by kernel_rfl)) (by kernel_rfl) (by kernel_rfl) rfl ?_
 refine WL.rn 5 [] [(9, .nilIface), (10, .bool false), (25, .tuple #[.nilIface, .bool false]), (28, .nilIface), (29, .bool false)] ?_
 refine WP.done (WP.seq (WP.rn [] [(30, .bool false), (31, .bool false), (32, .tuple #[]), (33, .tuple #[]), (34, .tuple #[]), (35, .bool false)] ?_))
 refine WP.no rfl rfl (WP.skip (WP.seq (WP.rn [] [(36, .iface 290 (.agg #[.string a0, .iface 32 (.int .i64 a0_1)]))] ?_)))
 refine WP.block (WP.seq (WP.region ?_))
 refine WL.val (fun _ => run_assertHas (t := 290) (v := .agg #[.string a0, .iface 32 (.int .i64 a0_1)]) (by kernel_rfl) (by kernel_rfl)) (by kernel_rfl) (by kernel_rfl) rfl ?_
 refine WL.rn 2 [] [(38, .bool true), (39, .iface 290 (.agg #[.string a0, .iface 32 (.int .i64 a0_1)]))] ?_
 refine WP.done (WP.yes rfl rfl (WP.seq (WP.rn [] [(11, .iface 290 (.agg #[.string a0, .iface 32 (.int .i64 a0_1)]))] ?_)))
 refine WP.seq (WP.region (WL.rn 1 [] [(40, .iface 290 (.agg #[.string a0, .iface 32 (.int .i64 a0_1)]))] ?_))
 obtain ⟨r3, h4, hM⟩ := bind_some hM
 refine WL.callP [] [] (ether_odd_Unwrap_calls a0 a0_1 _ h4) (fun _ h => h) (by kernel_rfl) (by kernel_rfl) rfl ?_
 refine WL.rn 1 [] [(0, .iface 32 (.int .i64 r3))] ?_
 refine WP.done (WP.seq (WP.rn [] [(42, .iface 32 (.int .i64 r3)), (43, .bool false)] ?_))
 refine WP.no rfl rfl (WP.skip (WP.leave (WP.leave (WP.round ?_))))
 refine WP.block (WP.seq (WP.seq ?_))
 refine WP.rn [] [(16, .iface 32 (.int .i64 r3)), (17, .iface 292 (.agg #[.pointer (some ⟨1, 32, none⟩)])), (18, .iface 292 (.agg #[.pointer (some ⟨1, 32, none⟩)])), (19, .bool true)] ?_
 refine WP.yes rfl rfl (WP.seq ?_)
 refine WP.rh [2, 2, 2, 1, 3, 0] (fun b5 => [(20, .agg #[.pointer (some ⟨1, 243, none⟩), .pointer (some ⟨b_1, 0, none⟩), .int .u64 150]), (21, .agg #[.pointer (some ⟨1, 32, none⟩), .pointer (some ⟨b_0, 0, none⟩), .int .u64 386]), (22, .iface 32 (.int .i64 r3)), (23, .agg #[.pointer (some ⟨1, 32, none⟩), .pointer (some ⟨b5, 0, none⟩), .int .u64 130])]) (fun b5 => [(0, 0, [.int .i64 r3])]) (fun b5 => [(b5, .cells #[.int .i64 r3] 32 (0, 0))]) (fun b5 => ?_)
 refine WP.seq (WP.rn [] [(8, .bool true)] ?_)
 obtain rfl := Option.some.inj hM
 exact WP.ret [] [] (.bool true) (by kernel_rfl) (fun w' hw => ⟨(), rfl, hw.pick [0, 1] (by kernel_rfl)⟩)
def errors_As_1.f (a0 : ByteArray) (a0_1 : Int) (a1 : Int) : Option (Bool × Int) :=
 (errors_as_1.f a0 a0_1 a1).bind fun (r2, r3) =>
 some (r2, r3)
theorem errors_As_1_calls (b_0 : Nat) (a0 : ByteArray) (a0_1 : Int) (a1 : Int) (r : Bool × Int) (h : errors_As_1.f a0 a0_1 a1 = some r) : Does Tryz.prog 119 #[.iface 290 (.agg #[.string a0, .iface 32 (.int .i64 a0_1)]), .iface 243 (.pointer (some ⟨b_0, 0, none⟩))] [(b_0, .cells #[.int .i64 a1] 32 (0, 0))] Glob (fun _ : Unit => .bool r.1) (fun _ => [(b_0, .cells #[.int .i64 r.2] 32 (0, 0))]) (fun _ => []) (fun _ => Glob) := by
 intro w Z hS
 refine callsS (args := [.iface 290 (.agg #[.string a0, .iface 32 (.int .i64 a0_1)]), .iface 243 (.pointer (some ⟨b_0, 0, none⟩))]) (L := [(0, .iface 290 (.agg #[.string a0, .iface 32 (.int .i64 a0_1)])), (1, .iface 243 (.pointer (some ⟨b_0, 0, none⟩)))]) (N := 42) Tryz.func119 hS ?_
 have hM := h
 clear h hS
 unfold errors_As_1.f at hM
 refine WP.seq (WP.rn [] [(4, .bool false)] ?_)
 refine WP.seq (WP.seq (WP.rn [] [(9, .bool false)] ?_))
 refine WP.no rfl rfl (WP.skip (WP.seq (WP.seq (WP.rn [] [(11, .bool false)] ?_))))
 refine WP.no rfl rfl (WP.skip (WP.seq ?_))
 refine WP.rh [2, 2, 2] (fun b1 => [(5, .pointer (some ⟨(b1 + 1), 0, none⟩))]) (fun b1 => []) (fun b1 => [(b1, .cells #[.pointer (some ⟨b_0, 0, none⟩)] 243 (0, 0)), ((b1 + 1), .cells #[.pointer (some ⟨1, 243, none⟩), .pointer (some ⟨b1, 0, none⟩), .int .u64 150] 305 (0, 0))]) (fun b1 => ?_)
 refine WP.seq ?_
 refine WP.rn [2, 2, 2] [(6, .iface 292 (.agg #[.pointer (some ⟨1, 243, none⟩)]))] ?_
 refine WP.seq (WP.seq (WP.rn [2, 2, 2, 1] [(23, .bool false)] ?_))
 refine WP.no rfl rfl (WP.skip (WP.seq ?_))
 refine WP.rn [] [(7, .iface 292 (.agg #[.pointer (some ⟨1, 32, none⟩)]))] ?_
 refine WP.seq (WP.seq (WP.region ?_))
 refine WL.rn 5 [] [(30, .bool true), (31, .iface 292 (.agg #[.pointer (some ⟨1, 32, none⟩)]))] ?_
 refine WL.loadGlob (v := .iface 292 (.agg #[.pointer (some ⟨1, 151, none⟩)])) (by simp [Glob]) (fun _ => by kernel_rfl) (by kernel_rfl) rfl ?_
 refine WL.rn 3 [] [(35, .bool false)] ?_
 refine WP.done (WP.no rfl rfl (WP.skip (WP.seq (WP.region ?_))))
 refine WL.rn 4 [2, 2, 2] [(37, .iface 290 (.agg #[.string a0, .iface 32 (.int .i64 a0_1)])), (38, .iface 243 (.pointer (some ⟨b_0, 0, none⟩))), (39, .agg #[.pointer (some ⟨1, 243, none⟩), .pointer (some ⟨b1, 0, none⟩), .int .u64 150]), (40, .iface 292 (.agg #[.pointer (some ⟨1, 32, none⟩)]))] ?_
 obtain ⟨⟨r2, r3⟩, h4, hM⟩ := bind_some hM
 dsimp only at hM
 refine WL.callE (X := Unit) [] [] [true, true, false] (fun _ => _) (errors_as_1_calls b_0 b1 a0 a0_1 a1 _ h4) rfl rfl (fun _ h => h) (by kernel_rfl) (by kernel_rfl) (fun _ => rfl) (fun _ => ?_)
 refine WL.rn 1 [] [(4, .bool r2)] ?_
 refine WP.done (WP.kp [true, false, false] ?_)
 obtain rfl := Option.some.inj hM
 exact WP.ret [] [] (.bool r2) (by kernel_rfl) (fun w' hw => ⟨(), rfl, hw.pick [0] (by kernel_rfl)⟩)
def ether_number.f (a0 : ByteArray) (a0_1 : Int) : Option (Int) :=
 (errors_As_1.f a0 a0_1 0).bind fun (r2, r3) =>
 bif r2 then
  some r3
 else
  some 0
theorem ether_number_calls (a0 : ByteArray) (a0_1 : Int) (r : Int) (h : ether_number.f a0 a0_1 = some r) : Pure Tryz.prog Glob 69 #[.iface 290 (.agg #[.string a0, .iface 32 (.int .i64 a0_1)])] (.int .i64 r) := by
 intro w Z hS
 refine callsS (args := [.iface 290 (.agg #[.string a0, .iface 32 (.int .i64 a0_1)])]) (L := [(0, .iface 290 (.agg #[.string a0, .iface 32 (.int .i64 a0_1)]))]) (N := 8) Tryz.func69 hS ?_
 have hM := h
 clear h hS
 unfold ether_number.f at hM
 refine WP.seq (WP.rn [] [(2, .int .i64 0)] ?_)
 refine WP.seq ?_
 refine WP.rh [] (fun b1 => [(3, .pointer (some ⟨b1, 0, none⟩))]) (fun b1 => []) (fun b1 => [(b1, .cells #[.int .i64 0] 32 (0, 0))]) (fun b1 => ?_)
 refine WP.seq (WP.seq (WP.region ?_))
 refine WL.rn 2 [] [(4, .iface 290 (.agg #[.string a0, .iface 32 (.int .i64 a0_1)])), (5, .iface 243 (.pointer (some ⟨b1, 0, none⟩)))] ?_
 obtain ⟨⟨r2, r3⟩, h4, hM⟩ := bind_some hM
 dsimp only at hM
 refine WL.callE (X := Unit) [] [] [true] (fun _ => _) (errors_As_1_calls b1 a0 a0_1 0 _ h4) rfl rfl (fun _ h => h) (by kernel_rfl) (by kernel_rfl) (fun _ => rfl) (fun _ => ?_)
 refine WP.done ?_
 refine WP.cond r2 rfl rfl (fun c5 => ?_) (fun c5 => ?_)
 ·replace hM := cond_t hM c5
  refine WP.seq (WP.rn [0] [(2, .int .i64 r3)] ?_)
  refine WP.kp [false] ?_
  obtain rfl := Option.some.inj hM
  exact WP.retQ [] []
 ·replace hM := cond_f hM c5
  refine WP.skip (WP.seq (WP.rn [] [(2, .int .i64 0)] ?_))
  refine WP.kp [false] ?_
  obtain rfl := Option.some.inj hM
  exact WP.retQ [] []
def ether_Parse.f (k : Nat) (a0 : ByteArray) : Option (api_Frame × Int) :=
 bif decide ((a0.size : Int) > 1600) then
  some ((api_Frame.mk 0 0 (api_Tag.mk false 0 false 0) 0 (⟨#[]⟩ : ByteArray)), 41)
 else
  (ether_reader_frame.f k (ether_reader.mk a0 0)).bind fun (r4, r5, r6) =>
  match r5 with
  | none =>
   (errors_Is.f 40).bind fun r9 =>
   bif r9 then
    some ((api_Frame.mk 0 0 (api_Tag.mk false 0 false 0) 0 (⟨#[]⟩ : ByteArray)), 40)
   else
    some (r4, 0)
  | some (q12, q13) =>
   (errors_Is_1.f q12 q13 40).bind fun r14 =>
   bif r14 then
    some ((api_Frame.mk 0 0 (api_Tag.mk false 0 false 0) 0 (⟨#[]⟩ : ByteArray)), 40)
   else
    (ether_number.f q12 q13).bind fun r17 =>
    some ((api_Frame.mk 0 0 (api_Tag.mk false 0 false 0) 0 (⟨#[]⟩ : ByteArray)), r17)
theorem ether_Parse_calls (k : Nat) (a0 : ByteArray) (r : api_Frame × Int) (h : ether_Parse.f k a0 = some r) : Pure Tryz.prog Glob 34 #[.string a0] (.tuple #[api_Frame.v r.1, .int .i64 r.2]) := by
 intro w Z hS
 refine callsS (args := [.string a0]) (L := [(0, .string a0)]) (N := 31) Tryz.func34 hS ?_
 have hM := h
 clear h hS
 unfold ether_Parse.f at hM
 refine WP.seq ?_
 refine WP.rh [] (fun b1 => [(2, .pointer (some ⟨b1, 0, none⟩)), (3, .int .i64 0)]) (fun b1 => []) (fun b1 => [(b1, .cells #[.int .u64 0, .int .u64 0, .bool false, .int .i64 0, .bool false, .int .i64 0, .int .i64 0, .string (⟨#[]⟩ : ByteArray)] 40 (0, 0))]) (fun b1 => ?_)
 refine WP.seq (WP.seq (WP.rn [] [(9, .bool (decide ((a0.size : Int) > 1600)))] ?_))
 refine WP.cond (decide ((a0.size : Int) > 1600)) rfl rfl (fun c2 => ?_) (fun c2 => ?_)
 ·replace hM := cond_t hM c2
  refine WP.seq (WP.rn [0, 0, 0, 0, 0, 0, 0, 0] [(3, .int .i64 41)] ?_)
  obtain rfl := Option.some.inj hM
  exact WP.retQ [0, 0, 0, 0, 0, 0, 0, 0] [b1, b1, b1, b1, b1, b1, b1, b1]
 ·replace hM := cond_f hM c2
  refine WP.skip (WP.seq ?_)
  refine WP.rh [] (fun b3 => [(4, .pointer (some ⟨b3, 0, none⟩))]) (fun b3 => []) (fun b3 => [(b3, .cells #[.string a0, .int .i64 0] 149 (0, 0))]) (fun b3 => ?_)
  refine WP.seq (WP.region ?_)
  refine WL.rn 1 [] [(15, .pointer (some ⟨b3, 0, none⟩))] ?_
  obtain ⟨⟨r4, r5, r6⟩, h7, hM⟩ := bind_some hM
  dsimp only at hM
  refine WL.callE (X := Unit) [] [] [false, true] (fun _ => _) (ether_reader_frame_calls k b3 (ether_reader.mk a0 0) _ h7) rfl rfl (fun _ h => h) (by kernel_rfl) (by kernel_rfl) (fun _ => rfl) (fun _ => ?_)
  refine WL.rh 6 [2, 2, 2, 2, 2, 2, 2, 2] (fun b8 => [(5, .pointer (some ⟨b8, 0, none⟩)), (6, Un1.v r5)]) (fun b8 => []) (fun b8 => [(b8, api_Frame.o r4)]) (fun b8 => ?_)
  refine WP.done (WP.kp [false, true, true] ?_)
  refine WP.seq (WP.block (WP.seq (WP.region (WL.rn 2 [] [(20, Un1.v r5), (21, .iface 32 (.int .i64 40))] ?_))))
  rcases r5 with _ | ⟨q12, q13⟩
  ·dsimp only at hM
   obtain ⟨r9, h10, hM⟩ := bind_some hM
   refine WL.callP [] [] (errors_Is_calls 40 _ h10) (fun _ h => h) (by kernel_rfl) (by kernel_rfl) rfl ?_
   refine WL.rn 1 [] [(19, .bool r9)] ?_
   refine WP.done ?_
   refine WP.cond r9 rfl rfl (fun c11 => ?_) (fun c11 => ?_)
   ·replace hM := cond_t hM c11
    refine WP.seq (WP.rn [0, 0, 0, 0, 0, 0, 0, 0] [(3, .int .i64 40)] ?_)
    obtain rfl := Option.some.inj hM
    exact WP.retQ [0, 0, 0, 0, 0, 0, 0, 0] [b1, b1, b1, b1, b1, b1, b1, b1]
   ·replace hM := cond_f hM c11
    refine WP.seq (WP.rn [] [(24, .bool false)] ?_)
    refine WP.no rfl rfl (WP.skip (WP.leave (WP.seq ?_)))
    refine WP.rh [1, 1, 1, 1, 1, 1, 1, 1, 0, 0, 0, 0, 0, 0, 0, 0] (fun _ => [(3, .int .i64 0)]) (fun _ => [(0, 0, [.int .u64 r4.Dst, .int .u64 r4.Src, .bool r4.Tag.Has, .int .i64 r4.Tag.Pri, .bool r4.Tag.Dei, .int .i64 r4.Tag.Vid, .int .i64 r4.Type_, .string r4.Body])]) (fun _ => []) (fun _ => ?_)
    refine WP.kp [true, false] ?_
    obtain rfl := Option.some.inj hM
    exact WP.retQ [0, 0, 0, 0, 0, 0, 0, 0] [b1, b1, b1, b1, b1, b1, b1, b1]
  ·dsimp only at hM
   obtain ⟨r14, h15, hM⟩ := bind_some hM
   refine WL.callP [] [] (errors_Is_1_calls q12 q13 40 _ h15) (fun _ h => h) (by kernel_rfl) (by kernel_rfl) rfl ?_
   refine WL.rn 1 [] [(19, .bool r14)] ?_
   refine WP.done ?_
   refine WP.cond r14 rfl rfl (fun c16 => ?_) (fun c16 => ?_)
   ·replace hM := cond_t hM c16
    refine WP.seq (WP.rn [0, 0, 0, 0, 0, 0, 0, 0] [(3, .int .i64 40)] ?_)
    obtain rfl := Option.some.inj hM
    exact WP.retQ [0, 0, 0, 0, 0, 0, 0, 0] [b1, b1, b1, b1, b1, b1, b1, b1]
   ·replace hM := cond_f hM c16
    refine WP.seq (WP.rn [] [(24, .bool true)] ?_)
    refine WP.yes rfl rfl (WP.seq (WP.region ?_))
    refine WL.rn 2 [] [(27, .agg #[.int .u64 0, .int .u64 0, .bool false, .int .i64 0, .bool false, .int .i64 0, .int .i64 0, .string (⟨#[]⟩ : ByteArray)]), (28, .iface 290 (.agg #[.string q12, .iface 32 (.int .i64 q13)]))] ?_
    obtain ⟨r17, h18, hM⟩ := bind_some hM
    refine WL.callP [] [] (ether_number_calls q12 q13 _ h18) (fun _ h => h) (by kernel_rfl) (by kernel_rfl) rfl ?_
    refine WL.rn 2 [0, 0, 0, 0, 0, 0, 0, 0] [(3, .int .i64 r17)] ?_
    refine WP.done ?_
    obtain rfl := Option.some.inj hM
    exact WP.retQ [0, 0, 0, 0, 0, 0, 0, 0] [b1, b1, b1, b1, b1, b1, b1, b1]
def slices_Index_int_int.l1 (a0 : (List Int)) (a1 : Int) : Nat → Int → Int → Option (Int)
 | 0, _, _ => none
 | n + 1, x1, x2 =>
  bif decide (x2 < (a0.length : Int)) then
   (getL a0.length a0 x2).bind fun t4 =>
   bif (a1 == t4) then
    some x2
   else
    slices_Index_int_int.l1 a0 a1 n x1 (i64 (x2 + 1))
  else
   some (-1)
def slices_Index_int_int.f (k : Nat) (a0 : (List Int)) (a1 : Int) : Option (Int) :=
 slices_Index_int_int.l1 a0 a1 k 0 0
theorem slices_Index_int_int_calls (k : Nat) (A00 : SkL Unit) (a0 : (List Int)) (a1 : Int) (r : Int) (h : slices_Index_int_int.f k a0 a1 = some r) : Pure Tryz.prog ([Row 1 (pl (encI .i64)) noK A00 a0] ++ Glob) 148 #[slcV A00 a0.length, .int .i64 a1] (.int .i64 r) := by
 intro w Z hS
 refine callsS (args := [slcV A00 a0.length, .int .i64 a1]) (L := [(0, slcV A00 a0.length), (1, .int .i64 a1)]) (N := 19) Tryz.func148 hS ?_
 have hM := h
 clear h hS
 unfold slices_Index_int_int.f at hM
 refine WP.seq (WP.rn [] [(4, .int .i64 0)] ?_)
 refine WP.seq (WP.seq (WP.rn [] [(7, .int .i64 (a0.length : Int)), (8, .int .i64 0)] ?_))
 refine WP.block (WP.sub [0, 1, 4, 7, 8] (L' := [(0, slcV A00 a0.length), (1, .int .i64 a1), (4, .int .i64 0), (7, .int .i64 (a0.length : Int)), (8, .int .i64 0)]) (by kernel_rfl) ?_)
 refine WP.lessF [0] (F' := [Row 1 (pl (encI .i64)) noK A00 a0]) (by kernel_rfl) ?_
 refine WP.loop (σ := Int × Int) (fun n st => slices_Index_int_int.l1 a0 a1 n st.1 st.2) r (fun st => [(0, slcV A00 a0.length), (1, .int .i64 a1), (4, .int .i64 st.1), (7, .int .i64 (a0.length : Int)), (8, .int .i64 st.2)]) (fun st => Sat w Z [] [] ([Row 1 (pl (encI .i64)) noK A00 a0] ++ Glob)) (st := (0, 0)) (fun n st hM => ?_) hM
 rcases n with _ | n
 ·exact nomatch (show (none : Option _) = some r from hM)
 obtain ⟨x1, x2⟩ := st
 replace hM : slices_Index_int_int.l1 a0 a1 (n + 1) x1 x2 = some r := hM
 rw [slices_Index_int_int.l1] at hM
 try dsimp only
 refine WP.seq (WP.rn [] [(9, .bool (decide (x2 < (a0.length : Int))))] ?_)
 refine WP.seq ?_
 refine WP.cond (decide (x2 < (a0.length : Int))) rfl rfl (fun c3 => ?_) (fun c3 => ?_)
 ·replace hM := cond_t hM c3
  refine WP.skip (WP.seq (WP.block (WP.seq (WP.rn [] [(5, .int .i64 x2), (10, .int .i64 x2)] ?_))))
  refine WP.seq (WP.region (WL.rn 3 [] [(11, .int .i64 a1), (12, slcV A00 a0.length), (13, .int .i64 x2)] ?_))
  obtain ⟨t4, h5, hM⟩ := bind_some hM
  refine WL.valF (φ := Row 1 (pl (encI .i64)) noK A00 a0) (fact_at 0 rfl) (fun w hR => run_indexRowF (A := A00) (xs := a0) (i := x2) (k := .i64) (e := 3) (m := 1) (by kernel_rfl) (by kernel_rfl) h5 (by kernel_rfl) (by kernel_rfl) hR) (by kernel_rfl) (by kernel_rfl) rfl ?_
  refine WL.valF (φ := Row 1 (pl (encI .i64)) noK A00 a0) (fact_at 0 rfl) (fun w hR => run_loadRowF (A := A00) (xs := a0) (i := x2) (j := 0) (v := .int .i64 t4) h5 (fun _ => by kernel_rfl) (by kernel_rfl) (by kernel_rfl) hR) (by kernel_rfl) (by kernel_rfl) rfl ?_
  refine WL.rn 1 [] [(16, .bool (a1 == t4))] ?_
  refine WP.done ?_
  refine WP.cond (a1 == t4) rfl rfl (fun c6 => ?_) (fun c6 => ?_)
  ·replace hM := cond_t hM c6
   refine WP.seq (WP.rn [] [(4, .int .i64 x2), (17, .int .i64 x2)] ?_)
   obtain rfl := Option.some.inj hM
   exact WP.retF [] [] [0]
  ·replace hM := cond_f hM c6
   refine WP.skip (WP.leave (WP.rn [] [(8, .int .i64 (i64 (x2 + 1))), (18, .int .i64 (i64 (x2 + 1)))] ?_))
   exact WP.again' [0, 1, 4, 7, 8] (x1, i64 (x2 + 1)) hM (by kernel_rfl) (fun _ h => (h.pick [] (by kernel_rfl)).lessF [0] (by kernel_rfl))
 ·replace hM := cond_f hM c3
  refine WP.exit rfl (WP.seq (WP.rn [] [(4, .int .i64 (-1))] ?_))
  obtain rfl := Option.some.inj hM
  exact WP.retF [] [] [0]
def slices_Contains_int_int.f (k : Nat) (a0 : (List Int)) (a1 : Int) : Option (Bool) :=
 (slices_Index_int_int.f k a0 a1).bind fun r1 =>
 some (decide (r1 ≥ 0))
theorem slices_Contains_int_int_calls (k : Nat) (A00 : SkL Unit) (a0 : (List Int)) (a1 : Int) (r : Bool) (h : slices_Contains_int_int.f k a0 a1 = some r) : Pure Tryz.prog ([Row 1 (pl (encI .i64)) noK A00 a0] ++ Glob) 120 #[slcV A00 a0.length, .int .i64 a1] (.bool r) := by
 intro w Z hS
 refine callsS (args := [slcV A00 a0.length, .int .i64 a1]) (L := [(0, slcV A00 a0.length), (1, .int .i64 a1)]) (N := 9) Tryz.func120 hS ?_
 have hM := h
 clear h hS
 unfold slices_Contains_int_int.f at hM
 refine WP.seq (WP.rn [] [(4, .bool false)] ?_)
 refine WP.seq (WP.region (WL.rn 2 [] [(5, slcV A00 a0.length), (6, .int .i64 a1)] ?_))
 obtain ⟨r1, h2, hM⟩ := bind_some hM
 refine WL.callP [] [] (slices_Index_int_int_calls k A00 a0 a1 _ h2) (sub_pick [0] (by kernel_rfl)) (by kernel_rfl) (by kernel_rfl) rfl ?_
 refine WL.rn 2 [] [(4, .bool (decide (r1 ≥ 0)))] ?_
 refine WP.done ?_
 obtain rfl := Option.some.inj hM
 exact WP.retF [] [] [0]
def vlan_Has.f (k : Nat) (a0 : Bool) (a0_1 : Int) (a0_2 : (List Int)) (a1 : Int) : Option (Bool) :=
 bif !a0 then
  some (a1 == a0_1)
 else
  (slices_Contains_int_int.f k a0_2 a1).bind fun r3 =>
  some r3
theorem vlan_Has_calls (k : Nat) (A00 : SkL Unit) (a0 : Bool) (a0_1 : Int) (a0_2 : (List Int)) (a1 : Int) (r : Bool) (h : vlan_Has.f k a0 a0_1 a0_2 a1 = some r) : Pure Tryz.prog ([Row 1 (pl (encI .i64)) noK A00 a0_2] ++ Glob) 70 #[.agg #[.bool a0, .int .i64 a0_1, slcV A00 a0_2.length], .int .i64 a1] (.bool r) := by
 intro w Z hS
 refine callsS (args := [.agg #[.bool a0, .int .i64 a0_1, slcV A00 a0_2.length], .int .i64 a1]) (L := [(0, .agg #[.bool a0, .int .i64 a0_1, slcV A00 a0_2.length]), (1, .int .i64 a1)]) (N := 16) Tryz.func70 hS ?_
 have hM := h
 clear h hS
 unfold vlan_Has.f at hM
 refine WP.seq ?_
 refine WP.rh [] (fun b1 => [(2, .pointer (some ⟨b1, 0, none⟩)), (4, .bool false)]) (fun b1 => []) (fun b1 => [(b1, .cells #[.bool a0, .int .i64 a0_1, slcV A00 a0_2.length] 84 (0, 0))]) (fun b1 => ?_)
 refine WP.seq (WP.seq (WP.rn [0] [(7, .bool (!a0))] ?_))
 refine WP.cond (!a0) rfl rfl (fun c2 => ?_) (fun c2 => ?_)
 ·replace hM := cond_t hM c2
  refine WP.seq (WP.rn [0] [(4, .bool (a1 == a0_1))] ?_)
  obtain rfl := Option.some.inj hM
  exact WP.retF [] [] [0]
 ·replace hM := cond_f hM c2
  refine WP.skip (WP.seq (WP.region (WL.rn 3 [0] [(13, slcV A00 a0_2.length), (14, .int .i64 a1)] ?_)))
  obtain ⟨r3, h4, hM⟩ := bind_some hM
  refine WL.callP [] [] (slices_Contains_int_int_calls k A00 a0_2 a1 _ h4) (sub_pick [0] (by kernel_rfl)) (by kernel_rfl) (by kernel_rfl) rfl ?_
  refine WL.rn 1 [] [(4, .bool r3)] ?_
  refine WP.done (WP.kp [false] ?_)
  obtain rfl := Option.some.inj hM
  exact WP.retF [] [] [0]
def ether_Bare.f (a0 : api_Frame) : Option (api_Frame) :=
 some (api_Frame.mk a0.Dst a0.Src (api_Tag.mk false 0 false 0) a0.Type_ a0.Body)
theorem ether_Bare_calls (a0 : api_Frame) (r : api_Frame) (h : ether_Bare.f a0 = some r) : Pure Tryz.prog Glob 71 #[api_Frame.v a0] (api_Frame.v r) := by
 intro w Z hS
 refine callsS (args := [api_Frame.v a0]) (L := [(0, api_Frame.v a0)]) (N := 6) Tryz.func71 hS ?_
 have hM := h
 clear h hS
 unfold ether_Bare.f at hM
 refine WP.seq ?_
 refine WP.rh [] (fun b1 => [(1, .pointer (some ⟨b1, 0, none⟩)), (2, .pointer (some ⟨(b1 + 1), 0, none⟩))]) (fun b1 => []) (fun b1 => [(b1, api_Frame.o a0), ((b1 + 1), .cells #[.int .u64 0, .int .u64 0, .bool false, .int .i64 0, .bool false, .int .i64 0, .int .i64 0, .string (⟨#[]⟩ : ByteArray)] 40 (0, 0))]) (fun b1 => ?_)
 refine WP.seq ?_
 refine WP.rh [0, 0, 0, 0] (fun _ => []) (fun _ => [(0, 2, [.bool false, .int .i64 0, .bool false, .int .i64 0])]) (fun _ => []) (fun _ => ?_)
 refine WP.seq ?_
 refine WP.rh [0, 0, 0, 0, 0, 0, 0, 0, 1, 1, 1, 1, 1, 1, 1, 1] (fun _ => []) (fun _ => [(1, 0, [.int .u64 a0.Dst, .int .u64 a0.Src]), (1, 6, [.int .i64 a0.Type_, .string a0.Body])]) (fun _ => []) (fun _ => ?_)
 refine WP.kp [false, true] ?_
 obtain rfl := Option.some.inj hM
 exact WP.retQ [0, 0, 0, 0, 0, 0, 0, 0] [(b1 + 1), (b1 + 1), (b1 + 1), (b1 + 1), (b1 + 1), (b1 + 1), (b1 + 1), (b1 + 1)]
def vlan_In.k1 (k : Nat) (a0 : Bool) (a0_1 : Int) (a0_2 : (List Int)) (a1 : api_Frame) (x3 : Int) : Option (Int × api_Frame × Bool) :=
 (vlan_Has.f k a0 a0_1 a0_2 x3).bind fun r4 =>
 bif !r4 then
  some (0, (api_Frame.mk 0 0 (api_Tag.mk false 0 false 0) 0 (⟨#[]⟩ : ByteArray)), false)
 else
  (ether_Bare.f a1).bind fun r7 =>
  some (x3, r7, true)
def vlan_In.f (k : Nat) (a0 : Bool) (a0_1 : Int) (a0_2 : (List Int)) (a1 : api_Frame) : Option (Int × api_Frame × Bool) :=
 bif ((!a1.Tag.Has) || (a1.Tag.Vid == 0)) then
  vlan_In.k1 k a0 a0_1 a0_2 a1 a0_1
 else
  vlan_In.k1 k a0 a0_1 a0_2 a1 a1.Tag.Vid
theorem vlan_In_calls (k : Nat) (A00 : SkL Unit) (a0 : Bool) (a0_1 : Int) (a0_2 : (List Int)) (a1 : api_Frame) (r : Int × api_Frame × Bool) (h : vlan_In.f k a0 a0_1 a0_2 a1 = some r) : Pure Tryz.prog ([Row 1 (pl (encI .i64)) noK A00 a0_2] ++ Glob) 35 #[.agg #[.bool a0, .int .i64 a0_1, slcV A00 a0_2.length], api_Frame.v a1] (.tuple #[.int .i64 r.1, api_Frame.v r.2.1, .bool r.2.2]) := by
 intro w Z hS
 refine callsS (args := [.agg #[.bool a0, .int .i64 a0_1, slcV A00 a0_2.length], api_Frame.v a1]) (L := [(0, .agg #[.bool a0, .int .i64 a0_1, slcV A00 a0_2.length]), (1, api_Frame.v a1)]) (N := 29) Tryz.func35 hS ?_
 have hM := h
 clear h hS
 unfold vlan_In.f at hM
 refine WP.seq ?_
 refine WP.rh [] (fun b1 => [(2, .pointer (some ⟨b1, 0, none⟩)), (3, .pointer (some ⟨(b1 + 1), 0, none⟩)), (4, .int .i64 0), (5, .pointer (some ⟨(b1 + 2), 0, none⟩)), (6, .bool false)]) (fun b1 => []) (fun b1 => [(b1, .cells #[.bool a0, .int .i64 a0_1, slcV A00 a0_2.length] 84 (0, 0)), ((b1 + 1), api_Frame.o a1), ((b1 + 2), .cells #[.int .u64 0, .int .u64 0, .bool false, .int .i64 0, .bool false, .int .i64 0, .int .i64 0, .string (⟨#[]⟩ : ByteArray)] 40 (0, 0))]) (fun b1 => ?_)
 refine WP.seq (WP.rn [1] [(7, .int .i64 a1.Tag.Vid)] ?_)
 refine WP.seqJoin (σ := Int) (fun st => vlan_In.k1 k a0 a0_1 a0_2 a1 st = some r) (fun st => [(2, .pointer (some ⟨b1, 0, none⟩)), (3, .pointer (some ⟨(b1 + 1), 0, none⟩)), (4, .int .i64 0), (5, .pointer (some ⟨(b1 + 2), 0, none⟩)), (6, .bool false), (7, .int .i64 st)]) (fun st => Sat w Z [(b1, .cells #[.bool a0, .int .i64 a0_1, slcV A00 a0_2.length] 84 (0, 0)), ((b1 + 1), api_Frame.o a1), ((b1 + 2), .cells #[.int .u64 0, .int .u64 0, .bool false, .int .i64 0, .bool false, .int .i64 0, .int .i64 0, .string (⟨#[]⟩ : ByteArray)] 40 (0, 0))] [] ([Row 1 (pl (encI .i64)) noK A00 a0_2] ++ Glob)) (fun st hM => ?_) (fun K1 => ?_)
 ·
  obtain ⟨x3, rfl⟩ : ∃ y, y = st := ⟨st, rfl⟩
  replace hM : vlan_In.k1 k a0 a0_1 a0_2 a1 x3 = some r := hM
  unfold vlan_In.k1 at hM
  try dsimp only
  refine WP.seq (WP.seq (WP.region (WL.rn 2 [0, 0, 0] [(21, .agg #[.bool a0, .int .i64 a0_1, slcV A00 a0_2.length]), (22, .int .i64 x3)] ?_)))
  obtain ⟨r4, h5, hM⟩ := bind_some hM
  refine WL.callP [] [] (vlan_Has_calls k A00 a0 a0_1 a0_2 x3 _ h5) (sub_pick [0] (by kernel_rfl)) (by kernel_rfl) (by kernel_rfl) rfl ?_
  refine WL.rn 1 [] [(24, .bool (!r4))] ?_
  refine WP.done (WP.kp [false, true, true] ?_)
  refine WP.cond (!r4) rfl rfl (fun c6 => ?_) (fun c6 => ?_)
  ·replace hM := cond_t hM c6
   refine WP.seq (WP.rn [1, 1, 1, 1, 1, 1, 1, 1] [(4, .int .i64 0), (6, .bool false)] ?_)
   obtain rfl := Option.some.inj hM
   exact WP.retF [1, 1, 1, 1, 1, 1, 1, 1] [(b1 + 2), (b1 + 2), (b1 + 2), (b1 + 2), (b1 + 2), (b1 + 2), (b1 + 2), (b1 + 2)] [0]
  ·replace hM := cond_f hM c6
   refine WP.skip (WP.seq (WP.region (WL.rn 2 [0, 0, 0, 0, 0, 0, 0, 0] [(26, .int .i64 x3), (27, api_Frame.v a1)] ?_)))
   obtain ⟨r7, h8, hM⟩ := bind_some hM
   refine WL.callP [] [] (ether_Bare_calls a1 _ h8) (fun _ h => List.mem_append_right _ h) (by kernel_rfl) (by kernel_rfl) rfl ?_
   refine WL.rh 3 [1, 1, 1, 1, 1, 1, 1, 1] (fun _ => [(4, .int .i64 x3), (6, .bool true)]) (fun _ => [(1, 0, [.int .u64 r7.Dst, .int .u64 r7.Src, .bool r7.Tag.Has, .int .i64 r7.Tag.Pri, .bool r7.Tag.Dei, .int .i64 r7.Tag.Vid, .int .i64 r7.Type_, .string r7.Body])]) (fun _ => []) (fun _ => ?_)
   refine WP.done (WP.kp [false, true] ?_)
   obtain rfl := Option.some.inj hM
   exact WP.retF [0, 0, 0, 0, 0, 0, 0, 0] [(b1 + 2), (b1 + 2), (b1 + 2), (b1 + 2), (b1 + 2), (b1 + 2), (b1 + 2), (b1 + 2)] [0]
 ·
  refine WP.seq (WP.region (WL.rn 5 [1] [(15, .bool (!a1.Tag.Has))] ?_))
  refine WL.bo 15 (!a1.Tag.Has) 3 [] [] (fun b' => [(18, .bool (b' || (a1.Tag.Vid == 0)))]) ?_
  refine WP.done ?_
  refine WP.cond ((!a1.Tag.Has) || (a1.Tag.Vid == 0)) rfl rfl (fun c2 => ?_) (fun c2 => ?_)
  ·replace hM := cond_t hM c2
   refine WP.rn [0] [(7, .int .i64 a0_1)] ?_
   exact WP.sub [2, 3, 4, 5, 6, 7] (by kernel_rfl) (WP.pick [0, 1, 2] (by kernel_rfl) (by kernel_rfl) (WP.lessF [0] (by kernel_rfl) (K1 a0_1 hM)))
  ·replace hM := cond_f hM c2
   refine WP.skip ?_
   exact WP.sub [2, 3, 4, 5, 6, 7] (by kernel_rfl) (WP.pick [0, 1, 2] (by kernel_rfl) (by kernel_rfl) (WP.lessF [0] (by kernel_rfl) (K1 a1.Tag.Vid hM)))
def trace_of.f (k : Nat) (a0 : (List api_Gate)) (a1 : api_Event) : Option (trace_seen) :=
 (ether_Parse.f k a1.S).bind fun (r3, r4) =>
 bif (((r4 != 0) || (decide (a1.Gate < 1))) || (decide (a1.Gate > (a0.length : Int)))) then
  some (trace_seen.mk a1 0 (api_Frame.mk 0 0 (api_Tag.mk false 0 false 0) 0 (⟨#[]⟩ : ByteArray)) false)
 else
  (getL a0.length a0 (i64 (a1.Gate - 1))).bind fun t8 =>
  bif ((decide (a1.Port < 1)) || (decide (a1.Port > (t8.Ports.length : Int)))) then
   some (trace_seen.mk a1 0 (api_Frame.mk 0 0 (api_Tag.mk false 0 false 0) 0 (⟨#[]⟩ : ByteArray)) false)
  else
   (getL t8.Ports.length t8.Ports (i64 (a1.Port - 1))).bind fun t11 =>
   (vlan_In.f k t11.Trunk t11.Pvid t11.Vids r3).bind fun (r13, r14, r15) =>
   some (trace_seen.mk a1 r13 r14 r15)
theorem trace_of_calls (k : Nat) (A00 : SkL ((SkL (SkL Unit)) × (SkL Unit) × (SkL (SkL Unit)) × (SkL Unit))) (a0 : (List api_Gate)) (a1 : api_Event) (r : trace_seen) (h : trace_of.f k a0 a1 = some r) : Pure Tryz.prog ([Row 21 api_Gate.encS api_Gate.inK A00 a0] ++ Glob) 14 #[slcV A00 a0.length, api_Event.v a1] (trace_seen.v r) := by
 intro w Z hS
 refine callsS (args := [slcV A00 a0.length, api_Event.v a1]) (L := [(0, slcV A00 a0.length), (1, api_Event.v a1)]) (N := 66) Tryz.func14 hS ?_
 have hM := h
 clear h hS
 unfold trace_of.f at hM
 refine WP.seq ?_
 refine WP.rh [] (fun b1 => [(3, .pointer (some ⟨b1, 0, none⟩)), (4, .pointer (some ⟨(b1 + 1), 0, none⟩))]) (fun b1 => []) (fun b1 => [(b1, api_Event.o a1), ((b1 + 1), .cells #[.bool false, .int .i64 0, .int .i64 0, .string (⟨#[]⟩ : ByteArray), .int .i64 0, .int .u64 0, .int .u64 0, .bool false, .int .i64 0, .bool false, .int .i64 0, .int .i64 0, .string (⟨#[]⟩ : ByteArray), .bool false] 42 (0, 0))]) (fun b1 => ?_)
 refine WP.seq ?_
 refine WP.rh [0, 0, 0, 0, 2, 2, 2, 2, 2, 2, 2, 2, 2, 2, 2, 2, 2, 2] (fun b2 => [(5, .pointer (some ⟨b2, 0, none⟩))]) (fun b2 => []) (fun b2 => [(b2, .cells #[.bool a1.In, .int .i64 a1.Gate, .int .i64 a1.Port, .string a1.S, .int .i64 0, .int .u64 0, .int .u64 0, .bool false, .int .i64 0, .bool false, .int .i64 0, .int .i64 0, .string (⟨#[]⟩ : ByteArray), .bool false] 42 (0, 0))]) (fun b2 => ?_)
 refine WP.seq (WP.region (WL.rn 2 [0] [(13, .string a1.S)] ?_))
 obtain ⟨⟨r3, r4⟩, h5, hM⟩ := bind_some hM
 dsimp only at hM
 refine WL.callP [] [] (ether_Parse_calls k a1.S _ h5) (fun _ h => List.mem_append_right _ h) (by kernel_rfl) (by kernel_rfl) rfl ?_
 refine WL.rh 6 [3, 3, 3, 3, 3, 3, 3, 3] (fun b6 => [(6, .pointer (some ⟨b6, 0, none⟩)), (7, .int .i64 r4)]) (fun b6 => []) (fun b6 => [(b6, api_Frame.o r3)]) (fun b6 => ?_)
 refine WP.done (WP.seq (WP.seq (WP.region (WL.rn 3 [] [(19, .bool (r4 != 0))] ?_))))
 refine WL.bo 19 (r4 != 0) 4 [] [0] (fun b' => [(23, .bool (b' || (decide (a1.Gate < 1))))]) ?_
 refine WL.rn 1 [] [(24, .bool ((r4 != 0) || (decide (a1.Gate < 1))))] ?_
 refine WL.bo 24 ((r4 != 0) || (decide (a1.Gate < 1))) 6 [] [0] (fun b' => [(30, .bool (b' || (decide (a1.Gate > (a0.length : Int)))))]) ?_
 refine WP.done ?_
 refine WP.cond (((r4 != 0) || (decide (a1.Gate < 1))) || (decide (a1.Gate > (a0.length : Int)))) rfl rfl (fun c7 => ?_) (fun c7 => ?_)
 ·replace hM := cond_t hM c7
  refine WP.seq ?_
  refine WP.rh [2, 2, 2, 2, 2, 2, 2, 2, 2, 2, 2, 2, 2, 2, 1, 1, 1, 1, 1, 1, 1, 1, 1, 1, 1, 1, 1, 1] (fun _ => []) (fun _ => [(1, 0, [.bool a1.In, .int .i64 a1.Gate, .int .i64 a1.Port, .string a1.S])]) (fun _ => []) (fun _ => ?_)
  obtain rfl := Option.some.inj hM
  exact WP.retF [1, 1, 1, 1, 1, 1, 1, 1, 1, 1, 1, 1, 1, 1] [(b1 + 1), (b1 + 1), (b1 + 1), (b1 + 1), (b1 + 1), (b1 + 1), (b1 + 1), (b1 + 1), (b1 + 1), (b1 + 1), (b1 + 1), (b1 + 1), (b1 + 1), (b1 + 1)] [0]
 ·replace hM := cond_f hM c7
  refine WP.skip (WP.seq (WP.region (WL.rn 4 [0] [(32, slcV A00 a0.length), (35, .int .i64 (i64 (a1.Gate - 1)))] ?_)))
  obtain ⟨t8, h9, hM⟩ := bind_some hM
  refine WL.valF (φ := Row 21 api_Gate.encS api_Gate.inK A00 a0) (fact_at 0 rfl) (fun w hR => run_indexRowF (A := A00) (xs := a0) (i := i64 (a1.Gate - 1)) (k := .i64) (e := 73) (m := 21) (by kernel_rfl) (by kernel_rfl) h9 (by kernel_rfl) (by kernel_rfl) hR) (by kernel_rfl) (by kernel_rfl) rfl ?_
  refine WL.valF (φ := Row 21 api_Gate.encS api_Gate.inK A00 a0) (fact_at 0 rfl) (fun w hR => run_fieldRowF (A := A00) (xs := a0) (i := i64 (a1.Gate - 1)) (n := Int.toNat (i64 (a1.Gate - 1)) * 21 + 0) (n' := Int.toNat (i64 (a1.Gate - 1)) * 21 + 3) h9 (by kernel_rfl) (fun _ _ => by kernel_rfl) hR) (by kernel_rfl) (by kernel_rfl) rfl ?_
  refine WL.valF (φ := Row 21 api_Gate.encS api_Gate.inK A00 a0) (fact_at 0 rfl) (fun w hR => run_loadRowF (A := A00) (xs := a0) (i := i64 (a1.Gate - 1)) (j := 3) (v := slcV ((A00.s (Int.toNat (i64 (a1.Gate - 1)))).1) t8.Ports.length) h9 (fun _ => by kernel_rfl) (by kernel_rfl) (by kernel_rfl) hR) (by kernel_rfl) (by kernel_rfl) rfl ?_
  refine WL.know (Row 3 api_PortCfg.encS api_PortCfg.inK ((A00.s (Int.toNat (i64 (a1.Gate - 1)))).1) t8.Ports) [0] [Row 21 api_Gate.encS api_Gate.inK A00 a0] (by kernel_rfl) (fun w hψ => ((hψ _ (List.mem_singleton.2 rfl)).inner _ _ (getL_parts h9).2).1) ?_
  refine WL.rn 1 [] [(8, slcV ((A00.s (Int.toNat (i64 (a1.Gate - 1)))).1) t8.Ports.length)] ?_
  refine WP.done (WP.seq (WP.seq (WP.region (WL.rn 4 [0] [(42, .bool (decide (a1.Port < 1)))] ?_))))
  refine WL.bo 42 (decide (a1.Port < 1)) 6 [] [0] (fun b' => [(48, .bool (b' || (decide (a1.Port > (t8.Ports.length : Int)))))]) ?_
  refine WP.done ?_
  refine WP.cond ((decide (a1.Port < 1)) || (decide (a1.Port > (t8.Ports.length : Int)))) rfl rfl (fun c10 => ?_) (fun c10 => ?_)
  ·replace hM := cond_t hM c10
   refine WP.seq ?_
   refine WP.rh [2, 2, 2, 2, 2, 2, 2, 2, 2, 2, 2, 2, 2, 2, 1, 1, 1, 1, 1, 1, 1, 1, 1, 1, 1, 1, 1, 1] (fun _ => []) (fun _ => [(1, 0, [.bool a1.In, .int .i64 a1.Gate, .int .i64 a1.Port, .string a1.S])]) (fun _ => []) (fun _ => ?_)
   obtain rfl := Option.some.inj hM
   exact WP.retF [1, 1, 1, 1, 1, 1, 1, 1, 1, 1, 1, 1, 1, 1] [(b1 + 1), (b1 + 1), (b1 + 1), (b1 + 1), (b1 + 1), (b1 + 1), (b1 + 1), (b1 + 1), (b1 + 1), (b1 + 1), (b1 + 1), (b1 + 1), (b1 + 1), (b1 + 1)] [1]
  ·replace hM := cond_f hM c10
   refine WP.skip (WP.seq ?_)
   obtain ⟨t11, h12, hM⟩ := bind_some hM
   obtain ⟨⟨r13, r14, r15⟩, h16, hM⟩ := bind_some hM
   dsimp only at hM
   refine WP.rs [3, 4, 5, 6, 8] ?_
   refine WP.graphF (X := Unit) 18 7 [⟨0, 18, fun _ => [(b1, api_Event.o a1)], fun _ => []⟩, ⟨0, 18, fun _ => [((b1 + 1), .cells #[.bool false, .int .i64 0, .int .i64 0, .string (⟨#[]⟩ : ByteArray), .int .i64 0, .int .u64 0, .int .u64 0, .bool false, .int .i64 0, .bool false, .int .i64 0, .int .i64 0, .string (⟨#[]⟩ : ByteArray), .bool false] 42 (0, 0))], fun _ => []⟩, ⟨0, 13, fun _ => [(b2, .cells #[.bool a1.In, .int .i64 a1.Gate, .int .i64 a1.Port, .string a1.S, .int .i64 0, .int .u64 0, .int .u64 0, .bool false, .int .i64 0, .bool false, .int .i64 0, .int .i64 0, .string (⟨#[]⟩ : ByteArray), .bool false] 42 (0, 0))], fun _ => []⟩, ⟨0, 18, fun _ => [(b6, api_Frame.o r3)], fun _ => []⟩, ⟨14, 15, fun _ => [(b2, .cells #[.bool a1.In, .int .i64 a1.Gate, .int .i64 a1.Port, .string a1.S, .int .i64 r13, .int .u64 0, .int .u64 0, .bool false, .int .i64 0, .bool false, .int .i64 0, .int .i64 0, .string (⟨#[]⟩ : ByteArray), .bool false] 42 (0, 0))], fun _ => []⟩, ⟨16, 17, fun _ => [(b2, .cells #[.bool a1.In, .int .i64 a1.Gate, .int .i64 a1.Port, .string a1.S, .int .i64 r13, .int .u64 r14.Dst, .int .u64 r14.Src, .bool r14.Tag.Has, .int .i64 r14.Tag.Pri, .bool r14.Tag.Dei, .int .i64 r14.Tag.Vid, .int .i64 r14.Type_, .string r14.Body, .bool false] 42 (0, 0))], fun _ => []⟩, ⟨18, 18, fun _ => [(b2, .cells #[.bool a1.In, .int .i64 a1.Gate, .int .i64 a1.Port, .string a1.S, .int .i64 r13, .int .u64 r14.Dst, .int .u64 r14.Src, .bool r14.Tag.Has, .int .i64 r14.Tag.Pri, .bool r14.Tag.Dei, .int .i64 r14.Tag.Vid, .int .i64 r14.Type_, .string r14.Body, .bool r15] 42 (0, 0))], fun _ => []⟩] [⟨[], [], [], [], [], fun _ => slcV ((A00.s (Int.toNat (i64 (a1.Gate - 1)))).1) t8.Ports.length, fun _ => []⟩, ⟨[], [], [], [], [], fun _ => .pointer (some ⟨b1, 2, none⟩), fun _ => []⟩, ⟨[1], [0], [0], [], [], fun _ => .int .i64 a1.Port, fun _ => []⟩, ⟨[1, 2], [], [], [], [], fun _ => .int .i64 (i64 (a1.Port - 1)), fun _ => []⟩, ⟨[0, 1, 2, 3], [], [], [], [], fun _ => ptrV ((A00.s (Int.toNat (i64 (a1.Gate - 1)))).1) (Int.toNat (i64 (a1.Port - 1)) * 3), fun _ => []⟩, ⟨[0, 1, 2, 3, 4], [], [], [], [], fun _ => .agg #[.bool t11.Trunk, .int .i64 t11.Pvid, slcV (((A00.s (Int.toNat (i64 (a1.Gate - 1)))).1).s (Int.toNat (i64 (a1.Port - 1)))) t11.Vids.length], fun _ => [Row 1 (pl (encI .i64)) noK (((A00.s (Int.toNat (i64 (a1.Gate - 1)))).1).s (Int.toNat (i64 (a1.Port - 1)))) t11.Vids]⟩, ⟨[], [3], [3], [], [], fun _ => api_Frame.v r3, fun _ => []⟩, ⟨[0, 1, 2, 3, 4, 5, 6], [], [], [], [], fun _ => .tuple #[.int .i64 r13, api_Frame.v r14, .bool r15], fun _ => []⟩, ⟨[0, 1, 2, 3, 4, 5, 6, 7], [], [], [], [], fun _ => .tuple #[.int .i64 r13, api_Frame.v r14, .bool r15], fun _ => []⟩, ⟨[0, 1, 2, 3, 4, 5, 6, 7, 8], [], [], [], [], fun _ => .int .i64 r13, fun _ => []⟩, ⟨[0, 1, 2, 3, 4, 5, 6, 7, 8], [], [], [], [], fun _ => api_Frame.v r14, fun _ => []⟩, ⟨[0, 1, 2, 3, 4, 5, 6, 7, 8], [], [], [], [], fun _ => .bool r15, fun _ => []⟩, ⟨[0, 1, 2, 3, 4, 5, 6, 7, 8, 9], [], [], [], [], fun _ => .pointer (some ⟨b2, 4, none⟩), fun _ => []⟩, ⟨[0, 1, 2, 3, 4, 5, 6, 7, 8, 9, 12], [2], [4], [], [], fun _ => .tuple #[], fun _ => []⟩, ⟨[0, 1, 2, 3, 4, 5, 6, 7, 8, 9, 10, 12, 13], [], [], [], [], fun _ => .pointer (some ⟨b2, 5, none⟩), fun _ => []⟩, ⟨[0, 1, 2, 3, 4, 5, 6, 7, 8, 9, 10, 12, 13, 14], [4], [5], [], [], fun _ => .tuple #[], fun _ => []⟩, ⟨[0, 1, 2, 3, 4, 5, 6, 7, 8, 9, 10, 11, 12, 13, 14, 15], [], [], [], [], fun _ => .pointer (some ⟨b2, 13, none⟩), fun _ => []⟩, ⟨[0, 1, 2, 3, 4, 5, 6, 7, 8, 9, 10, 11, 12, 13, 14, 15, 16], [5], [6], [], [], fun _ => .tuple #[], fun _ => []⟩] (fun ξ => []) (fun ξ => [(b1, api_Event.o a1), ((b1 + 1), .cells #[.bool false, .int .i64 0, .int .i64 0, .string (⟨#[]⟩ : ByteArray), .int .i64 0, .int .u64 0, .int .u64 0, .bool false, .int .i64 0, .bool false, .int .i64 0, .int .i64 0, .string (⟨#[]⟩ : ByteArray), .bool false] 42 (0, 0)), (b6, api_Frame.o r3), (b2, .cells #[.bool a1.In, .int .i64 a1.Gate, .int .i64 a1.Port, .string a1.S, .int .i64 r13, .int .u64 r14.Dst, .int .u64 r14.Src, .bool r14.Tag.Has, .int .i64 r14.Tag.Pri, .bool r14.Tag.Dei, .int .i64 r14.Tag.Vid, .int .i64 r14.Type_, .string r14.Body, .bool r15] 42 (0, 0))]) (fun ξ => []) (fun ξ => [Row 1 (pl (encI .i64)) noK (((A00.s (Int.toNat (i64 (a1.Gate - 1)))).1).s (Int.toNat (i64 (a1.Port - 1)))) t11.Vids]) (AllN.cons ?_ (AllN.cons ?_ (AllN.cons ?_ (AllN.cons ?_ (AllN.cons ?_ (AllN.cons ?_ (AllN.cons ?_ (AllN.cons ?_ (AllN.cons ?_ (AllN.cons ?_ (AllN.cons ?_ (AllN.cons ?_ (AllN.cons ?_ (AllN.cons ?_ (AllN.cons ?_ (AllN.cons ?_ (AllN.cons ?_ (AllN.cons ?_ AllN.nil)))))))))))))))))) (AllN.cons (VAgr.c rfl) (AllN.cons (VAgr.c rfl) (AllN.cons (VAgr.c rfl) (AllN.cons (VAgr.c rfl) (AllN.cons (VAgr.c rfl) (AllN.cons (VAgr.c rfl) (AllN.cons (VAgr.c rfl) (AllN.cons (VAgr.c rfl) (AllN.cons (VAgr.c rfl) (AllN.cons (VAgr.c rfl) (AllN.cons (VAgr.c rfl) (AllN.cons (VAgr.c rfl) (AllN.cons (VAgr.c rfl) (AllN.cons (VAgr.c rfl) (AllN.cons (VAgr.c rfl) (AllN.cons (VAgr.c rfl) (AllN.cons (VAgr.c rfl) (AllN.cons (VAgr.c rfl) AllN.nil)))))))))))))))))) (AllN.cons (RAgr.c rfl) (AllN.cons (RAgr.c rfl) (AllN.cons (RAgr.c rfl) (AllN.cons (RAgr.c rfl) (AllN.cons (RAgr.c rfl) (AllN.cons (RAgr.c rfl) (AllN.cons (RAgr.c rfl) AllN.nil))))))) (fun ξ => ?_)
   ·
    intro o t ho ht ξ Gr Γr Lr Q hk
    cases ho; cases ht
    refine WL.rn 1 [] [(51, slcV ((A00.s (Int.toNat (i64 (a1.Gate - 1)))).1) t8.Ports.length)] ?_
    exact WL.fin (hk default)
   ·
    intro o t ho ht ξ Gr Γr Lr Q hk
    cases ho; cases ht
    refine WL.rn 1 [] [(52, .pointer (some ⟨b1, 2, none⟩))] ?_
    exact WL.fin (hk default)
   ·
    intro o t ho ht ξ Gr Γr Lr Q hk
    cases ho; cases ht
    refine WL.rn 1 [0] [(53, .int .i64 a1.Port)] ?_
    exact WL.fin (hk default)
   ·
    intro o t ho ht ξ Gr Γr Lr Q hk
    cases ho; cases ht
    refine WL.rn 1 [] [(54, .int .i64 (i64 (a1.Port - 1)))] ?_
    exact WL.fin (hk default)
   ·
    intro o t ho ht ξ Gr Γr Lr Q hk
    cases ho; cases ht
    refine WL.valF (φ := Row 3 api_PortCfg.encS api_PortCfg.inK ((A00.s (Int.toNat (i64 (a1.Gate - 1)))).1) t8.Ports) (fact_at 0 rfl) (fun w hR => run_indexRowF (A := (A00.s (Int.toNat (i64 (a1.Gate - 1)))).1) (xs := t8.Ports) (i := i64 (a1.Port - 1)) (k := .i64) (e := 84) (m := 3) (by kernel_rfl) (by kernel_rfl) h12 (by kernel_rfl) (by kernel_rfl) hR) (by kernel_rfl) (by kernel_rfl) rfl ?_
    exact WL.fin (hk default)
   ·
    intro o t ho ht ξ Gr Γr Lr Q hk
    cases ho; cases ht
    refine WL.valF (φ := Row 3 api_PortCfg.encS api_PortCfg.inK ((A00.s (Int.toNat (i64 (a1.Gate - 1)))).1) t8.Ports) (fact_at 0 rfl) (fun w hR => run_loadRowFA (A := (A00.s (Int.toNat (i64 (a1.Gate - 1)))).1) (xs := t8.Ports) (i := i64 (a1.Port - 1)) (j := 0) (n := 3) (vs := [.bool t11.Trunk, .int .i64 t11.Pvid, slcV (((A00.s (Int.toNat (i64 (a1.Gate - 1)))).1).s (Int.toNat (i64 (a1.Port - 1)))) t11.Vids.length]) h12 (fun _ => by kernel_rfl) (by kernel_rfl) (by kernel_rfl) (by kernel_rfl) rfl hR) (by kernel_rfl) (by kernel_rfl) rfl ?_
    refine WL.know (Row 1 (pl (encI .i64)) noK (((A00.s (Int.toNat (i64 (a1.Gate - 1)))).1).s (Int.toNat (i64 (a1.Port - 1)))) t11.Vids) [0] [Row 3 api_PortCfg.encS api_PortCfg.inK ((A00.s (Int.toNat (i64 (a1.Gate - 1)))).1) t8.Ports] (by kernel_rfl) (fun w hψ => ((hψ _ (List.mem_singleton.2 rfl)).inner _ _ (getL_parts h12).2)) ?_
    exact WL.fin (hk default)
   ·
    intro o t ho ht ξ Gr Γr Lr Q hk
    cases ho; cases ht
    refine WL.rn 1 [0, 0, 0, 0, 0, 0, 0, 0] [(57, api_Frame.v r3)] ?_
    exact WL.fin (hk default)
   ·
    intro o t ho ht ξ Gr Γr Lr Q hk
    cases ho; cases ht
    refine WL.callP [] [] (vlan_In_calls k (((A00.s (Int.toNat (i64 (a1.Gate - 1)))).1).s (Int.toNat (i64 (a1.Port - 1)))) t11.Trunk t11.Pvid t11.Vids r3 _ h16) (sub_pick [0] (by kernel_rfl)) (by kernel_rfl) (by kernel_rfl) rfl ?_
    exact WL.fin (hk default)
   ·
    intro o t ho ht ξ Gr Γr Lr Q hk
    cases ho; cases ht
    refine WL.rn 1 [] [(50, .tuple #[.int .i64 r13, api_Frame.v r14, .bool r15])] ?_
    exact WL.fin (hk default)
   ·
    intro o t ho ht ξ Gr Γr Lr Q hk
    cases ho; cases ht
    refine WL.rn 1 [] [(59, .int .i64 r13)] ?_
    exact WL.fin (hk default)
   ·
    intro o t ho ht ξ Gr Γr Lr Q hk
    cases ho; cases ht
    refine WL.rn 1 [] [(60, api_Frame.v r14)] ?_
    exact WL.fin (hk default)
   ·
    intro o t ho ht ξ Gr Γr Lr Q hk
    cases ho; cases ht
    refine WL.rn 1 [] [(61, .bool r15)] ?_
    exact WL.fin (hk default)
   ·
    intro o t ho ht ξ Gr Γr Lr Q hk
    cases ho; cases ht
    refine WL.rn 1 [] [(62, .pointer (some ⟨b2, 4, none⟩))] ?_
    exact WL.fin (hk default)
   ·
    intro o t ho ht ξ Gr Γr Lr Q hk
    cases ho; cases ht
    refine WL.rh 1 [0] (fun _ => []) (fun _ => [(0, 4, [.int .i64 r13])]) (fun _ => []) (fun _ => ?_)
    exact WL.fin (hk default)
   ·
    intro o t ho ht ξ Gr Γr Lr Q hk
    cases ho; cases ht
    refine WL.rn 1 [] [(63, .pointer (some ⟨b2, 5, none⟩))] ?_
    exact WL.fin (hk default)
   ·
    intro o t ho ht ξ Gr Γr Lr Q hk
    cases ho; cases ht
    refine WL.rh 1 [0, 0, 0, 0, 0, 0, 0, 0] (fun _ => []) (fun _ => [(0, 5, [.int .u64 r14.Dst, .int .u64 r14.Src, .bool r14.Tag.Has, .int .i64 r14.Tag.Pri, .bool r14.Tag.Dei, .int .i64 r14.Tag.Vid, .int .i64 r14.Type_, .string r14.Body])]) (fun _ => []) (fun _ => ?_)
    exact WL.fin (hk default)
   ·
    intro o t ho ht ξ Gr Γr Lr Q hk
    cases ho; cases ht
    refine WL.rn 1 [] [(64, .pointer (some ⟨b2, 13, none⟩))] ?_
    exact WL.fin (hk default)
   ·
    intro o t ho ht ξ Gr Γr Lr Q hk
    cases ho; cases ht
    refine WL.rh 1 [0] (fun _ => []) (fun _ => [(0, 13, [.bool r15])]) (fun _ => []) (fun _ => ?_)
    exact WL.fin (hk default)
   refine WP.less (Φ' := ([Row 1 (pl (encI .i64)) noK (((A00.s (Int.toNat (i64 (a1.Gate - 1)))).1).s (Int.toNat (i64 (a1.Port - 1)))) t11.Vids, Row 3 api_PortCfg.encS api_PortCfg.inK ((A00.s (Int.toNat (i64 (a1.Gate - 1)))).1) t8.Ports, Row 21 api_Gate.encS api_Gate.inK A00 a0] ++ Glob)) (fun _ h => h) ?_
   refine WP.kp [false, true, false, true] ?_
   refine WP.seq ?_
   refine WP.rh [1, 1, 1, 1, 1, 1, 1, 1, 1, 1, 1, 1, 1, 1, 0, 0, 0, 0, 0, 0, 0, 0, 0, 0, 0, 0, 0, 0] (fun _ => []) (fun _ => [(0, 0, [.bool a1.In, .int .i64 a1.Gate, .int .i64 a1.Port, .string a1.S, .int .i64 r13, .int .u64 r14.Dst, .int .u64 r14.Src, .bool r14.Tag.Has, .int .i64 r14.Tag.Pri, .bool r14.Tag.Dei, .int .i64 r14.Tag.Vid, .int .i64 r14.Type_, .string r14.Body, .bool r15])]) (fun _ => []) (fun _ => ?_)
   refine WP.kp [true, false] ?_
   obtain rfl := Option.some.inj hM
   exact WP.retF [0, 0, 0, 0, 0, 0, 0, 0, 0, 0, 0, 0, 0, 0] [(b1 + 1), (b1 + 1), (b1 + 1), (b1 + 1), (b1 + 1), (b1 + 1), (b1 + 1), (b1 + 1), (b1 + 1), (b1 + 1), (b1 + 1), (b1 + 1), (b1 + 1), (b1 + 1)] [2]
def vni_Of_1.f (a0 : Int) (a0_1 : Int) (a0_2 : (List Int)) (a1 : Int) : Option (Bool) :=
 some (a0 == a1)
theorem vni_Of_1_calls (b_0 : Nat) (A00 : SkL Unit) (a0 : Int) (a0_1 : Int) (a0_2 : (List Int)) (a1 : Int) (r : Bool) (h : vni_Of_1.f a0 a0_1 a0_2 a1 = some r) : Does Tryz.prog 85 #[.agg #[.int .i64 a0, .int .i64 a0_1, slcV A00 a0_2.length], .pointer (some ⟨b_0, 0, none⟩)] [(b_0, .cells #[.int .i64 a1] 3 (0, 0))] ([Row 1 (pl (encI .u32)) noK A00 a0_2] ++ Glob) (fun _ : Unit => .bool r) (fun _ => [(b_0, .cells #[.int .i64 a1] 3 (0, 0))]) (fun _ => []) (fun _ => ([Row 1 (pl (encI .u32)) noK A00 a0_2] ++ Glob)) := by
 intro w Z hS
 refine callsS (args := [.agg #[.int .i64 a0, .int .i64 a0_1, slcV A00 a0_2.length], .pointer (some ⟨b_0, 0, none⟩)]) (L := [(0, .agg #[.int .i64 a0, .int .i64 a0_1, slcV A00 a0_2.length]), (1, .pointer (some ⟨b_0, 0, none⟩))]) (N := 8) Tryz.func85 hS ?_
 have hM := h
 clear h hS
 unfold vni_Of_1.f at hM
 refine WP.seq ?_
 refine WP.rh [] (fun b1 => [(2, .pointer (some ⟨b1, 0, none⟩)), (3, .bool false)]) (fun b1 => []) (fun b1 => [(b1, .cells #[.int .i64 a0, .int .i64 a0_1, slcV A00 a0_2.length] 93 (0, 0))]) (fun b1 => ?_)
 refine WP.seq (WP.rn [1, 0] [(3, .bool (a0 == a1))] ?_)
 refine WP.kp [true, false] ?_
 obtain rfl := Option.some.inj hM
 exact WP.ret [] [] (.bool (a0 == a1)) (by kernel_rfl) (fun w' hw => ⟨(), rfl, (hw.pick [0] (by kernel_rfl)).lessF [0] (by kernel_rfl)⟩)
def api_Seg.l1 (a0 : (List api_Seg)) (a1 : Int) : Nat → Int → Int → Option (Int)
 | 0, _, _ => none
 | n + 1, x1, x2 =>
  bif decide (x2 < (a0.length : Int)) then
   (getL a0.length a0 x2).bind fun t4 =>
   (vni_Of_1.f t4.Vid t4.Vni t4.Peers a1).bind fun r6 =>
   bif r6 then
    some x2
   else
    api_Seg.l1 a0 a1 n x1 (i64 (x2 + 1))
  else
   some (-1)
def api_Seg.f (k : Nat) (a0 : (List api_Seg)) (a1 : Int) : Option (Int) :=
 api_Seg.l1 a0 a1 k 0 0
theorem api_Seg_calls (k : Nat) (b_0 : Nat) (A00 : SkL (SkL Unit)) (a0 : (List api_Seg)) (a1 : Int) (r : Int) (h : api_Seg.f k a0 a1 = some r) : Does Tryz.prog 130 #[slcV A00 a0.length, .func (.func 85) #[] #[.pointer (some ⟨b_0, 0, none⟩)]] [(b_0, .cells #[.int .i64 a1] 3 (0, 0))] ([Row 3 api_Seg.encS api_Seg.inK A00 a0] ++ Glob) (fun _ : Unit => .int .i64 r) (fun _ => [(b_0, .cells #[.int .i64 a1] 3 (0, 0))]) (fun _ => []) (fun _ => ([Row 3 api_Seg.encS api_Seg.inK A00 a0] ++ Glob)) := by
 intro w Z hS
 refine callsS (args := [slcV A00 a0.length, .func (.func 85) #[] #[.pointer (some ⟨b_0, 0, none⟩)]]) (L := [(0, slcV A00 a0.length), (1, .func (.func 85) #[] #[.pointer (some ⟨b_0, 0, none⟩)])]) (N := 19) Tryz.func130 hS ?_
 have hM := h
 clear h hS
 unfold api_Seg.f at hM
 refine WP.seq (WP.rn [] [(4, .int .i64 0)] ?_)
 refine WP.seq (WP.seq (WP.rn [] [(7, .int .i64 (a0.length : Int)), (8, .int .i64 0)] ?_))
 refine WP.block ?_
 refine WP.sub [0, 1, 4, 7, 8] (L' := [(0, slcV A00 a0.length), (1, .func (.func 85) #[] #[.pointer (some ⟨b_0, 0, none⟩)]), (4, .int .i64 0), (7, .int .i64 (a0.length : Int)), (8, .int .i64 0)]) (by kernel_rfl) ?_
 refine WP.lessF [0] (F' := [Row 3 api_Seg.encS api_Seg.inK A00 a0]) (by kernel_rfl) ?_
 refine WP.loop (σ := Int × Int) (fun n st => api_Seg.l1 a0 a1 n st.1 st.2) r (fun st => [(0, slcV A00 a0.length), (1, .func (.func 85) #[] #[.pointer (some ⟨b_0, 0, none⟩)]), (4, .int .i64 st.1), (7, .int .i64 (a0.length : Int)), (8, .int .i64 st.2)]) (fun st => Sat w Z [(b_0, .cells #[.int .i64 a1] 3 (0, 0))] [] ([Row 3 api_Seg.encS api_Seg.inK A00 a0] ++ Glob)) (st := (0, 0)) (fun n st hM => ?_) hM
 rcases n with _ | n
 ·exact nomatch (show (none : Option _) = some r from hM)
 obtain ⟨x1, x2⟩ := st
 replace hM : api_Seg.l1 a0 a1 (n + 1) x1 x2 = some r := hM
 rw [api_Seg.l1] at hM
 try dsimp only
 refine WP.seq (WP.rn [] [(9, .bool (decide (x2 < (a0.length : Int))))] ?_)
 refine WP.seq ?_
 refine WP.cond (decide (x2 < (a0.length : Int))) rfl rfl (fun c3 => ?_) (fun c3 => ?_)
 ·replace hM := cond_t hM c3
  refine WP.skip (WP.seq (WP.block (WP.seq (WP.rn [] [(5, .int .i64 x2), (10, .int .i64 x2)] ?_))))
  refine WP.seq (WP.region ?_)
  refine WL.rn 3 [] [(11, .func (.func 85) #[] #[.pointer (some ⟨b_0, 0, none⟩)]), (12, slcV A00 a0.length), (13, .int .i64 x2)] ?_
  obtain ⟨t4, h5, hM⟩ := bind_some hM
  refine WL.valF (φ := Row 3 api_Seg.encS api_Seg.inK A00 a0) (fact_at 0 rfl) (fun w hR => run_indexRowF (A := A00) (xs := a0) (i := x2) (k := .i64) (e := 93) (m := 3) (by kernel_rfl) (by kernel_rfl) h5 (by kernel_rfl) (by kernel_rfl) hR) (by kernel_rfl) (by kernel_rfl) rfl ?_
  refine WL.valF (φ := Row 3 api_Seg.encS api_Seg.inK A00 a0) (fact_at 0 rfl) (fun w hR => run_loadRowFA (A := A00) (xs := a0) (i := x2) (j := 0) (n := 3) (vs := [.int .i64 t4.Vid, .int .i64 t4.Vni, slcV (A00.s (Int.toNat x2)) t4.Peers.length]) h5 (fun _ => by kernel_rfl) (by kernel_rfl) (by kernel_rfl) (by kernel_rfl) rfl hR) (by kernel_rfl) (by kernel_rfl) rfl ?_
  refine WL.know (Row 1 (pl (encI .u32)) noK (A00.s (Int.toNat x2)) t4.Peers) [0] [Row 3 api_Seg.encS api_Seg.inK A00 a0] (by kernel_rfl) (fun w hψ => ((hψ _ (List.mem_singleton.2 rfl)).inner _ _ (getL_parts h5).2)) ?_
  obtain ⟨r6, h7, hM⟩ := bind_some hM
  refine WL.callE (X := Unit) [] [] [true] (fun _ => _) (vni_Of_1_calls b_0 (A00.s (Int.toNat x2)) t4.Vid t4.Vni t4.Peers a1 _ h7) rfl rfl (sub_pick [0] (by kernel_rfl)) (by kernel_rfl) (by kernel_rfl) (fun _ => rfl) (fun _ => ?_)
  refine WP.done ?_
  refine WP.cond r6 rfl rfl (fun c8 => ?_) (fun c8 => ?_)
  ·replace hM := cond_t hM c8
   refine WP.seq (WP.rn [] [(4, .int .i64 x2), (17, .int .i64 x2)] ?_)
   obtain rfl := Option.some.inj hM
   exact WP.ret [] [] (.int .i64 x2) (by kernel_rfl) (fun w' hw => ⟨(), rfl, (hw.pick [0] (by kernel_rfl)).lessF [1] (by kernel_rfl)⟩)
  ·replace hM := cond_f hM c8
   refine WP.skip (WP.leave (WP.rn [] [(8, .int .i64 (i64 (x2 + 1))), (18, .int .i64 (i64 (x2 + 1)))] ?_))
   exact WP.again' [0, 1, 4, 7, 8] (x1, i64 (x2 + 1)) hM (by kernel_rfl) (fun _ h => (h.pick [0] (by kernel_rfl)).lessF [1] (by kernel_rfl))
 ·replace hM := cond_f hM c3
  refine WP.exit rfl (WP.seq (WP.rn [] [(4, .int .i64 (-1))] ?_))
  obtain rfl := Option.some.inj hM
  exact WP.ret [] [] (.int .i64 (-1)) (by kernel_rfl) (fun w' hw => ⟨(), rfl, (hw.pick [0] (by kernel_rfl)).lessF [0] (by kernel_rfl)⟩)
def slices_Clone_uint32_uint32.f (a0 : (List Int)) : Option (List Int) := (roomL 4 a0.length).bind fun _ => some a0
theorem slices_Clone_uint32_uint32_calls (A00 : SkL Unit) (a0 : (List Int)) (r : (List Int)) (h : slices_Clone_uint32_uint32.f a0 = some r) : Does Tryz.prog 91 #[slcV A00 a0.length] [] ([Row 1 (pl (encI .u32)) noK A00 a0] ++ Glob) (fun x : SkL Unit => slcV x r.length) (fun _ => []) (fun _ => []) (fun x => [Row 1 (pl (encI .u32)) noK x r] ++ ([Row 1 (pl (encI .u32)) noK A00 a0] ++ Glob)) := by
 intro w Z hS
 refine calls_of (args := [slcV A00 a0.length]) (L := [(0, slcV A00 a0.length)]) (N := 8) (S := Sat w Z [] [] ([Row 1 (pl (encI .u32)) noK A00 a0] ++ Glob)) Tryz.func91 rfl rfl (Nat.le_of_ble_eq_true rfl) rfl hS ?_
 have hM := h
 clear h hS
 unfold slices_Clone_uint32_uint32.f at hM
 refine WP.fact (Row 1 (pl (encI .u32)) noK A00 a0) (fact_at 0 rfl) (fun w hw => hw.nil) (fun hn => ?_)
 obtain ⟨a, c, s, z⟩ := A00
 cases a with
 | none =>
  obtain ⟨h1, h2⟩ := hn rfl
  dsimp only at h1 h2
  subst h1; subst h2
  cases z with
  | none =>
   obtain ⟨u0, hu0, hM⟩ := bind_some hM
   obtain rfl := Option.some.inj hM
   show WP _ _ _ _ _ [(0, .slice none 0 0)] (Sat _ _ _ _ ([Row 1 (pl (encI .u32)) noK (⟨none, 0, s, none⟩ : SkL Unit) ([] : List Int)] ++ Glob))
   refine WP.seq (WP.rn [] [(2, .slice none 0 0)] ?_)
   refine WP.seq (WP.seq (WP.rn [] [(4, .bool true)] ?_))
   refine WP.yes rfl rfl (WP.seq (WP.rn [] [(2, .slice none 0 0)] ?_))
   refine WP.know (Row 1 (pl (encI .u32)) noK (SkL.nil (fun _ => ())) ([] : List Int)) [] [] (by kernel_rfl) (fun w _ => RowP.empty (fun _ => rfl)) ?_
   exact WP.ret [] [] (slcV (SkL.nil (fun _ => ())) ([] : List Int).length) (by kernel_rfl) (fun w' hw => ⟨(SkL.nil (fun _ => ())), rfl, (hw.pick [] (by kernel_rfl)).less (sub_ret [0] [1] (by kernel_rfl) (by kernel_rfl))⟩)
  | some ad =>
   refine WP.seq (WP.rn [] [(2, .slice none 0 0)] ?_)
   refine WP.seq (WP.seq (WP.rn [] [(4, .bool false)] ?_))
   refine WP.no rfl rfl (WP.skip (WP.seq (WP.region ?_)))
   refine WL.rh 2 [] (fun b1 => [(5, .slice (some ⟨b1, 0, none⟩) 0 0), (6, slcV (⟨none, 0, s, some ad⟩ : SkL Unit) ([] : List Int).length)]) (fun b1 => []) (fun b1 => [(b1, .cells #[] 49 (0, 0))]) (fun b1 => ?_)
   obtain ⟨u3, h2, hM⟩ := bind_some hM
   refine WL.appendCopy (A := (SkL.at b1 0 (fun _ => ()))) (B := (⟨none, 0, s, some ad⟩ : SkL Unit)) (ys := ([] : List Int)) (n := 0) (m := 1) (by_ := 4) (e := 49) (z := .int .u32 0) (f := (pl (encI .u32))) (K := noK) (d := 7) rfl rfl (by kernel_rfl) (by kernel_rfl) (by kernel_rfl) (fun _ _ => rfl) (by kernel_rfl) (by kernel_rfl) rfl rfl (by kernel_rfl) (fact_at 0 rfl) h2 (by kernel_rfl) (fun A4 => ?_)
   refine WL.less (Φ' := ([Row 1 (pl (encI .u32)) noK A4 ([] : List Int), Row 1 (pl (encI .u32)) noK (⟨none, 0, s, some ad⟩ : SkL Unit) ([] : List Int)] ++ Glob)) (fun _ h => h) ?_
   refine WL.rn 1 [] [(2, slcV A4 ([] : List Int).length)] ?_
   refine WP.done (WP.kp [false] ?_)
   obtain rfl := Option.some.inj hM
   exact WP.ret [] [] (slcV A4 ([] : List Int).length) (by kernel_rfl) (fun w' hw => ⟨A4, rfl, (hw.pick [] (by kernel_rfl)).less (sub_ret [0] [1] (by kernel_rfl) (by kernel_rfl))⟩)
 | some p =>
  obtain ⟨b, o⟩ := p
  refine WP.seq (WP.rn [] [(2, .slice none 0 0)] ?_)
  refine WP.seq (WP.seq (WP.rn [] [(4, .bool false)] ?_))
  refine WP.no rfl rfl (WP.skip (WP.seq (WP.region ?_)))
  refine WL.rh 2 [] (fun b1 => [(5, .slice (some ⟨b1, 0, none⟩) 0 0), (6, slcV (⟨some (b, o), c, s, z⟩ : SkL Unit) a0.length)]) (fun b1 => []) (fun b1 => [(b1, .cells #[] 49 (0, 0))]) (fun b1 => ?_)
  obtain ⟨u3, h2, hM⟩ := bind_some hM
  refine WL.appendCopy (A := (SkL.at b1 0 (fun _ => ()))) (B := (⟨some (b, o), c, s, z⟩ : SkL Unit)) (ys := a0) (n := 0) (m := 1) (by_ := 4) (e := 49) (z := .int .u32 0) (f := (pl (encI .u32))) (K := noK) (d := 7) rfl rfl (by kernel_rfl) (by kernel_rfl) (by kernel_rfl) (fun _ _ => rfl) (by kernel_rfl) (by kernel_rfl) rfl rfl (by kernel_rfl) (fact_at 0 rfl) h2 (by kernel_rfl) (fun A4 => ?_)
  refine WL.less (Φ' := ([Row 1 (pl (encI .u32)) noK A4 a0, Row 1 (pl (encI .u32)) noK (⟨some (b, o), c, s, z⟩ : SkL Unit) a0] ++ Glob)) (fun _ h => h) ?_
  refine WL.rn 1 [] [(2, slcV A4 a0.length)] ?_
  refine WP.done (WP.kp [false] ?_)
  obtain rfl := Option.some.inj hM
  exact WP.ret [] [] (slcV A4 a0.length) (by kernel_rfl) (fun w' hw => ⟨A4, rfl, (hw.pick [] (by kernel_rfl)).less (sub_ret [0] [1] (by kernel_rfl) (by kernel_rfl))⟩)
def vni_first.f (k : Nat) (a0 : (List api_Seg)) (a1 : Int) : Option (api_Seg × Bool) :=
 (api_Seg.f k a0 a1).bind fun r2 =>
 bif decide (r2 < 0) then
  some ((api_Seg.mk 0 0 ([] : List Int)), false)
 else
  (getL a0.length a0 r2).bind fun t5 =>
  (slices_Clone_uint32_uint32.f t5.Peers).bind fun r8 =>
  some ((api_Seg.mk t5.Vid t5.Vni r8), true)
theorem vni_first_calls (k : Nat) (b_0 : Nat) (A00 : SkL (SkL Unit)) (a0 : (List api_Seg)) (a1 : Int) (r : api_Seg × Bool) (h : vni_first.f k a0 a1 = some r) : Does Tryz.prog 84 #[slcV A00 a0.length, .func (.func 85) #[] #[.pointer (some ⟨b_0, 0, none⟩)]] [(b_0, .cells #[.int .i64 a1] 3 (0, 0))] ([Row 3 api_Seg.encS api_Seg.inK A00 a0] ++ Glob) (fun x : (SkL Unit) => .tuple #[.agg #[.int .i64 r.1.Vid, .int .i64 r.1.Vni, slcV x r.1.Peers.length], .bool r.2]) (fun x => [(b_0, .cells #[.int .i64 a1] 3 (0, 0))]) (fun _ => []) (fun x => [Row 1 (pl (encI .u32)) noK x r.1.Peers] ++ ([Row 3 api_Seg.encS api_Seg.inK A00 a0] ++ Glob)) := by
 intro w Z hS
 refine callsS (args := [slcV A00 a0.length, .func (.func 85) #[] #[.pointer (some ⟨b_0, 0, none⟩)]]) (L := [(0, slcV A00 a0.length), (1, .func (.func 85) #[] #[.pointer (some ⟨b_0, 0, none⟩)])]) (N := 23) Tryz.func84 hS ?_
 have hM := h
 clear h hS
 unfold vni_first.f at hM
 refine WP.seq ?_
 refine WP.rh [] (fun b1 => [(4, .pointer (some ⟨b1, 0, none⟩)), (5, .bool false)]) (fun b1 => []) (fun b1 => [(b1, .cells #[.int .i64 0, .int .i64 0, .slice none 0 0] 93 (0, 0))]) (fun b1 => ?_)
 refine WP.seq (WP.region ?_)
 refine WL.rn 2 [] [(8, slcV A00 a0.length), (9, .func (.func 85) #[] #[.pointer (some ⟨b_0, 0, none⟩)])] ?_
 obtain ⟨r2, h3, hM⟩ := bind_some hM
 refine WL.callE (X := Unit) [] [] [true, false] (fun _ => _) (api_Seg_calls k b_0 A00 a0 a1 _ h3) rfl rfl (sub_pick [0] (by kernel_rfl)) (by kernel_rfl) (by kernel_rfl) (fun _ => rfl) (fun _ => ?_)
 refine WL.rn 1 [] [(6, .int .i64 r2)] ?_
 refine WP.done (WP.seq (WP.seq (WP.rn [] [(12, .bool (decide (r2 < 0)))] ?_)))
 refine WP.cond (decide (r2 < 0)) rfl rfl (fun c4 => ?_) (fun c4 => ?_)
 ·replace hM := cond_t hM c4
  refine WP.seq (WP.rn [1, 1, 1] [(5, .bool false)] ?_)
  refine WP.know (Row 1 (pl (encI .u32)) noK (SkL.nil (fun _ => ())) ([] : List Int)) [] [] (by kernel_rfl) (fun w _ => RowP.empty (fun _ => rfl)) ?_
  obtain rfl := Option.some.inj hM
  exact WP.ret [1, 1, 1] [b1, b1, b1] (.tuple #[.agg #[.int .i64 0, .int .i64 0, slcV (SkL.nil (fun _ => ())) ([] : List Int).length], .bool false]) (by kernel_rfl) (fun w' hw => ⟨(SkL.nil (fun _ => ())), rfl, (hw.pick [0] (by kernel_rfl)).less (sub_ret [0] [1] (by kernel_rfl) (by kernel_rfl))⟩)
 ·replace hM := cond_f hM c4
  refine WP.skip (WP.seq (WP.region (WL.rn 2 [] [(14, slcV A00 a0.length), (15, .int .i64 r2)] ?_)))
  obtain ⟨t5, h6, hM⟩ := bind_some hM
  refine WL.valF (φ := Row 3 api_Seg.encS api_Seg.inK A00 a0) (fact_at 0 rfl) (fun w hR => run_indexRowF (A := A00) (xs := a0) (i := r2) (k := .i64) (e := 93) (m := 3) (by kernel_rfl) (by kernel_rfl) h6 (by kernel_rfl) (by kernel_rfl) hR) (by kernel_rfl) (by kernel_rfl) rfl ?_
  refine WL.valF (φ := Row 3 api_Seg.encS api_Seg.inK A00 a0) (fact_at 0 rfl) (fun w hR => run_loadRowFA (A := A00) (xs := a0) (i := r2) (j := 0) (n := 3) (vs := [.int .i64 t5.Vid, .int .i64 t5.Vni, slcV (A00.s (Int.toNat r2)) t5.Peers.length]) h6 (fun _ => by kernel_rfl) (by kernel_rfl) (by kernel_rfl) (by kernel_rfl) rfl hR) (by kernel_rfl) (by kernel_rfl) rfl ?_
  refine WL.know (Row 1 (pl (encI .u32)) noK (A00.s (Int.toNat r2)) t5.Peers) [0] [Row 3 api_Seg.encS api_Seg.inK A00 a0] (by kernel_rfl) (fun w hψ => ((hψ _ (List.mem_singleton.2 rfl)).inner _ _ (getL_parts h6).2)) ?_
  refine WL.rh 2 [2, 2, 2] (fun b7 => [(7, .pointer (some ⟨b7, 0, none⟩))]) (fun b7 => []) (fun b7 => [(b7, .cells #[.int .i64 t5.Vid, .int .i64 t5.Vni, slcV (A00.s (Int.toNat r2)) t5.Peers.length] 93 (0, 0))]) (fun b7 => ?_)
  refine WP.done (WP.seq (WP.region (WL.rn 2 [2] [(19, slcV (A00.s (Int.toNat r2)) t5.Peers.length)] ?_)))
  obtain ⟨r8, h9, hM⟩ := bind_some hM
  refine WL.callX (F0 := [Row 1 (pl (encI .u32)) noK (A00.s (Int.toNat r2)) t5.Peers]) [] [] [false, false, false] (fun _ => _) [0] (by kernel_rfl) (slices_Clone_uint32_uint32_calls (A00.s (Int.toNat r2)) t5.Peers _ h9) rfl rfl (by kernel_rfl) (by kernel_rfl) (fun _ => rfl) (fun A10 => ?_)
  refine WL.rh 2 [2] (fun _ => []) (fun _ => [(2, 2, [slcV A10 r8.length])]) (fun _ => []) (fun _ => ?_)
  refine WP.done (WP.seq ?_)
  refine WP.rh [2, 2, 2, 1, 1, 1] (fun _ => [(5, .bool true)]) (fun _ => [(1, 0, [.int .i64 t5.Vid, .int .i64 t5.Vni, slcV A10 r8.length])]) (fun _ => []) (fun _ => ?_)
  refine WP.kp [true, true, false] ?_
  obtain rfl := Option.some.inj hM
  exact WP.ret [1, 1, 1] [b1, b1, b1] (.tuple #[.agg #[.int .i64 t5.Vid, .int .i64 t5.Vni, slcV A10 r8.length], .bool true]) (by kernel_rfl) (fun w' hw => ⟨A10, rfl, (hw.pick [0] (by kernel_rfl)).less (sub_ret [0] [2] (by kernel_rfl) (by kernel_rfl))⟩)
def vni_Of.f (k : Nat) (a0 : (List api_Seg)) (a1 : Int) : Option (api_Seg × Bool) :=
 (vni_first.f k a0 a1).bind fun (r2, r3) =>
 some (r2, r3)
theorem vni_Of_calls (k : Nat) (A00 : SkL (SkL Unit)) (a0 : (List api_Seg)) (a1 : Int) (r : api_Seg × Bool) (h : vni_Of.f k a0 a1 = some r) : Does Tryz.prog 50 #[slcV A00 a0.length, .int .i64 a1] [] ([Row 3 api_Seg.encS api_Seg.inK A00 a0] ++ Glob) (fun x : (SkL Unit) => .tuple #[.agg #[.int .i64 r.1.Vid, .int .i64 r.1.Vni, slcV x r.1.Peers.length], .bool r.2]) (fun x => []) (fun _ => []) (fun x => [Row 1 (pl (encI .u32)) noK x r.1.Peers] ++ ([Row 3 api_Seg.encS api_Seg.inK A00 a0] ++ Glob)) := by
 intro w Z hS
 refine callsS (args := [slcV A00 a0.length, .int .i64 a1]) (L := [(0, slcV A00 a0.length), (1, .int .i64 a1)]) (N := 11) Tryz.func50 hS ?_
 have hM := h
 clear h hS
 unfold vni_Of.f at hM
 refine WP.seq ?_
 refine WP.rh [] (fun b1 => [(3, .pointer (some ⟨b1, 0, none⟩)), (4, .pointer (some ⟨(b1 + 1), 0, none⟩)), (5, .bool false)]) (fun b1 => []) (fun b1 => [(b1, .cells #[.int .i64 a1] 3 (0, 0)), ((b1 + 1), .cells #[.int .i64 0, .int .i64 0, .slice none 0 0] 93 (0, 0))]) (fun b1 => ?_)
 refine WP.seq (WP.region ?_)
 refine WL.rn 2 [] [(6, slcV A00 a0.length), (7, .func (.func 85) #[] #[.pointer (some ⟨b1, 0, none⟩)])] ?_
 obtain ⟨⟨r2, r3⟩, h4, hM⟩ := bind_some hM
 dsimp only at hM
 refine WL.callX (F0 := [Row 3 api_Seg.encS api_Seg.inK A00 a0]) [] [] [true, false] (fun _ => _) [0] (by kernel_rfl) (vni_first_calls k b1 A00 a0 a1 _ h4) rfl rfl (by kernel_rfl) (by kernel_rfl) (fun _ => rfl) (fun A5 => ?_)
 refine WL.rh 4 [1, 1, 1] (fun _ => [(5, .bool r3)]) (fun _ => [(1, 0, [.int .i64 r2.Vid, .int .i64 r2.Vni, slcV A5 r2.Peers.length])]) (fun _ => []) (fun _ => ?_)
 refine WP.done (WP.kp [false, true] ?_)
 obtain rfl := Option.some.inj hM
 exact WP.ret [0, 0, 0] [(b1 + 1), (b1 + 1), (b1 + 1)] (.tuple #[.agg #[.int .i64 r2.Vid, .int .i64 r2.Vni, slcV A5 r2.Peers.length], .bool r3]) (by kernel_rfl) (fun w' hw => ⟨A5, rfl, (hw.pick [] (by kernel_rfl)).less (sub_ret [0] [1] (by kernel_rfl) (by kernel_rfl))⟩)
def trace_same.f (k : Nat) (a0 : (List api_Gate)) (a1 : trace_seen) (a2 : trace_seen) : Option (Bool) :=
 bif ((!a1.is_) || (!a2.is_)) then
  some false
 else
  bif ((a1.Event.Gate == a2.Event.Gate) && (a1.vid == a2.vid)) then
   some true
  else
   (getL a0.length a0 (i64 (a1.Event.Gate - 1))).bind fun t4 =>
   (vni_Of.f k t4.Segs a1.vid).bind fun (r6, r7) =>
   (getL a0.length a0 (i64 (a2.Event.Gate - 1))).bind fun t11 =>
   (vni_Of.f k t11.Segs a2.vid).bind fun (r13, r14) =>
   some ((r7 && r14) && (r6.Vni == r13.Vni))
theorem trace_same_calls (k : Nat) (A00 : SkL ((SkL (SkL Unit)) × (SkL Unit) × (SkL (SkL Unit)) × (SkL Unit))) (a0 : (List api_Gate)) (a1 : trace_seen) (a2 : trace_seen) (r : Bool) (h : trace_same.f k a0 a1 a2 = some r) : Pure Tryz.prog ([Row 21 api_Gate.encS api_Gate.inK A00 a0] ++ Glob) 30 #[slcV A00 a0.length, trace_seen.v a1, trace_seen.v a2] (.bool r) := by
 intro w Z hS
 refine callsS (args := [slcV A00 a0.length, trace_seen.v a1, trace_seen.v a2]) (L := [(0, slcV A00 a0.length), (1, trace_seen.v a1), (2, trace_seen.v a2)]) (N := 72) Tryz.func30 hS ?_
 have hM := h
 clear h hS
 unfold trace_same.f at hM
 refine WP.seq ?_
 refine WP.rh [] (fun b1 => [(4, .pointer (some ⟨b1, 0, none⟩)), (5, .pointer (some ⟨(b1 + 1), 0, none⟩)), (6, .bool false)]) (fun b1 => []) (fun b1 => [(b1, trace_seen.o a1), ((b1 + 1), trace_seen.o a2)]) (fun b1 => ?_)
 refine WP.seq (WP.seq (WP.region (WL.rn 4 [0] [(14, .bool (!a1.is_))] ?_)))
 refine WL.bo 14 (!a1.is_) 4 [] [1] (fun b' => [(18, .bool (b' || (!a2.is_)))]) ?_
 refine WP.done ?_
 refine WP.cond ((!a1.is_) || (!a2.is_)) rfl rfl (fun c2 => ?_) (fun c2 => ?_)
 ·replace hM := cond_t hM c2
  refine WP.seq (WP.rn [] [(6, .bool false)] ?_)
  obtain rfl := Option.some.inj hM
  exact WP.retF [] [] [0]
 ·replace hM := cond_f hM c2
  refine WP.skip (WP.seq (WP.seq (WP.region (WL.rn 8 [0, 1] [(26, .bool (a1.Event.Gate == a2.Event.Gate))] ?_))))
  refine WL.bo 26 (a1.Event.Gate == a2.Event.Gate) 6 [0, 1] [] (fun b' => [(32, .bool (b' && (a1.vid == a2.vid)))]) ?_
  refine WP.done ?_
  refine WP.cond ((a1.Event.Gate == a2.Event.Gate) && (a1.vid == a2.vid)) rfl rfl (fun c3 => ?_) (fun c3 => ?_)
  ·replace hM := cond_t hM c3
   refine WP.seq (WP.rn [] [(6, .bool true)] ?_)
   obtain rfl := Option.some.inj hM
   exact WP.retF [] [] [0]
  ·replace hM := cond_f hM c3
   refine WP.skip (WP.seq ?_)
   obtain ⟨t4, h5, hM⟩ := bind_some hM
   obtain ⟨⟨r6, r7⟩, h8, hM⟩ := bind_some hM
   dsimp only at hM
   refine WP.rs [0, 4, 5, 6] ?_
   refine WP.graphF (X := ((SkL Unit) × Nat)) 17 4 [⟨0, 17, fun _ => [(b1, trace_seen.o a1)], fun _ => []⟩, ⟨0, 17, fun _ => [((b1 + 1), trace_seen.o a2)], fun _ => []⟩, ⟨15, 15, fun ξ => [((ξ 14).2, .cells #[.int .i64 0, .int .i64 0, .slice none 0 0] 93 (0, 0))], fun ξ => []⟩, ⟨16, 17, fun ξ => [((ξ 14).2, .cells #[.int .i64 r6.Vid, .int .i64 r6.Vni, slcV (ξ 10).1 r6.Peers.length] 93 (0, 0))], fun ξ => []⟩] [⟨[], [], [], [], [], fun _ => slcV A00 a0.length, fun _ => []⟩, ⟨[], [], [], [], [], fun _ => .pointer (some ⟨b1, 0, none⟩), fun _ => []⟩, ⟨[1], [], [], [], [], fun _ => .pointer (some ⟨b1, 1, none⟩), fun _ => []⟩, ⟨[1, 2], [0], [0], [], [], fun _ => .int .i64 a1.Event.Gate, fun _ => []⟩, ⟨[1, 2, 3], [], [], [], [], fun _ => .int .i64 (i64 (a1.Event.Gate - 1)), fun _ => []⟩, ⟨[0, 1, 2, 3, 4], [], [], [], [], fun _ => ptrV A00 (Int.toNat (i64 (a1.Event.Gate - 1)) * 21), fun _ => []⟩, ⟨[0, 1, 2, 3, 4, 5], [], [], [], [], fun _ => ptrV A00 (Int.toNat (i64 (a1.Event.Gate - 1)) * 21 + 17), fun _ => []⟩, ⟨[0, 1, 2, 3, 4, 5, 6], [], [], [], [], fun _ => slcV ((A00.s (Int.toNat (i64 (a1.Event.Gate - 1)))).2.2.1) t4.Segs.length, fun _ => [Row 3 api_Seg.encS api_Seg.inK ((A00.s (Int.toNat (i64 (a1.Event.Gate - 1)))).2.2.1) t4.Segs]⟩, ⟨[], [], [], [], [], fun _ => .pointer (some ⟨b1, 4, none⟩), fun _ => []⟩, ⟨[8], [0], [0], [], [], fun _ => .int .i64 a1.vid, fun _ => []⟩, ⟨[0, 1, 2, 3, 4, 5, 6, 7, 8, 9], [], [], [], [], fun ξ => .tuple #[.agg #[.int .i64 r6.Vid, .int .i64 r6.Vni, slcV (ξ 10).1 r6.Peers.length], .bool r7], fun ξ => [Row 1 (pl (encI .u32)) noK (ξ 10).1 r6.Peers]⟩, ⟨[0, 1, 2, 3, 4, 5, 6, 7, 8, 9, 10], [], [], [10], [], fun ξ => .tuple #[.agg #[.int .i64 r6.Vid, .int .i64 r6.Vni, slcV (ξ 10).1 r6.Peers.length], .bool r7], fun ξ => []⟩, ⟨[0, 1, 2, 3, 4, 5, 6, 7, 8, 9, 10, 11], [], [], [10], [], fun ξ => .agg #[.int .i64 r6.Vid, .int .i64 r6.Vni, slcV (ξ 10).1 r6.Peers.length], fun ξ => []⟩, ⟨[0, 1, 2, 3, 4, 5, 6, 7, 8, 9, 10, 11], [], [], [], [], fun _ => .bool r7, fun _ => []⟩, ⟨[], [], [2], [], [], fun ξ => .pointer (some ⟨(ξ 14).2, 0, none⟩), fun ξ => []⟩, ⟨[0, 1, 2, 3, 4, 5, 6, 7, 8, 9, 10, 11, 12, 14], [2], [3], [10, 14], [], fun _ => .tuple #[], fun _ => []⟩, ⟨[0, 1, 2, 3, 4, 5, 6, 7, 8, 9, 10, 11, 12, 13, 14, 15], [], [], [], [], fun _ => .bool r7, fun _ => []⟩] (fun ξ => [(7, .pointer (some ⟨(ξ 14).2, 0, none⟩)), (8, .bool r7)]) (fun ξ => [(b1, trace_seen.o a1), ((b1 + 1), trace_seen.o a2), ((ξ 14).2, .cells #[.int .i64 r6.Vid, .int .i64 r6.Vni, slcV (ξ 10).1 r6.Peers.length] 93 (0, 0))]) (fun ξ => []) (fun ξ => [Row 3 api_Seg.encS api_Seg.inK ((A00.s (Int.toNat (i64 (a1.Event.Gate - 1)))).2.2.1) t4.Segs, Row 1 (pl (encI .u32)) noK (ξ 10).1 r6.Peers]) (AllN.cons ?_ (AllN.cons ?_ (AllN.cons ?_ (AllN.cons ?_ (AllN.cons ?_ (AllN.cons ?_ (AllN.cons ?_ (AllN.cons ?_ (AllN.cons ?_ (AllN.cons ?_ (AllN.cons ?_ (AllN.cons ?_ (AllN.cons ?_ (AllN.cons ?_ (AllN.cons ?_ (AllN.cons ?_ (AllN.cons ?_ AllN.nil))))))))))))))))) (AllN.cons (VAgr.c rfl) (AllN.cons (VAgr.c rfl) (AllN.cons (VAgr.c rfl) (AllN.cons (VAgr.c rfl) (AllN.cons (VAgr.c rfl) (AllN.cons (VAgr.c rfl) (AllN.cons (VAgr.c rfl) (AllN.cons (VAgr.c rfl) (AllN.cons (VAgr.c rfl) (AllN.cons (VAgr.c rfl) (AllN.cons (fun t ht ξ ξ' h => by cases ht; have e10 : ξ 10 = ξ' 10 := h 10 (memN_iff.1 rfl); exact ⟨by first | rfl | simp only [e10], by first | rfl | simp only [e10]⟩) (AllN.cons (fun t ht ξ ξ' h => by cases ht; have e10 : ξ 10 = ξ' 10 := h 10 (memN_iff.1 rfl); exact ⟨by first | rfl | simp only [e10], by first | rfl | simp only [e10]⟩) (AllN.cons (fun t ht ξ ξ' h => by cases ht; have e10 : ξ 10 = ξ' 10 := h 10 (memN_iff.1 rfl); exact ⟨by first | rfl | simp only [e10], by first | rfl | simp only [e10]⟩) (AllN.cons (VAgr.c rfl) (AllN.cons (fun t ht ξ ξ' h => by cases ht; have e14 : ξ 14 = ξ' 14 := h 14 (memN_iff.1 rfl); exact ⟨by first | rfl | simp only [e14], by first | rfl | simp only [e14]⟩) (AllN.cons (VAgr.c rfl) (AllN.cons (VAgr.c rfl) AllN.nil))))))))))))))))) (AllN.cons (RAgr.c rfl) (AllN.cons (RAgr.c rfl) (AllN.cons (fun r hr ξ ξ' h => by cases hr; have e14 : ξ 14 = ξ' 14 := h 14 (memN_iff.1 rfl); exact ⟨by first | rfl | simp only [e14], by first | rfl | simp only [e14]⟩) (AllN.cons (fun r hr ξ ξ' h => by cases hr; have e10 : ξ 10 = ξ' 10 := h 10 (memN_iff.1 rfl); have e14 : ξ 14 = ξ' 14 := h 14 (memN_iff.1 rfl); exact ⟨by first | rfl | simp only [e10, e14], by first | rfl | simp only [e10, e14]⟩) AllN.nil)))) (fun ξ => ?_)
   ·
    intro o t ho ht ξ Gr Γr Lr Q hk
    cases ho; cases ht
    refine WL.rn 1 [] [(34, slcV A00 a0.length)] ?_
    exact WL.fin (hk default)
   ·
    intro o t ho ht ξ Gr Γr Lr Q hk
    cases ho; cases ht
    refine WL.rn 1 [] [(35, .pointer (some ⟨b1, 0, none⟩))] ?_
    exact WL.fin (hk default)
   ·
    intro o t ho ht ξ Gr Γr Lr Q hk
    cases ho; cases ht
    refine WL.rn 1 [] [(36, .pointer (some ⟨b1, 1, none⟩))] ?_
    exact WL.fin (hk default)
   ·
    intro o t ho ht ξ Gr Γr Lr Q hk
    cases ho; cases ht
    refine WL.rn 1 [0] [(37, .int .i64 a1.Event.Gate)] ?_
    exact WL.fin (hk default)
   ·
    intro o t ho ht ξ Gr Γr Lr Q hk
    cases ho; cases ht
    refine WL.rn 1 [] [(38, .int .i64 (i64 (a1.Event.Gate - 1)))] ?_
    exact WL.fin (hk default)
   ·
    intro o t ho ht ξ Gr Γr Lr Q hk
    cases ho; cases ht
    refine WL.valF (φ := Row 21 api_Gate.encS api_Gate.inK A00 a0) (fact_at 0 rfl) (fun w hR => run_indexRowF (A := A00) (xs := a0) (i := i64 (a1.Event.Gate - 1)) (k := .i64) (e := 73) (m := 21) (by kernel_rfl) (by kernel_rfl) h5 (by kernel_rfl) (by kernel_rfl) hR) (by kernel_rfl) (by kernel_rfl) rfl ?_
    exact WL.fin (hk default)
   ·
    intro o t ho ht ξ Gr Γr Lr Q hk
    cases ho; cases ht
    refine WL.valF (φ := Row 21 api_Gate.encS api_Gate.inK A00 a0) (fact_at 0 rfl) (fun w hR => run_fieldRowF (A := A00) (xs := a0) (i := i64 (a1.Event.Gate - 1)) (n := Int.toNat (i64 (a1.Event.Gate - 1)) * 21 + 0) (n' := Int.toNat (i64 (a1.Event.Gate - 1)) * 21 + 17) h5 (by kernel_rfl) (fun _ _ => by kernel_rfl) hR) (by kernel_rfl) (by kernel_rfl) rfl ?_
    exact WL.fin (hk default)
   ·
    intro o t ho ht ξ Gr Γr Lr Q hk
    cases ho; cases ht
    refine WL.valF (φ := Row 21 api_Gate.encS api_Gate.inK A00 a0) (fact_at 0 rfl) (fun w hR => run_loadRowF (A := A00) (xs := a0) (i := i64 (a1.Event.Gate - 1)) (j := 17) (v := slcV ((A00.s (Int.toNat (i64 (a1.Event.Gate - 1)))).2.2.1) t4.Segs.length) h5 (fun _ => by kernel_rfl) (by kernel_rfl) (by kernel_rfl) hR) (by kernel_rfl) (by kernel_rfl) rfl ?_
    refine WL.know (Row 3 api_Seg.encS api_Seg.inK ((A00.s (Int.toNat (i64 (a1.Event.Gate - 1)))).2.2.1) t4.Segs) [0] [Row 21 api_Gate.encS api_Gate.inK A00 a0] (by kernel_rfl) (fun w hψ => ((hψ _ (List.mem_singleton.2 rfl)).inner _ _ (getL_parts h5).2).2.2.1) ?_
    exact WL.fin (hk default)
   ·
    intro o t ho ht ξ Gr Γr Lr Q hk
    cases ho; cases ht
    refine WL.rn 1 [] [(42, .pointer (some ⟨b1, 4, none⟩))] ?_
    exact WL.fin (hk default)
   ·
    intro o t ho ht ξ Gr Γr Lr Q hk
    cases ho; cases ht
    refine WL.rn 1 [0] [(43, .int .i64 a1.vid)] ?_
    exact WL.fin (hk default)
   ·
    intro o t ho ht ξ Gr Γr Lr Q hk
    cases ho; cases ht
    refine WL.callX (F0 := [Row 3 api_Seg.encS api_Seg.inK ((A00.s (Int.toNat (i64 (a1.Event.Gate - 1)))).2.2.1) t4.Segs]) [] [] [] (fun _ => _) [0] (by kernel_rfl) (vni_Of_calls k ((A00.s (Int.toNat (i64 (a1.Event.Gate - 1)))).2.2.1) t4.Segs a1.vid _ h8) rfl rfl (by kernel_rfl) (by kernel_rfl) (fun _ => rfl) (fun A9 => ?_)
    exact WL.fin (hk (A9, default))
   ·
    intro o t ho ht ξ Gr Γr Lr Q hk
    cases ho; cases ht
    refine WL.rn 1 [] [(33, .tuple #[.agg #[.int .i64 r6.Vid, .int .i64 r6.Vni, slcV (ξ 10).1 r6.Peers.length], .bool r7])] ?_
    exact WL.fin (hk default)
   ·
    intro o t ho ht ξ Gr Γr Lr Q hk
    cases ho; cases ht
    refine WL.rn 1 [] [(45, .agg #[.int .i64 r6.Vid, .int .i64 r6.Vni, slcV (ξ 10).1 r6.Peers.length])] ?_
    exact WL.fin (hk default)
   ·
    intro o t ho ht ξ Gr Γr Lr Q hk
    cases ho; cases ht
    refine WL.rn 1 [] [(46, .bool r7)] ?_
    exact WL.fin (hk default)
   ·
    intro o t ho ht ξ Gr Γr Lr Q hk
    cases ho; cases ht
    refine WL.rh 1 [] (fun b10 => [(7, .pointer (some ⟨b10, 0, none⟩))]) (fun b10 => []) (fun b10 => [(b10, .cells #[.int .i64 0, .int .i64 0, .slice none 0 0] 93 (0, 0))]) (fun b10 => ?_)
    exact WL.fin (hk (default, b10))
   ·
    intro o t ho ht ξ Gr Γr Lr Q hk
    cases ho; cases ht
    refine WL.rh 1 [0, 0, 0] (fun _ => []) (fun _ => [(0, 0, [.int .i64 r6.Vid, .int .i64 r6.Vni, slcV (ξ 10).1 r6.Peers.length])]) (fun _ => []) (fun _ => ?_)
    exact WL.fin (hk default)
   ·
    intro o t ho ht ξ Gr Γr Lr Q hk
    cases ho; cases ht
    refine WL.rn 1 [] [(8, .bool r7)] ?_
    exact WL.fin (hk default)
   generalize (ξ 10).1 = A9
   generalize (ξ 14).2 = b10
   refine WP.less (Φ' := ([Row 3 api_Seg.encS api_Seg.inK ((A00.s (Int.toNat (i64 (a1.Event.Gate - 1)))).2.2.1) t4.Segs, Row 1 (pl (encI .u32)) noK A9 r6.Peers, Row 21 api_Gate.encS api_Gate.inK A00 a0] ++ Glob)) (fun _ h => h) ?_
   refine WP.kp [false, true, true] ?_
   refine WP.seq ?_
   obtain ⟨t11, h12, hM⟩ := bind_some hM
   obtain ⟨⟨r13, r14⟩, h15, hM⟩ := bind_some hM
   dsimp only at hM
   refine WP.rs [0, 5, 6, 7, 8] ?_
   refine WP.graphF (X := ((SkL Unit) × Nat)) 17 4 [⟨0, 17, fun _ => [((b1 + 1), trace_seen.o a2)], fun _ => []⟩, ⟨0, 17, fun _ => [(b10, .cells #[.int .i64 r6.Vid, .int .i64 r6.Vni, slcV A9 r6.Peers.length] 93 (0, 0))], fun _ => []⟩, ⟨15, 15, fun ξ => [((ξ 14).2, .cells #[.int .i64 0, .int .i64 0, .slice none 0 0] 93 (0, 0))], fun ξ => []⟩, ⟨16, 17, fun ξ => [((ξ 14).2, .cells #[.int .i64 r13.Vid, .int .i64 r13.Vni, slcV (ξ 10).1 r13.Peers.length] 93 (0, 0))], fun ξ => []⟩] [⟨[], [], [], [], [], fun _ => slcV A00 a0.length, fun _ => []⟩, ⟨[], [], [], [], [], fun _ => .pointer (some ⟨(b1 + 1), 0, none⟩), fun _ => []⟩, ⟨[1], [], [], [], [], fun _ => .pointer (some ⟨(b1 + 1), 1, none⟩), fun _ => []⟩, ⟨[1, 2], [0], [0], [], [], fun _ => .int .i64 a2.Event.Gate, fun _ => []⟩, ⟨[1, 2, 3], [], [], [], [], fun _ => .int .i64 (i64 (a2.Event.Gate - 1)), fun _ => []⟩, ⟨[0, 1, 2, 3, 4], [], [], [], [], fun _ => ptrV A00 (Int.toNat (i64 (a2.Event.Gate - 1)) * 21), fun _ => []⟩, ⟨[0, 1, 2, 3, 4, 5], [], [], [], [], fun _ => ptrV A00 (Int.toNat (i64 (a2.Event.Gate - 1)) * 21 + 17), fun _ => []⟩, ⟨[0, 1, 2, 3, 4, 5, 6], [], [], [], [], fun _ => slcV ((A00.s (Int.toNat (i64 (a2.Event.Gate - 1)))).2.2.1) t11.Segs.length, fun _ => [Row 3 api_Seg.encS api_Seg.inK ((A00.s (Int.toNat (i64 (a2.Event.Gate - 1)))).2.2.1) t11.Segs]⟩, ⟨[], [], [], [], [], fun _ => .pointer (some ⟨(b1 + 1), 4, none⟩), fun _ => []⟩, ⟨[8], [0], [0], [], [], fun _ => .int .i64 a2.vid, fun _ => []⟩, ⟨[0, 1, 2, 3, 4, 5, 6, 7, 8, 9], [], [], [], [], fun ξ => .tuple #[.agg #[.int .i64 r13.Vid, .int .i64 r13.Vni, slcV (ξ 10).1 r13.Peers.length], .bool r14], fun ξ => [Row 1 (pl (encI .u32)) noK (ξ 10).1 r13.Peers]⟩, ⟨[0, 1, 2, 3, 4, 5, 6, 7, 8, 9, 10], [], [], [10], [], fun ξ => .tuple #[.agg #[.int .i64 r13.Vid, .int .i64 r13.Vni, slcV (ξ 10).1 r13.Peers.length], .bool r14], fun ξ => []⟩, ⟨[0, 1, 2, 3, 4, 5, 6, 7, 8, 9, 10, 11], [], [], [10], [], fun ξ => .agg #[.int .i64 r13.Vid, .int .i64 r13.Vni, slcV (ξ 10).1 r13.Peers.length], fun ξ => []⟩, ⟨[0, 1, 2, 3, 4, 5, 6, 7, 8, 9, 10, 11], [], [], [], [], fun _ => .bool r14, fun _ => []⟩, ⟨[], [], [2], [], [], fun ξ => .pointer (some ⟨(ξ 14).2, 0, none⟩), fun ξ => []⟩, ⟨[0, 1, 2, 3, 4, 5, 6, 7, 8, 9, 10, 11, 12, 14], [2], [3], [10, 14], [], fun _ => .tuple #[], fun _ => []⟩, ⟨[0, 1, 2, 3, 4, 5, 6, 7, 8, 9, 10, 11, 12, 13, 14, 15], [], [], [], [], fun _ => .bool r14, fun _ => []⟩] (fun ξ => [(9, .pointer (some ⟨(ξ 14).2, 0, none⟩)), (10, .bool r14)]) (fun ξ => [((b1 + 1), trace_seen.o a2), (b10, .cells #[.int .i64 r6.Vid, .int .i64 r6.Vni, slcV A9 r6.Peers.length] 93 (0, 0)), ((ξ 14).2, .cells #[.int .i64 r13.Vid, .int .i64 r13.Vni, slcV (ξ 10).1 r13.Peers.length] 93 (0, 0))]) (fun ξ => []) (fun ξ => [Row 3 api_Seg.encS api_Seg.inK ((A00.s (Int.toNat (i64 (a2.Event.Gate - 1)))).2.2.1) t11.Segs, Row 1 (pl (encI .u32)) noK (ξ 10).1 r13.Peers]) (AllN.cons ?_ (AllN.cons ?_ (AllN.cons ?_ (AllN.cons ?_ (AllN.cons ?_ (AllN.cons ?_ (AllN.cons ?_ (AllN.cons ?_ (AllN.cons ?_ (AllN.cons ?_ (AllN.cons ?_ (AllN.cons ?_ (AllN.cons ?_ (AllN.cons ?_ (AllN.cons ?_ (AllN.cons ?_ (AllN.cons ?_ AllN.nil))))))))))))))))) (AllN.cons (VAgr.c rfl) (AllN.cons (VAgr.c rfl) (AllN.cons (VAgr.c rfl) (AllN.cons (VAgr.c rfl) (AllN.cons (VAgr.c rfl) (AllN.cons (VAgr.c rfl) (AllN.cons (VAgr.c rfl) (AllN.cons (VAgr.c rfl) (AllN.cons (VAgr.c rfl) (AllN.cons (VAgr.c rfl) (AllN.cons (fun t ht ξ ξ' h => by cases ht; have e10 : ξ 10 = ξ' 10 := h 10 (memN_iff.1 rfl); exact ⟨by first | rfl | simp only [e10], by first | rfl | simp only [e10]⟩) (AllN.cons (fun t ht ξ ξ' h => by cases ht; have e10 : ξ 10 = ξ' 10 := h 10 (memN_iff.1 rfl); exact ⟨by first | rfl | simp only [e10], by first | rfl | simp only [e10]⟩) (AllN.cons (fun t ht ξ ξ' h => by cases ht; have e10 : ξ 10 = ξ' 10 := h 10 (memN_iff.1 rfl); exact ⟨by first | rfl | simp only [e10], by first | rfl | simp only [e10]⟩) (AllN.cons (VAgr.c rfl) (AllN.cons (fun t ht ξ ξ' h => by cases ht; have e14 : ξ 14 = ξ' 14 := h 14 (memN_iff.1 rfl); exact ⟨by first | rfl | simp only [e14], by first | rfl | simp only [e14]⟩) (AllN.cons (VAgr.c rfl) (AllN.cons (VAgr.c rfl) AllN.nil))))))))))))))))) (AllN.cons (RAgr.c rfl) (AllN.cons (RAgr.c rfl) (AllN.cons (fun r hr ξ ξ' h => by cases hr; have e14 : ξ 14 = ξ' 14 := h 14 (memN_iff.1 rfl); exact ⟨by first | rfl | simp only [e14], by first | rfl | simp only [e14]⟩) (AllN.cons (fun r hr ξ ξ' h => by cases hr; have e10 : ξ 10 = ξ' 10 := h 10 (memN_iff.1 rfl); have e14 : ξ 14 = ξ' 14 := h 14 (memN_iff.1 rfl); exact ⟨by first | rfl | simp only [e10, e14], by first | rfl | simp only [e10, e14]⟩) AllN.nil)))) (fun ξ => ?_)
   ·
    intro o t ho ht ξ Gr Γr Lr Q hk
    cases ho; cases ht
    refine WL.rn 1 [] [(48, slcV A00 a0.length)] ?_
    exact WL.fin (hk default)
   ·
    intro o t ho ht ξ Gr Γr Lr Q hk
    cases ho; cases ht
    refine WL.rn 1 [] [(49, .pointer (some ⟨(b1 + 1), 0, none⟩))] ?_
    exact WL.fin (hk default)
   ·
    intro o t ho ht ξ Gr Γr Lr Q hk
    cases ho; cases ht
    refine WL.rn 1 [] [(50, .pointer (some ⟨(b1 + 1), 1, none⟩))] ?_
    exact WL.fin (hk default)
   ·
    intro o t ho ht ξ Gr Γr Lr Q hk
    cases ho; cases ht
    refine WL.rn 1 [0] [(51, .int .i64 a2.Event.Gate)] ?_
    exact WL.fin (hk default)
   ·
    intro o t ho ht ξ Gr Γr Lr Q hk
    cases ho; cases ht
    refine WL.rn 1 [] [(52, .int .i64 (i64 (a2.Event.Gate - 1)))] ?_
    exact WL.fin (hk default)
   ·
    intro o t ho ht ξ Gr Γr Lr Q hk
    cases ho; cases ht
    refine WL.valF (φ := Row 21 api_Gate.encS api_Gate.inK A00 a0) (fact_at 2 rfl) (fun w hR => run_indexRowF (A := A00) (xs := a0) (i := i64 (a2.Event.Gate - 1)) (k := .i64) (e := 73) (m := 21) (by kernel_rfl) (by kernel_rfl) h12 (by kernel_rfl) (by kernel_rfl) hR) (by kernel_rfl) (by kernel_rfl) rfl ?_
    exact WL.fin (hk default)
   ·
    intro o t ho ht ξ Gr Γr Lr Q hk
    cases ho; cases ht
    refine WL.valF (φ := Row 21 api_Gate.encS api_Gate.inK A00 a0) (fact_at 2 rfl) (fun w hR => run_fieldRowF (A := A00) (xs := a0) (i := i64 (a2.Event.Gate - 1)) (n := Int.toNat (i64 (a2.Event.Gate - 1)) * 21 + 0) (n' := Int.toNat (i64 (a2.Event.Gate - 1)) * 21 + 17) h12 (by kernel_rfl) (fun _ _ => by kernel_rfl) hR) (by kernel_rfl) (by kernel_rfl) rfl ?_
    exact WL.fin (hk default)
   ·
    intro o t ho ht ξ Gr Γr Lr Q hk
    cases ho; cases ht
    refine WL.valF (φ := Row 21 api_Gate.encS api_Gate.inK A00 a0) (fact_at 2 rfl) (fun w hR => run_loadRowF (A := A00) (xs := a0) (i := i64 (a2.Event.Gate - 1)) (j := 17) (v := slcV ((A00.s (Int.toNat (i64 (a2.Event.Gate - 1)))).2.2.1) t11.Segs.length) h12 (fun _ => by kernel_rfl) (by kernel_rfl) (by kernel_rfl) hR) (by kernel_rfl) (by kernel_rfl) rfl ?_
    refine WL.know (Row 3 api_Seg.encS api_Seg.inK ((A00.s (Int.toNat (i64 (a2.Event.Gate - 1)))).2.2.1) t11.Segs) [2] [Row 21 api_Gate.encS api_Gate.inK A00 a0] (by kernel_rfl) (fun w hψ => ((hψ _ (List.mem_singleton.2 rfl)).inner _ _ (getL_parts h12).2).2.2.1) ?_
    exact WL.fin (hk default)
   ·
    intro o t ho ht ξ Gr Γr Lr Q hk
    cases ho; cases ht
    refine WL.rn 1 [] [(56, .pointer (some ⟨(b1 + 1), 4, none⟩))] ?_
    exact WL.fin (hk default)
   ·
    intro o t ho ht ξ Gr Γr Lr Q hk
    cases ho; cases ht
    refine WL.rn 1 [0] [(57, .int .i64 a2.vid)] ?_
    exact WL.fin (hk default)
   ·
    intro o t ho ht ξ Gr Γr Lr Q hk
    cases ho; cases ht
    refine WL.callX (F0 := [Row 3 api_Seg.encS api_Seg.inK ((A00.s (Int.toNat (i64 (a2.Event.Gate - 1)))).2.2.1) t11.Segs]) [] [] [] (fun _ => _) [0] (by kernel_rfl) (vni_Of_calls k ((A00.s (Int.toNat (i64 (a2.Event.Gate - 1)))).2.2.1) t11.Segs a2.vid _ h15) rfl rfl (by kernel_rfl) (by kernel_rfl) (fun _ => rfl) (fun A16 => ?_)
    exact WL.fin (hk (A16, default))
   ·
    intro o t ho ht ξ Gr Γr Lr Q hk
    cases ho; cases ht
    refine WL.rn 1 [] [(47, .tuple #[.agg #[.int .i64 r13.Vid, .int .i64 r13.Vni, slcV (ξ 10).1 r13.Peers.length], .bool r14])] ?_
    exact WL.fin (hk default)
   ·
    intro o t ho ht ξ Gr Γr Lr Q hk
    cases ho; cases ht
    refine WL.rn 1 [] [(59, .agg #[.int .i64 r13.Vid, .int .i64 r13.Vni, slcV (ξ 10).1 r13.Peers.length])] ?_
    exact WL.fin (hk default)
   ·
    intro o t ho ht ξ Gr Γr Lr Q hk
    cases ho; cases ht
    refine WL.rn 1 [] [(60, .bool r14)] ?_
    exact WL.fin (hk default)
   ·
    intro o t ho ht ξ Gr Γr Lr Q hk
    cases ho; cases ht
    refine WL.rh 1 [] (fun b17 => [(9, .pointer (some ⟨b17, 0, none⟩))]) (fun b17 => []) (fun b17 => [(b17, .cells #[.int .i64 0, .int .i64 0, .slice none 0 0] 93 (0, 0))]) (fun b17 => ?_)
    exact WL.fin (hk (default, b17))
   ·
    intro o t ho ht ξ Gr Γr Lr Q hk
    cases ho; cases ht
    refine WL.rh 1 [0, 0, 0] (fun _ => []) (fun _ => [(0, 0, [.int .i64 r13.Vid, .int .i64 r13.Vni, slcV (ξ 10).1 r13.Peers.length])]) (fun _ => []) (fun _ => ?_)
    exact WL.fin (hk default)
   ·
    intro o t ho ht ξ Gr Γr Lr Q hk
    cases ho; cases ht
    refine WL.rn 1 [] [(10, .bool r14)] ?_
    exact WL.fin (hk default)
   generalize (ξ 10).1 = A16
   generalize (ξ 14).2 = b17
   refine WP.less (Φ' := ([Row 3 api_Seg.encS api_Seg.inK ((A00.s (Int.toNat (i64 (a2.Event.Gate - 1)))).2.2.1) t11.Segs, Row 1 (pl (encI .u32)) noK A16 r13.Peers, Row 3 api_Seg.encS api_Seg.inK ((A00.s (Int.toNat (i64 (a1.Event.Gate - 1)))).2.2.1) t4.Segs, Row 1 (pl (encI .u32)) noK A9 r6.Peers, Row 21 api_Gate.encS api_Gate.inK A00 a0] ++ Glob)) (fun _ h => h) ?_
   refine WP.kp [false, true, true] ?_
   refine WP.seq (WP.region (WL.rn 2 [] [(62, .bool r7)] ?_))
   refine WL.bo 62 r7 2 [] [] (fun b' => [(64, .bool (b' && r14))]) ?_
   refine WL.rn 1 [] [(65, .bool (r7 && r14))] ?_
   refine WL.bo 65 (r7 && r14) 6 [0, 1] [] (fun b' => [(71, .bool (b' && (r6.Vni == r13.Vni)))]) ?_
   refine WL.rn 1 [] [(6, .bool ((r7 && r14) && (r6.Vni == r13.Vni)))] ?_
   refine WP.done (WP.kp [false, false] ?_)
   obtain rfl := Option.some.inj hM
   exact WP.retF [] [] [4]
def trace_Same.f (k : Nat) (a0 : (List api_Gate)) (a1 : api_Event) (a2 : api_Event) : Option (Bool) :=
 (trace_of.f k a0 a1).bind fun r2 =>
 (trace_of.f k a0 a2).bind fun r4 =>
 (trace_same.f k a0 r2 r4).bind fun r6 =>
 some r6
theorem trace_Same_calls (k : Nat) (A00 : SkL ((SkL (SkL Unit)) × (SkL Unit) × (SkL (SkL Unit)) × (SkL Unit))) (a0 : (List api_Gate)) (a1 : api_Event) (a2 : api_Event) (r : Bool) (h : trace_Same.f k a0 a1 a2 = some r) : Pure Tryz.prog ([Row 21 api_Gate.encS api_Gate.inK A00 a0] ++ Glob) 10 #[slcV A00 a0.length, api_Event.v a1, api_Event.v a2] (.bool r) := by
 intro w Z hS
 refine callsS (args := [slcV A00 a0.length, api_Event.v a1, api_Event.v a2]) (L := [(0, slcV A00 a0.length), (1, api_Event.v a1), (2, api_Event.v a2)]) (N := 15) Tryz.func10 hS ?_
 have hM := h
 clear h hS
 unfold trace_Same.f at hM
 refine WP.seq ?_
 refine WP.rh [] (fun b1 => [(4, .pointer (some ⟨b1, 0, none⟩)), (5, .pointer (some ⟨(b1 + 1), 0, none⟩)), (6, .bool false)]) (fun b1 => []) (fun b1 => [(b1, api_Event.o a1), ((b1 + 1), api_Event.o a2)]) (fun b1 => ?_)
 refine WP.seq (WP.quiet (by kernel_rfl) (by kernel_rfl) ?_)
 refine QL.rn 3 [0, 0, 0, 0] [(7, slcV A00 a0.length), (8, slcV A00 a0.length), (9, api_Event.v a1)] ?_
 obtain ⟨r2, h3, hM⟩ := bind_some hM
 refine QL.callP [] [] (trace_of_calls k A00 a0 a1 _ h3) (sub_pick [0] (by kernel_rfl)) (by kernel_rfl) (by kernel_rfl) rfl ?_
 refine QL.rn 2 [1, 1, 1, 1] [(11, slcV A00 a0.length), (12, api_Event.v a2)] ?_
 obtain ⟨r4, h5, hM⟩ := bind_some hM
 refine QL.callP [] [] (trace_of_calls k A00 a0 a2 _ h5) (sub_pick [0] (by kernel_rfl)) (by kernel_rfl) (by kernel_rfl) rfl ?_
 obtain ⟨r6, h7, hM⟩ := bind_some hM
 refine QL.callP [] [] (trace_same_calls k A00 a0 r2 r4 _ h7) (sub_pick [0] (by kernel_rfl)) (by kernel_rfl) (by kernel_rfl) rfl ?_
 refine QL.rn 1 [] [(6, .bool r6)] ?_
 refine QL.done ?_
 refine WP.kp [false, false] ?_
 obtain rfl := Option.some.inj hM
 exact WP.retF [] [] [0]
def slices_Clone_bool_bool.f (a0 : (List Bool)) : Option (List Bool) := (roomL 1 a0.length).bind fun _ => some a0
theorem slices_Clone_bool_bool_calls (A00 : SkL Unit) (a0 : (List Bool)) (r : (List Bool)) (h : slices_Clone_bool_bool.f a0 = some r) : Does Tryz.prog 87 #[slcV A00 a0.length] [] ([Row 1 (pl encB) noK A00 a0] ++ Glob) (fun x : SkL Unit => slcV x r.length) (fun _ => []) (fun _ => []) (fun x => [Row 1 (pl encB) noK x r] ++ ([Row 1 (pl encB) noK A00 a0] ++ Glob)) := by
 intro w Z hS
 refine calls_of (args := [slcV A00 a0.length]) (L := [(0, slcV A00 a0.length)]) (N := 8) (S := Sat w Z [] [] ([Row 1 (pl encB) noK A00 a0] ++ Glob)) Tryz.func87 rfl rfl (Nat.le_of_ble_eq_true rfl) rfl hS ?_
 have hM := h
 clear h hS
 unfold slices_Clone_bool_bool.f at hM
 refine WP.fact (Row 1 (pl encB) noK A00 a0) (fact_at 0 rfl) (fun w hw => hw.nil) (fun hn => ?_)
 obtain ⟨a, c, s, z⟩ := A00
 cases a with
 | none =>
  obtain ⟨h1, h2⟩ := hn rfl
  dsimp only at h1 h2
  subst h1; subst h2
  cases z with
  | none =>
   obtain ⟨u0, hu0, hM⟩ := bind_some hM
   obtain rfl := Option.some.inj hM
   show WP _ _ _ _ _ [(0, .slice none 0 0)] (Sat _ _ _ _ ([Row 1 (pl encB) noK (⟨none, 0, s, none⟩ : SkL Unit) ([] : List Bool)] ++ Glob))
   refine WP.seq (WP.rn [] [(2, .slice none 0 0)] ?_)
   refine WP.seq (WP.seq (WP.rn [] [(4, .bool true)] ?_))
   refine WP.yes rfl rfl (WP.seq (WP.rn [] [(2, .slice none 0 0)] ?_))
   refine WP.know (Row 1 (pl encB) noK (SkL.nil (fun _ => ())) ([] : List Bool)) [] [] (by kernel_rfl) (fun w _ => RowP.empty (fun _ => rfl)) ?_
   exact WP.ret [] [] (slcV (SkL.nil (fun _ => ())) ([] : List Bool).length) (by kernel_rfl) (fun w' hw => ⟨(SkL.nil (fun _ => ())), rfl, (hw.pick [] (by kernel_rfl)).less (sub_ret [0] [1] (by kernel_rfl) (by kernel_rfl))⟩)
  | some ad =>
   refine WP.seq (WP.rn [] [(2, .slice none 0 0)] ?_)
   refine WP.seq (WP.seq (WP.rn [] [(4, .bool false)] ?_))
   refine WP.no rfl rfl (WP.skip (WP.seq (WP.region ?_)))
   refine WL.rh 2 [] (fun b1 => [(5, .slice (some ⟨b1, 0, none⟩) 0 0), (6, slcV (⟨none, 0, s, some ad⟩ : SkL Unit) ([] : List Bool).length)]) (fun b1 => []) (fun b1 => [(b1, .cells #[] 4 (0, 0))]) (fun b1 => ?_)
   obtain ⟨u3, h2, hM⟩ := bind_some hM
   refine WL.appendCopy (A := (SkL.at b1 0 (fun _ => ()))) (B := (⟨none, 0, s, some ad⟩ : SkL Unit)) (ys := ([] : List Bool)) (n := 0) (m := 1) (by_ := 1) (e := 4) (z := .bool false) (f := (pl encB)) (K := noK) (d := 7) rfl rfl (by kernel_rfl) (by kernel_rfl) (by kernel_rfl) (fun _ _ => rfl) (by kernel_rfl) (by kernel_rfl) rfl rfl (by kernel_rfl) (fact_at 0 rfl) h2 (by kernel_rfl) (fun A4 => ?_)
   refine WL.less (Φ' := ([Row 1 (pl encB) noK A4 ([] : List Bool), Row 1 (pl encB) noK (⟨none, 0, s, some ad⟩ : SkL Unit) ([] : List Bool)] ++ Glob)) (fun _ h => h) ?_
   refine WL.rn 1 [] [(2, slcV A4 ([] : List Bool).length)] ?_
   refine WP.done (WP.kp [false] ?_)
   obtain rfl := Option.some.inj hM
   exact WP.ret [] [] (slcV A4 ([] : List Bool).length) (by kernel_rfl) (fun w' hw => ⟨A4, rfl, (hw.pick [] (by kernel_rfl)).less (sub_ret [0] [1] (by kernel_rfl) (by kernel_rfl))⟩)
 | some p =>
  obtain ⟨b, o⟩ := p
  refine WP.seq (WP.rn [] [(2, .slice none 0 0)] ?_)
  refine WP.seq (WP.seq (WP.rn [] [(4, .bool false)] ?_))
  refine WP.no rfl rfl (WP.skip (WP.seq (WP.region ?_)))
  refine WL.rh 2 [] (fun b1 => [(5, .slice (some ⟨b1, 0, none⟩) 0 0), (6, slcV (⟨some (b, o), c, s, z⟩ : SkL Unit) a0.length)]) (fun b1 => []) (fun b1 => [(b1, .cells #[] 4 (0, 0))]) (fun b1 => ?_)
  obtain ⟨u3, h2, hM⟩ := bind_some hM
  refine WL.appendCopy (A := (SkL.at b1 0 (fun _ => ()))) (B := (⟨some (b, o), c, s, z⟩ : SkL Unit)) (ys := a0) (n := 0) (m := 1) (by_ := 1) (e := 4) (z := .bool false) (f := (pl encB)) (K := noK) (d := 7) rfl rfl (by kernel_rfl) (by kernel_rfl) (by kernel_rfl) (fun _ _ => rfl) (by kernel_rfl) (by kernel_rfl) rfl rfl (by kernel_rfl) (fact_at 0 rfl) h2 (by kernel_rfl) (fun A4 => ?_)
  refine WL.less (Φ' := ([Row 1 (pl encB) noK A4 a0, Row 1 (pl encB) noK (⟨some (b, o), c, s, z⟩ : SkL Unit) a0] ++ Glob)) (fun _ h => h) ?_
  refine WL.rn 1 [] [(2, slcV A4 a0.length)] ?_
  refine WP.done (WP.kp [false] ?_)
  obtain rfl := Option.some.inj hM
  exact WP.ret [] [] (slcV A4 a0.length) (by kernel_rfl) (fun w' hw => ⟨A4, rfl, (hw.pick [] (by kernel_rfl)).less (sub_ret [0] [1] (by kernel_rfl) (by kernel_rfl))⟩)
def slices_Clone_int_int.f (a0 : (List Int)) : Option (List Int) := (roomL 8 a0.length).bind fun _ => some a0
theorem slices_Clone_int_int_calls (A00 : SkL Unit) (a0 : (List Int)) (r : (List Int)) (h : slices_Clone_int_int.f a0 = some r) : Does Tryz.prog 88 #[slcV A00 a0.length] [] ([Row 1 (pl (encI .i64)) noK A00 a0] ++ Glob) (fun x : SkL Unit => slcV x r.length) (fun _ => []) (fun _ => []) (fun x => [Row 1 (pl (encI .i64)) noK x r] ++ ([Row 1 (pl (encI .i64)) noK A00 a0] ++ Glob)) := by
 intro w Z hS
 refine calls_of (args := [slcV A00 a0.length]) (L := [(0, slcV A00 a0.length)]) (N := 8) (S := Sat w Z [] [] ([Row 1 (pl (encI .i64)) noK A00 a0] ++ Glob)) Tryz.func88 rfl rfl (Nat.le_of_ble_eq_true rfl) rfl hS ?_
 have hM := h
 clear h hS
 unfold slices_Clone_int_int.f at hM
 refine WP.fact (Row 1 (pl (encI .i64)) noK A00 a0) (fact_at 0 rfl) (fun w hw => hw.nil) (fun hn => ?_)
 obtain ⟨a, c, s, z⟩ := A00
 cases a with
 | none =>
  obtain ⟨h1, h2⟩ := hn rfl
  dsimp only at h1 h2
  subst h1; subst h2
  cases z with
  | none =>
   obtain ⟨u0, hu0, hM⟩ := bind_some hM
   obtain rfl := Option.some.inj hM
   show WP _ _ _ _ _ [(0, .slice none 0 0)] (Sat _ _ _ _ ([Row 1 (pl (encI .i64)) noK (⟨none, 0, s, none⟩ : SkL Unit) ([] : List Int)] ++ Glob))
   refine WP.seq (WP.rn [] [(2, .slice none 0 0)] ?_)
   refine WP.seq (WP.seq (WP.rn [] [(4, .bool true)] ?_))
   refine WP.yes rfl rfl (WP.seq (WP.rn [] [(2, .slice none 0 0)] ?_))
   refine WP.know (Row 1 (pl (encI .i64)) noK (SkL.nil (fun _ => ())) ([] : List Int)) [] [] (by kernel_rfl) (fun w _ => RowP.empty (fun _ => rfl)) ?_
   exact WP.ret [] [] (slcV (SkL.nil (fun _ => ())) ([] : List Int).length) (by kernel_rfl) (fun w' hw => ⟨(SkL.nil (fun _ => ())), rfl, (hw.pick [] (by kernel_rfl)).less (sub_ret [0] [1] (by kernel_rfl) (by kernel_rfl))⟩)
  | some ad =>
   refine WP.seq (WP.rn [] [(2, .slice none 0 0)] ?_)
   refine WP.seq (WP.seq (WP.rn [] [(4, .bool false)] ?_))
   refine WP.no rfl rfl (WP.skip (WP.seq (WP.region ?_)))
   refine WL.rh 2 [] (fun b1 => [(5, .slice (some ⟨b1, 0, none⟩) 0 0), (6, slcV (⟨none, 0, s, some ad⟩ : SkL Unit) ([] : List Int).length)]) (fun b1 => []) (fun b1 => [(b1, .cells #[] 3 (0, 0))]) (fun b1 => ?_)
   obtain ⟨u3, h2, hM⟩ := bind_some hM
   refine WL.appendCopy (A := (SkL.at b1 0 (fun _ => ()))) (B := (⟨none, 0, s, some ad⟩ : SkL Unit)) (ys := ([] : List Int)) (n := 0) (m := 1) (by_ := 8) (e := 3) (z := .int .i64 0) (f := (pl (encI .i64))) (K := noK) (d := 7) rfl rfl (by kernel_rfl) (by kernel_rfl) (by kernel_rfl) (fun _ _ => rfl) (by kernel_rfl) (by kernel_rfl) rfl rfl (by kernel_rfl) (fact_at 0 rfl) h2 (by kernel_rfl) (fun A4 => ?_)
   refine WL.less (Φ' := ([Row 1 (pl (encI .i64)) noK A4 ([] : List Int), Row 1 (pl (encI .i64)) noK (⟨none, 0, s, some ad⟩ : SkL Unit) ([] : List Int)] ++ Glob)) (fun _ h => h) ?_
   refine WL.rn 1 [] [(2, slcV A4 ([] : List Int).length)] ?_
   refine WP.done (WP.kp [false] ?_)
   obtain rfl := Option.some.inj hM
   exact WP.ret [] [] (slcV A4 ([] : List Int).length) (by kernel_rfl) (fun w' hw => ⟨A4, rfl, (hw.pick [] (by kernel_rfl)).less (sub_ret [0] [1] (by kernel_rfl) (by kernel_rfl))⟩)
 | some p =>
  obtain ⟨b, o⟩ := p
  refine WP.seq (WP.rn [] [(2, .slice none 0 0)] ?_)
  refine WP.seq (WP.seq (WP.rn [] [(4, .bool false)] ?_))
  refine WP.no rfl rfl (WP.skip (WP.seq (WP.region ?_)))
  refine WL.rh 2 [] (fun b1 => [(5, .slice (some ⟨b1, 0, none⟩) 0 0), (6, slcV (⟨some (b, o), c, s, z⟩ : SkL Unit) a0.length)]) (fun b1 => []) (fun b1 => [(b1, .cells #[] 3 (0, 0))]) (fun b1 => ?_)
  obtain ⟨u3, h2, hM⟩ := bind_some hM
  refine WL.appendCopy (A := (SkL.at b1 0 (fun _ => ()))) (B := (⟨some (b, o), c, s, z⟩ : SkL Unit)) (ys := a0) (n := 0) (m := 1) (by_ := 8) (e := 3) (z := .int .i64 0) (f := (pl (encI .i64))) (K := noK) (d := 7) rfl rfl (by kernel_rfl) (by kernel_rfl) (by kernel_rfl) (fun _ _ => rfl) (by kernel_rfl) (by kernel_rfl) rfl rfl (by kernel_rfl) (fact_at 0 rfl) h2 (by kernel_rfl) (fun A4 => ?_)
  refine WL.less (Φ' := ([Row 1 (pl (encI .i64)) noK A4 a0, Row 1 (pl (encI .i64)) noK (⟨some (b, o), c, s, z⟩ : SkL Unit) a0] ++ Glob)) (fun _ h => h) ?_
  refine WL.rn 1 [] [(2, slcV A4 a0.length)] ?_
  refine WP.done (WP.kp [false] ?_)
  obtain rfl := Option.some.inj hM
  exact WP.ret [] [] (slcV A4 a0.length) (by kernel_rfl) (fun w' hw => ⟨A4, rfl, (hw.pick [] (by kernel_rfl)).less (sub_ret [0] [1] (by kernel_rfl) (by kernel_rfl))⟩)
end Go.Proofs.YtbbekdmndifkpaaGreatDoor
