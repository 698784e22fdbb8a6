/- The walks of the functions that the laws reach: each shows that a call returns what its plain model says, wherever the model gives an answer. -/
import Derived.Test.YtbodofjnfmjbpaaGreatDoorProg
import Derived.Shelf.Strings.OnBuilder
import Derived.Test.YtbodofjnfmjbpaaGreatDoorE2

namespace Go.Proofs.YtbodofjnfmjbpaaGreatDoor
open Go Eng
set_option linter.unusedVariables false

/-- What is known of the package-level variables. -/
def Glob : List Pr := [fun w => w.cell? ⟨0, 0, none⟩ = some (.iface 148 (.agg #[.pointer (some ⟨2, 73, none⟩)]))]

structure api_Udp where
  Src : Int
  Dst : Int
  NoSum : Bool
  Body : ByteArray

structure api_Seg where
  Vid : Int
  Vni : Int
  Peers : (List Int)

def api_Seg.encS (x : api_Seg) (s : (SkL Unit)) : List Value := [.int .i64 x.Vid, .int .i64 x.Vni, slcV s x.Peers.length]
def api_Seg.inK (x : api_Seg) (s : (SkL Unit)) : Pr := Row 1 (pl (encI .u32)) noK s x.Peers

abbrev Un0 : Type := (Option (Int × Int))
def Un0.v : Un0 → Value
  | none => .nilIface
  | some (q1, q2) => .iface 181 (.agg #[.int .i64 q1, .iface 30 (.int .i64 q2)])

structure ether_reader where
  s : ByteArray
  at_ : Int

abbrev Un1 : Type := (Option (ByteArray × Int))
def Un1.v : Un1 → Value
  | none => .nilIface
  | some (q1, q2) => .iface 183 (.agg #[.string q1, .iface 30 (.int .i64 q2)])

structure api_Tag where
  Has : Bool
  Pri : Int
  Dei : Bool
  Vid : Int

structure api_Frame where
  Dst : Int
  Src : Int
  Tag : api_Tag
  Type_ : Int
  Body : ByteArray

structure api_Ip where
  Tos : Int
  Id : Int
  Whole : Bool
  More : Bool
  Off : Int
  Ttl : Int
  Proto : Int
  Src : Int
  Dst : Int
  Body : ByteArray

structure station_why where
  n : Int

abbrev Un2 : Type := (Option (ByteArray × station_why))
def Un2.v : Un2 → Value
  | none => .nilIface
  | some (q1, q2) => .iface 138 (.agg #[.string q1, .iface 80 (.agg #[.int .i64 q2.n])])

structure api_Arp where
  Op : Int
  SMac : Int
  SIp : Int
  TMac : Int
  TIp : Int

structure inet_odd where
  err : Int

abbrev Un3 : Type := (Option inet_odd)
def Un3.v : Un3 → Value
  | none => .nilIface
  | some q1 => .iface 188 (.agg #[.int .i64 q1.err])

structure api_Got where
  Why : Int
  Src : Int
  U : api_Udp

structure gangwaylaw22_Way where
  Src : Int
  Dst : Int
  Id : Int
  Most : Int

end Go.Proofs.YtbodofjnfmjbpaaGreatDoor

namespace Go.Proofs.YtbodofjnfmjbpaaGreatDoor
open Go Eng
set_option linter.unusedVariables false
set_option linter.unusedSimpArgs false

/-! ### gangway/gangwaylaw21.Bound: function 11 -/
def gangwaylaw21_Bound.l1 (a0 : (List api_Seg)) : Nat → (List api_Seg) → Int → Option ((List api_Seg))
  | 0, _, _ => none
  | n + 1, x2, x4 =>
    bif ((decide (x4 < (a0.length : Int))) && (decide (x4 < 12))) then
      (getL a0.length a0 x4).bind fun t6 =>
      (sliceL t6.Peers 0 (imin (t6.Peers.length : Int) 20)).bind fun t10 =>
      (roomL 4 t10.length).bind fun u13 =>
      (roomL 40 (x2 ++ ([(api_Seg.mk t6.Vid t6.Vni t10)] : List api_Seg)).length).bind fun u17 =>
      gangwaylaw21_Bound.l1 a0 n (x2 ++ ([(api_Seg.mk t6.Vid t6.Vni t10)] : List api_Seg)) (i64 (x4 + 1))
    else
      some x2

def gangwaylaw21_Bound.f (k : Nat) (a0 : (List api_Seg)) : Option ((List api_Seg)) :=
  gangwaylaw21_Bound.l1 a0 k ([] : List api_Seg) 0

set_option maxRecDepth 100000 in
theorem gangwaylaw21_Bound_calls (k : Nat) (A00 : SkL (SkL Unit)) (a0 : (List api_Seg)) (r : (List api_Seg)) (h : gangwaylaw21_Bound.f k a0 = some r) : Does Tryz.prog 11 #[slcV A00 a0.length] [] ([Row 3 api_Seg.encS api_Seg.inK A00 a0] ++ Glob) (fun x : (SkL (SkL Unit)) => slcV x r.length) (fun x => []) (fun _ => []) (fun x => [Row 3 api_Seg.encS api_Seg.inK x r] ++ ([Row 3 api_Seg.encS api_Seg.inK A00 a0] ++ Glob)) := by
  intro w Z hS
  refine calls_of (args := [slcV A00 a0.length]) (L := [(0, slcV A00 a0.length)]) (N := 36) (S := Sat w Z [] [] ([Row 3 api_Seg.encS api_Seg.inK A00 a0] ++ Glob)) Tryz.func11 rfl rfl (Nat.le_of_ble_eq_true rfl) rfl hS ?_
  have hM := h
  clear h hS
  unfold gangwaylaw21_Bound.f at hM
  refine WP.seq ?_
  refine WP.run [] [0, 2] (fun _ => [(0, slcV A00 a0.length), (2, .slice none 0 0)]) (fun _ => []) (fun _ => []) (fun _ => by kernel_rfl) (fun _ => ?_)
  refine WP.seq ?_
  refine WP.run [] [0, 2, 3] (fun b1 => [(0, slcV A00 a0.length), (2, .slice none 0 0), (3, .slice (some ⟨b1, 0, none⟩) 0 0)]) (fun b1 => [(b1, .cells #[] 35 (0, 0))]) (fun b1 => []) (fun b1 => by kernel_rfl) (fun b1 => ?_)
  refine WP.seq ?_
  refine WP.seq ?_
  refine WP.run [] [0, 2, 3, 4] (fun _ => [(0, slcV A00 a0.length), (2, .slice none 0 0), (3, .slice (some ⟨b1, 0, none⟩) 0 0), (4, .int .i64 0)]) (fun _ => [(b1, .cells #[] 35 (0, 0))]) (fun _ => []) (fun _ => by kernel_rfl) (fun _ => ?_)
  refine WP.block ?_
  refine WP.growLit (H' := []) (m := 3) (e := 35) (f := api_Seg.encS) api_Seg.inK 0 (b := b1) (cs := #[]) (skF [] (SkL.nil (fun _ => ()))) ([] : List api_Seg) (by kernel_rfl) (fun _ _ => rfl) (by kernel_rfl) (by decide) [] [] (by kernel_rfl) (fun w hψ => trivial) (by kernel_rfl) ?_
  refine WP.sub [0, 2, 3, 4] (L' := [(0, slcV A00 a0.length), (2, .slice none 0 0), (3, slcV (SkL.at b1 0 (skF [] (SkL.nil (fun _ => ())))) ([] : List api_Seg).length), (4, .int .i64 0)]) (by kernel_rfl) ?_
  refine WP.lessF [0, 0, 1] (F' := [GIn api_Seg.inK (SkL.at b1 0 (skF [] (SkL.nil (fun _ => ())))) ([] : List api_Seg), GIn api_Seg.inK (SkL.at b1 0 (skF [] (SkL.nil (fun _ => ())))) ([] : List api_Seg), Row 3 api_Seg.encS api_Seg.inK A00 a0]) (by kernel_rfl) ?_
  refine WP.loop (σ := (List api_Seg) × SkL (SkL Unit) × Int) (fun n st => gangwaylaw21_Bound.l1 a0 n st.1 st.2.2) r (fun st => [(0, slcV A00 a0.length), (2, .slice none 0 0), (3, slcV st.2.1 st.1.length), (4, .int .i64 st.2.2)]) (fun st => Sat w Z [] [OwnR 3 35 api_Seg.encS st.2.1 st.1] ([GIn api_Seg.inK st.2.1 st.1, GIn api_Seg.inK (SkL.at b1 0 (skF [] (SkL.nil (fun _ => ())))) ([] : List api_Seg), Row 3 api_Seg.encS api_Seg.inK A00 a0] ++ Glob)) (st := (([] : List api_Seg), (SkL.at b1 0 (skF [] (SkL.nil (fun _ => ())))), 0)) (fun n st hM => ?_) hM
  rcases n with _ | n
  · exact nomatch (show (none : Option _) = some r from hM)
  obtain ⟨x2, A3, x4⟩ := st
  replace hM : gangwaylaw21_Bound.l1 a0 (n + 1) x2 x4 = some r := hM
  rw [gangwaylaw21_Bound.l1] at hM
  show WP _ _ _ _ _ [(0, slcV A00 a0.length), (2, .slice none 0 0), (3, slcV A3 x2.length), (4, .int .i64 x4)] (Sat w Z [] [OwnR 3 35 api_Seg.encS A3 x2] ([GIn api_Seg.inK A3 x2, GIn api_Seg.inK (SkL.at b1 0 (skF [] (SkL.nil (fun _ => ())))) ([] : List api_Seg), Row 3 api_Seg.encS api_Seg.inK A00 a0] ++ Glob))
  refine WP.seq ?_
  refine WP.seq ?_
  refine WP.region ?_
  refine WL.run 5 [] [0, 2, 3, 4, 7, 8, 9, 10, 11] (fun _ => [(0, slcV A00 a0.length), (2, .slice none 0 0), (3, slcV A3 x2.length), (4, .int .i64 x4), (7, .int .i64 x4), (8, slcV A00 a0.length), (9, .int .i64 (a0.length : Int)), (10, .bool (decide (x4 < (a0.length : Int)))), (11, .bool (decide (x4 < (a0.length : Int))))]) (fun _ => []) (fun _ => []) (fun _ => by kernel_rfl) (fun _ => ?_)
  refine WL.sub [0, 2, 3, 4, 7, 8, 9, 10, 11] (L' := [(0, slcV A00 a0.length), (2, .slice none 0 0), (3, slcV A3 x2.length), (4, .int .i64 x4), (7, .int .i64 x4), (8, slcV A00 a0.length), (9, .int .i64 (a0.length : Int)), (10, .bool (decide (x4 < (a0.length : Int)))), (11, .bool (decide (x4 < (a0.length : Int))))]) (by kernel_rfl) ?_
  refine WL.both (fun b' => [(0, slcV A00 a0.length), (2, .slice none 0 0), (3, slcV A3 x2.length), (4, .int .i64 x4), (7, .int .i64 x4), (8, slcV A00 a0.length), (9, .int .i64 (a0.length : Int)), (10, .bool (decide (x4 < (a0.length : Int)))), (11, .bool b')]) (decide (x4 < (a0.length : Int))) 3 [] [] [0, 2, 3, 4, 7, 8, 9, 10, 11, 14] (fun b' => [(0, slcV A00 a0.length), (2, .slice none 0 0), (3, slcV A3 x2.length), (4, .int .i64 x4), (7, .int .i64 x4), (8, slcV A00 a0.length), (9, .int .i64 (a0.length : Int)), (10, .bool (decide (x4 < (a0.length : Int)))), (11, .bool b'), (14, .bool (b' && (decide (x4 < 12))))]) [] [] (fun _ => by kernel_rfl) (fun _ => by kernel_rfl) ?_
  refine WP.done ?_
  refine WP.cond ((decide (x4 < (a0.length : Int))) && (decide (x4 < 12))) rfl rfl (fun c5 => ?_) (fun c5 => ?_)
  · replace hM := cond_t hM c5
    refine WP.skip ?_
    refine WP.seq ?_
    refine WP.block ?_
    refine WP.seq ?_
    refine WP.region ?_
    refine WL.run 2 [] [0, 2, 3, 4, 7, 8, 9, 10, 11, 14, 17, 18] (fun _ => [(0, slcV A00 a0.length), (2, .slice none 0 0), (3, slcV A3 x2.length), (4, .int .i64 x4), (7, .int .i64 x4), (8, slcV A00 a0.length), (9, .int .i64 (a0.length : Int)), (10, .bool (decide (x4 < (a0.length : Int)))), (11, .bool (decide (x4 < (a0.length : Int)))), (14, .bool ((decide (x4 < (a0.length : Int))) && (decide (x4 < 12)))), (17, slcV A00 a0.length), (18, .int .i64 x4)]) (fun _ => []) (fun _ => []) (fun _ => by kernel_rfl) (fun _ => ?_)
    obtain ⟨t6, h7, hM⟩ := bind_some hM
    refine WL.valF (φ := Row 3 api_Seg.encS api_Seg.inK A00 a0) (fact_at 2 rfl) (fun w hR => run_indexRowF (A := A00) (xs := a0) (i := x4) (k := .i64) (e := 35) (m := 3) (by kernel_rfl) (by kernel_rfl) h7 (by kernel_rfl) (by kernel_rfl) hR) (by kernel_rfl) (by kernel_rfl) rfl ?_
    refine WL.valF (φ := Row 3 api_Seg.encS api_Seg.inK A00 a0) (fact_at 2 rfl) (fun w hR => run_loadRowFA (A := A00) (xs := a0) (i := x4) (j := 0) (n := 3) (vs := [.int .i64 t6.Vid, .int .i64 t6.Vni, slcV (A00.s (Int.toNat x4)) t6.Peers.length]) h7 (fun _ => by kernel_rfl) (by kernel_rfl) (by kernel_rfl) (by kernel_rfl) rfl hR) (by kernel_rfl) (by kernel_rfl) rfl ?_
    refine WL.know (Row 1 (pl (encI .u32)) noK (A00.s (Int.toNat x4)) t6.Peers) [2] [Row 3 api_Seg.encS api_Seg.inK A00 a0] (by kernel_rfl) (fun w hψ => ((hψ _ (List.mem_singleton.2 rfl)).inner _ _ (getL_parts h7).2)) ?_
    refine WL.run 2 [0, 0, 0] [0, 2, 3, 4, 5, 7, 8, 9, 10, 11, 14, 17, 18, 19, 20] (fun b8 => [(0, slcV A00 a0.length), (2, .slice none 0 0), (3, slcV A3 x2.length), (4, .int .i64 x4), (5, .pointer (some ⟨b8, 0, none⟩)), (7, .int .i64 x4), (8, slcV A00 a0.length), (9, .int .i64 (a0.length : Int)), (10, .bool (decide (x4 < (a0.length : Int)))), (11, .bool (decide (x4 < (a0.length : Int)))), (14, .bool ((decide (x4 < (a0.length : Int))) && (decide (x4 < 12)))), (17, slcV A00 a0.length), (18, .int .i64 x4), (19, ptrV A00 (Int.toNat x4 * 3 + 0)), (20, .agg #[.int .i64 t6.Vid, .int .i64 t6.Vni, slcV (A00.s (Int.toNat x4)) t6.Peers.length])]) (fun b8 => [(b8, .cells #[.int .i64 t6.Vid, .int .i64 t6.Vni, slcV (A00.s (Int.toNat x4)) t6.Peers.length] 35 (0, 0))]) (fun b8 => [b8, b8, b8]) (fun b8 => by kernel_rfl) (fun b8 => ?_)
    refine WP.done ?_
    refine WP.seq ?_
    refine WP.region ?_
    refine WL.run 7 [0, 0] [0, 2, 3, 4, 5, 7, 8, 9, 10, 11, 14, 17, 18, 19, 20, 21, 22, 23, 24, 25, 26, 27] (fun b9 => [(0, slcV A00 a0.length), (2, .slice none 0 0), (3, slcV A3 x2.length), (4, .int .i64 x4), (5, .pointer (some ⟨b8, 0, none⟩)), (7, .int .i64 x4), (8, slcV A00 a0.length), (9, .int .i64 (a0.length : Int)), (10, .bool (decide (x4 < (a0.length : Int)))), (11, .bool (decide (x4 < (a0.length : Int)))), (14, .bool ((decide (x4 < (a0.length : Int))) && (decide (x4 < 12)))), (17, slcV A00 a0.length), (18, .int .i64 x4), (19, ptrV A00 (Int.toNat x4 * 3 + 0)), (20, .agg #[.int .i64 t6.Vid, .int .i64 t6.Vni, slcV (A00.s (Int.toNat x4)) t6.Peers.length]), (21, .slice (some ⟨b9, 0, none⟩) 0 0), (22, .pointer (some ⟨b8, 2, none⟩)), (23, slcV (A00.s (Int.toNat x4)) t6.Peers.length), (24, .pointer (some ⟨b8, 2, none⟩)), (25, slcV (A00.s (Int.toNat x4)) t6.Peers.length), (26, .int .i64 (t6.Peers.length : Int)), (27, .int .i64 (imin (t6.Peers.length : Int) 20))]) (fun b9 => [(b8, .cells #[.int .i64 t6.Vid, .int .i64 t6.Vni, slcV (A00.s (Int.toNat x4)) t6.Peers.length] 35 (0, 0)), (b9, .cells #[] 22 (0, 0))]) (fun b9 => [b8, b8]) (fun b9 => by kernel_rfl) (fun b9 => ?_)
    obtain ⟨t10, h11, hM⟩ := bind_some hM
    refine WL.valF (φ := Row 1 (pl (encI .u32)) noK (A00.s (Int.toNat x4)) t6.Peers) (fact_at 0 rfl) (fun w hR => run_sliceRow_hi (A := (A00.s (Int.toNat x4))) (xs := t6.Peers) (r := t10) (kh := .i64) (h := imin (t6.Peers.length : Int) 20) (e := 22) (m := 1) (by kernel_rfl) (by kernel_rfl) hR.ptr h11 (by kernel_rfl) (by kernel_rfl)) (by kernel_rfl) (by kernel_rfl) rfl ?_
    refine WL.know (Row 1 (pl (encI .u32)) noK ((A00.s (Int.toNat x4)).cut 0 1) t10) [0] [Row 1 (pl (encI .u32)) noK (A00.s (Int.toNat x4)) t6.Peers] (by kernel_rfl) (fun w hψ => (hψ _ (List.mem_singleton.2 rfl)).cut h11) ?_
    refine WL.growLit (H' := [(b8, .cells #[.int .i64 t6.Vid, .int .i64 t6.Vni, slcV (A00.s (Int.toNat x4)) t6.Peers.length] 35 (0, 0))]) (m := 1) (e := 22) (f := (pl (encI .u32))) noK 1 (b := b9) (cs := #[]) (fun _ => ()) ([] : List Int) (by kernel_rfl) (fun _ _ => rfl) (by kernel_rfl) (by decide) [] [] (by kernel_rfl) (fun w hψ => (InK.no _ _)) (by kernel_rfl) ?_
    obtain ⟨u13, h12, hM⟩ := bind_some hM
    refine WL.growApp (G' := [OwnR 3 35 api_Seg.encS A3 x2]) (A := (SkL.at b9 0 (fun _ => ()))) (B := ((A00.s (Int.toNat x4)).cut 0 1)) (xs := ([] : List Int)) (ys := t10) (m := 1) (by_ := 4) (e := 22) (z := .int .u32 0) (f := (pl (encI .u32))) (K := noK) (d := 29) 0 rfl rfl (by kernel_rfl) (by kernel_rfl) (by kernel_rfl) (by kernel_rfl) (by kernel_rfl) (fun _ _ => rfl) (fun _ _ => rfl) (by kernel_rfl) (by kernel_rfl) (by kernel_rfl) (by kernel_rfl) (by kernel_rfl) (fact_at 0 rfl) (fact_at 1 rfl) h12 (by kernel_rfl) (fun A14 => ?_)
    refine WL.less (Φ' := [GIn noK A14 t10, GIn noK (SkL.at b9 0 (fun _ => ())) ([] : List Int), Row 1 (pl (encI .u32)) noK ((A00.s (Int.toNat x4)).cut 0 1) t10, Row 1 (pl (encI .u32)) noK (A00.s (Int.toNat x4)) t6.Peers, GIn api_Seg.inK A3 x2, GIn api_Seg.inK (SkL.at b1 0 (skF [] (SkL.nil (fun _ => ())))) ([] : List api_Seg), Row 3 api_Seg.encS api_Seg.inK A00 a0] ++ Glob) (fun _ h => h) ?_
    refine WL.run 2 [0] [0, 2, 3, 4, 5, 7, 8, 9, 10, 11, 14, 17, 18, 19, 20, 22, 23, 24, 25, 26, 27, 28, 29, 30] (fun _ => [(0, slcV A00 a0.length), (2, .slice none 0 0), (3, slcV A3 x2.length), (4, .int .i64 x4), (5, .pointer (some ⟨b8, 0, none⟩)), (7, .int .i64 x4), (8, slcV A00 a0.length), (9, .int .i64 (a0.length : Int)), (10, .bool (decide (x4 < (a0.length : Int)))), (11, .bool (decide (x4 < (a0.length : Int)))), (14, .bool ((decide (x4 < (a0.length : Int))) && (decide (x4 < 12)))), (17, slcV A00 a0.length), (18, .int .i64 x4), (19, ptrV A00 (Int.toNat x4 * 3 + 0)), (20, .agg #[.int .i64 t6.Vid, .int .i64 t6.Vni, slcV (A00.s (Int.toNat x4)) t6.Peers.length]), (22, .pointer (some ⟨b8, 2, none⟩)), (23, slcV (A00.s (Int.toNat x4)) t6.Peers.length), (24, .pointer (some ⟨b8, 2, none⟩)), (25, slcV (A00.s (Int.toNat x4)) t6.Peers.length), (26, .int .i64 (t6.Peers.length : Int)), (27, .int .i64 (imin (t6.Peers.length : Int) 20)), (28, slcV ((A00.s (Int.toNat x4)).cut 0 1) t10.length), (29, slcV A14 t10.length), (30, .pointer (some ⟨b8, 2, none⟩))]) (fun _ => [(b8, .cells #[.int .i64 t6.Vid, .int .i64 t6.Vni, slcV A14 t10.length] 35 (0, 0))]) (fun _ => [b8]) (fun _ => by kernel_rfl) (fun _ => ?_)
    refine WP.done ?_
    refine WP.region ?_
    refine WL.run 3 [0, 0, 0] [0, 2, 3, 4, 5, 7, 8, 9, 10, 11, 14, 17, 18, 19, 20, 22, 23, 24, 25, 26, 27, 28, 29, 30, 31, 32, 33] (fun b15 => [(0, slcV A00 a0.length), (2, .slice none 0 0), (3, slcV A3 x2.length), (4, .int .i64 x4), (5, .pointer (some ⟨b8, 0, none⟩)), (7, .int .i64 x4), (8, slcV A00 a0.length), (9, .int .i64 (a0.length : Int)), (10, .bool (decide (x4 < (a0.length : Int)))), (11, .bool (decide (x4 < (a0.length : Int)))), (14, .bool ((decide (x4 < (a0.length : Int))) && (decide (x4 < 12)))), (17, slcV A00 a0.length), (18, .int .i64 x4), (19, ptrV A00 (Int.toNat x4 * 3 + 0)), (20, .agg #[.int .i64 t6.Vid, .int .i64 t6.Vni, slcV (A00.s (Int.toNat x4)) t6.Peers.length]), (22, .pointer (some ⟨b8, 2, none⟩)), (23, slcV (A00.s (Int.toNat x4)) t6.Peers.length), (24, .pointer (some ⟨b8, 2, none⟩)), (25, slcV (A00.s (Int.toNat x4)) t6.Peers.length), (26, .int .i64 (t6.Peers.length : Int)), (27, .int .i64 (imin (t6.Peers.length : Int) 20)), (28, slcV ((A00.s (Int.toNat x4)).cut 0 1) t10.length), (29, slcV A14 t10.length), (30, .pointer (some ⟨b8, 2, none⟩)), (31, slcV A3 x2.length), (32, .agg #[.int .i64 t6.Vid, .int .i64 t6.Vni, slcV A14 t10.length]), (33, .slice (some ⟨b15, 0, none⟩) 1 1)]) (fun b15 => [(b8, .cells #[.int .i64 t6.Vid, .int .i64 t6.Vni, slcV A14 t10.length] 35 (0, 0)), (b15, .cells #[.int .i64 t6.Vid, .int .i64 t6.Vni, slcV A14 t10.length] 35 (0, 0))]) (fun b15 => [b8, b8, b8]) (fun b15 => by kernel_rfl) (fun b15 => ?_)
    refine WL.growIce (G' := [OwnR 3 35 api_Seg.encS A3 x2]) (m := 1) (e := 22) (f := (pl (encI .u32))) (K := noK) (A := A14) (xs := t10) 0 0 (by kernel_rfl) (by kernel_rfl) (fun _ _ => rfl) (by kernel_rfl) ?_
    refine WL.ice (H' := [(b8, .cells #[.int .i64 t6.Vid, .int .i64 t6.Vni, slcV A14 t10.length] 35 (0, 0))]) (Row 3 api_Seg.encS api_Seg.inK (SkL.at b15 1 (skF [A14] (SkL.nil (fun _ => ())))) ([(api_Seg.mk t6.Vid t6.Vni t10)] : List api_Seg)) 1 (b := b15) (ob := .cells #[.int .i64 t6.Vid, .int .i64 t6.Vni, slcV A14 t10.length] 35 (0, 0)) (by kernel_rfl) [0] [Row 1 (pl (encI .u32)) noK A14 t10] (by kernel_rfl) (fun w hb hψ => row_of_block hb (fun _ _ => rfl) ⟨[], by kernel_rfl⟩ (Nat.le_of_ble_eq_true rfl) (And.intro (hψ _ (List.mem_of_getElem? (i := 0) rfl)) trivial)) (by kernel_rfl) ?_
    obtain ⟨u17, h16, hM⟩ := bind_some hM
    refine WL.growApp (G' := []) (A := A3) (B := (SkL.at b15 1 (skF [A14] (SkL.nil (fun _ => ()))))) (xs := x2) (ys := ([(api_Seg.mk t6.Vid t6.Vni t10)] : List api_Seg)) (m := 3) (by_ := 40) (e := 35) (z := .agg #[.int .i64 0, .int .i64 0, .slice none 0 0]) (f := api_Seg.encS) (K := api_Seg.inK) (d := 34) 0 rfl rfl (by kernel_rfl) (by kernel_rfl) (by kernel_rfl) (by kernel_rfl) (by kernel_rfl) (fun _ _ => rfl) (fun _ _ => rfl) (by kernel_rfl) (by kernel_rfl) (by kernel_rfl) (by kernel_rfl) (by kernel_rfl) (fact_at 6 rfl) (fact_at 0 rfl) h16 (by kernel_rfl) (fun A18 => ?_)
    refine WL.less (Φ' := [GIn api_Seg.inK A18 (x2 ++ ([(api_Seg.mk t6.Vid t6.Vni t10)] : List api_Seg)), Row 3 api_Seg.encS api_Seg.inK (SkL.at b15 1 (skF [A14] (SkL.nil (fun _ => ())))) ([(api_Seg.mk t6.Vid t6.Vni t10)] : List api_Seg), Row 1 (pl (encI .u32)) noK A14 t10, GIn noK A14 t10, GIn noK (SkL.at b9 0 (fun _ => ())) ([] : List Int), Row 1 (pl (encI .u32)) noK ((A00.s (Int.toNat x4)).cut 0 1) t10, Row 1 (pl (encI .u32)) noK (A00.s (Int.toNat x4)) t6.Peers, GIn api_Seg.inK A3 x2, GIn api_Seg.inK (SkL.at b1 0 (skF [] (SkL.nil (fun _ => ())))) ([] : List api_Seg), Row 3 api_Seg.encS api_Seg.inK A00 a0] ++ Glob) (fun _ h => h) ?_
    refine WL.run 1 [] [0, 2, 3, 4, 5, 7, 8, 9, 10, 11, 14, 17, 18, 19, 20, 22, 23, 24, 25, 26, 27, 28, 29, 30, 32, 33, 34] (fun _ => [(0, slcV A00 a0.length), (2, .slice none 0 0), (3, slcV A18 (x2 ++ ([(api_Seg.mk t6.Vid t6.Vni t10)] : List api_Seg)).length), (4, .int .i64 x4), (5, .pointer (some ⟨b8, 0, none⟩)), (7, .int .i64 x4), (8, slcV A00 a0.length), (9, .int .i64 (a0.length : Int)), (10, .bool (decide (x4 < (a0.length : Int)))), (11, .bool (decide (x4 < (a0.length : Int)))), (14, .bool ((decide (x4 < (a0.length : Int))) && (decide (x4 < 12)))), (17, slcV A00 a0.length), (18, .int .i64 x4), (19, ptrV A00 (Int.toNat x4 * 3 + 0)), (20, .agg #[.int .i64 t6.Vid, .int .i64 t6.Vni, slcV (A00.s (Int.toNat x4)) t6.Peers.length]), (22, .pointer (some ⟨b8, 2, none⟩)), (23, slcV (A00.s (Int.toNat x4)) t6.Peers.length), (24, .pointer (some ⟨b8, 2, none⟩)), (25, slcV (A00.s (Int.toNat x4)) t6.Peers.length), (26, .int .i64 (t6.Peers.length : Int)), (27, .int .i64 (imin (t6.Peers.length : Int) 20)), (28, slcV ((A00.s (Int.toNat x4)).cut 0 1) t10.length), (29, slcV A14 t10.length), (30, .pointer (some ⟨b8, 2, none⟩)), (32, .agg #[.int .i64 t6.Vid, .int .i64 t6.Vni, slcV A14 t10.length]), (33, slcV (SkL.at b15 1 (skF [A14] (SkL.nil (fun _ => ())))) ([(api_Seg.mk t6.Vid t6.Vni t10)] : List api_Seg).length), (34, slcV A18 (x2 ++ ([(api_Seg.mk t6.Vid t6.Vni t10)] : List api_Seg)).length)]) (fun _ => [(b8, .cells #[.int .i64 t6.Vid, .int .i64 t6.Vni, slcV A14 t10.length] 35 (0, 0))]) (fun _ => []) (fun _ => by kernel_rfl) (fun _ => ?_)
    refine WP.done ?_
    refine WP.leave ?_
    refine WP.run [] [0, 2, 3, 4, 5, 7, 8, 9, 10, 11, 14, 15, 16, 17, 18, 19, 20, 22, 23, 24, 25, 26, 27, 28, 29, 30, 32, 33, 34] (fun _ => [(0, slcV A00 a0.length), (2, .slice none 0 0), (3, slcV A18 (x2 ++ ([(api_Seg.mk t6.Vid t6.Vni t10)] : List api_Seg)).length), (4, .int .i64 (i64 (x4 + 1))), (5, .pointer (some ⟨b8, 0, none⟩)), (7, .int .i64 x4), (8, slcV A00 a0.length), (9, .int .i64 (a0.length : Int)), (10, .bool (decide (x4 < (a0.length : Int)))), (11, .bool (decide (x4 < (a0.length : Int)))), (14, .bool ((decide (x4 < (a0.length : Int))) && (decide (x4 < 12)))), (15, .int .i64 x4), (16, .int .i64 (i64 (x4 + 1))), (17, slcV A00 a0.length), (18, .int .i64 x4), (19, ptrV A00 (Int.toNat x4 * 3 + 0)), (20, .agg #[.int .i64 t6.Vid, .int .i64 t6.Vni, slcV (A00.s (Int.toNat x4)) t6.Peers.length]), (22, .pointer (some ⟨b8, 2, none⟩)), (23, slcV (A00.s (Int.toNat x4)) t6.Peers.length), (24, .pointer (some ⟨b8, 2, none⟩)), (25, slcV (A00.s (Int.toNat x4)) t6.Peers.length), (26, .int .i64 (t6.Peers.length : Int)), (27, .int .i64 (imin (t6.Peers.length : Int) 20)), (28, slcV ((A00.s (Int.toNat x4)).cut 0 1) t10.length), (29, slcV A14 t10.length), (30, .pointer (some ⟨b8, 2, none⟩)), (32, .agg #[.int .i64 t6.Vid, .int .i64 t6.Vni, slcV A14 t10.length]), (33, slcV (SkL.at b15 1 (skF [A14] (SkL.nil (fun _ => ())))) ([(api_Seg.mk t6.Vid t6.Vni t10)] : List api_Seg).length), (34, slcV A18 (x2 ++ ([(api_Seg.mk t6.Vid t6.Vni t10)] : List api_Seg)).length)]) (fun _ => [(b8, .cells #[.int .i64 t6.Vid, .int .i64 t6.Vni, slcV A14 t10.length] 35 (0, 0))]) (fun _ => []) (fun _ => by kernel_rfl) (fun _ => ?_)
    exact WP.again' [0, 2, 3, 4] ((x2 ++ ([(api_Seg.mk t6.Vid t6.Vni t10)] : List api_Seg)), A18, i64 (x4 + 1)) hM (by kernel_rfl) (fun _ h => ((h.pick [] (by kernel_rfl)).lessF [0, 8, 9] (by kernel_rfl)).pickG [0] [] 1 rfl (by decide) (by kernel_rfl))
  · replace hM := cond_f hM c5
    refine WP.exit rfl ?_
    refine WP.seq ?_
    refine WP.run [] [2] (fun _ => [(2, slcV A3 x2.length)]) (fun _ => []) (fun _ => []) (fun _ => by kernel_rfl) (fun _ => ?_)
    refine WP.growIce (G' := []) (m := 3) (e := 35) (f := api_Seg.encS) (K := api_Seg.inK) (A := A3) (xs := x2) 0 0 (by kernel_rfl) (by kernel_rfl) (fun _ _ => rfl) (by kernel_rfl) ?_
    obtain rfl := Option.some.inj hM
    exact WP.ret [] [] (slcV A3 x2.length) (by kernel_rfl) (fun w' hw => ⟨A3, rfl, (hw.pick [] (by kernel_rfl)).less (sub_ret [0] [3] (by kernel_rfl) (by kernel_rfl))⟩)

end Go.Proofs.YtbodofjnfmjbpaaGreatDoor

namespace Go.Proofs.YtbodofjnfmjbpaaGreatDoor
open Go Eng
set_option linter.unusedVariables false
set_option linter.unusedSimpArgs false

/-! ### gangway/gangwayref01.Num: function 51 -/
def gangwayref01_Num.l1 (a0 : ByteArray) : Nat → Int → Int → Option (Int)
  | 0, _, _ => none
  | n + 1, x1, x2 =>
    bif decide (x2 < (a0.size : Int)) then
      (idxS a0 x2).bind fun t4 =>
      gangwayref01_Num.l1 a0 n (u64 ((u64 (x1 * 256)) + (u64 t4))) (i64 (x2 + 1))
    else
      some x1

def gangwayref01_Num.f (k : Nat) (a0 : ByteArray) : Option (Int) :=
  gangwayref01_Num.l1 a0 k 0 0

set_option maxRecDepth 100000 in
theorem gangwayref01_Num_calls (k : Nat) (a0 : ByteArray) (r : Int) (h : gangwayref01_Num.f k a0 = some r) : Pure Tryz.prog Glob 51 #[.string a0] (.int .u64 r) := by
  intro w Z hS
  refine calls_of (args := [.string a0]) (L := [(0, .string a0)]) (N := 19) (S := Sat w Z [] [] Glob) Tryz.func51 rfl rfl (Nat.le_of_ble_eq_true rfl) rfl hS ?_
  have hM := h
  clear h hS
  unfold gangwayref01_Num.f at hM
  refine WP.seq ?_
  refine WP.run [] [0, 2] (fun _ => [(0, .string a0), (2, .int .u64 0)]) (fun _ => []) (fun _ => []) (fun _ => by kernel_rfl) (fun _ => ?_)
  refine WP.seq ?_
  refine WP.run [] [0, 2, 3] (fun _ => [(0, .string a0), (2, .int .u64 0), (3, .int .u64 0)]) (fun _ => []) (fun _ => []) (fun _ => by kernel_rfl) (fun _ => ?_)
  refine WP.seq ?_
  refine WP.seq ?_
  refine WP.run [] [0, 2, 3, 4] (fun _ => [(0, .string a0), (2, .int .u64 0), (3, .int .u64 0), (4, .int .i64 0)]) (fun _ => []) (fun _ => []) (fun _ => by kernel_rfl) (fun _ => ?_)
  refine WP.block ?_
  refine WP.sub [0, 2, 3, 4] (L' := [(0, .string a0), (2, .int .u64 0), (3, .int .u64 0), (4, .int .i64 0)]) (by kernel_rfl) ?_
  refine WP.loop (σ := Int × Int) (fun n st => gangwayref01_Num.l1 a0 n st.1 st.2) r (fun st => [(0, .string a0), (2, .int .u64 0), (3, .int .u64 st.1), (4, .int .i64 st.2)]) (fun st => Sat w Z [] [] Glob) (st := (0, 0)) (fun n st hM => ?_) hM
  rcases n with _ | n
  · exact nomatch (show (none : Option _) = some r from hM)
  obtain ⟨x1, x2⟩ := st
  replace hM : gangwayref01_Num.l1 a0 (n + 1) x1 x2 = some r := hM
  rw [gangwayref01_Num.l1] at hM
  show WP _ _ _ _ _ [(0, .string a0), (2, .int .u64 0), (3, .int .u64 x1), (4, .int .i64 x2)] (Sat w Z [] [] Glob)
  refine WP.seq ?_
  refine WP.seq ?_
  refine WP.run [] [0, 2, 3, 4, 5, 6, 7, 8] (fun _ => [(0, .string a0), (2, .int .u64 0), (3, .int .u64 x1), (4, .int .i64 x2), (5, .int .i64 x2), (6, .string a0), (7, .int .i64 (a0.size : Int)), (8, .bool (decide (x2 < (a0.size : Int))))]) (fun _ => []) (fun _ => []) (fun _ => by kernel_rfl) (fun _ => ?_)
  refine WP.cond (decide (x2 < (a0.size : Int))) rfl rfl (fun c3 => ?_) (fun c3 => ?_)
  · replace hM := cond_t hM c3
    refine WP.skip ?_
    refine WP.seq ?_
    refine WP.block ?_
    refine WP.region ?_
    refine WL.run 4 [] [0, 2, 3, 4, 5, 6, 7, 8, 11, 12, 13, 14] (fun _ => [(0, .string a0), (2, .int .u64 0), (3, .int .u64 x1), (4, .int .i64 x2), (5, .int .i64 x2), (6, .string a0), (7, .int .i64 (a0.size : Int)), (8, .bool (decide (x2 < (a0.size : Int)))), (11, .int .u64 x1), (12, .int .u64 (u64 (x1 * 256))), (13, .string a0), (14, .int .i64 x2)]) (fun _ => []) (fun _ => []) (fun _ => by kernel_rfl) (fun _ => ?_)
    obtain ⟨t4, h5, hM⟩ := bind_some hM
    refine WL.val (fun _ => run_idxS (s := a0) (k := .i64) (i := x2) (by kernel_rfl) (by kernel_rfl) (by kernel_rfl) h5) (by kernel_rfl) (by kernel_rfl) rfl ?_
    refine WL.run 3 [] [0, 2, 3, 4, 5, 6, 7, 8, 11, 12, 13, 14, 15, 16, 17] (fun _ => [(0, .string a0), (2, .int .u64 0), (3, .int .u64 (u64 ((u64 (x1 * 256)) + (u64 t4)))), (4, .int .i64 x2), (5, .int .i64 x2), (6, .string a0), (7, .int .i64 (a0.size : Int)), (8, .bool (decide (x2 < (a0.size : Int)))), (11, .int .u64 x1), (12, .int .u64 (u64 (x1 * 256))), (13, .string a0), (14, .int .i64 x2), (15, .int .u8 t4), (16, .int .u64 (u64 t4)), (17, .int .u64 (u64 ((u64 (x1 * 256)) + (u64 t4))))]) (fun _ => []) (fun _ => []) (fun _ => by kernel_rfl) (fun _ => ?_)
    refine WP.done ?_
    refine WP.leave ?_
    refine WP.run [] [0, 2, 3, 4, 5, 6, 7, 8, 9, 10, 11, 12, 13, 14, 15, 16, 17] (fun _ => [(0, .string a0), (2, .int .u64 0), (3, .int .u64 (u64 ((u64 (x1 * 256)) + (u64 t4)))), (4, .int .i64 (i64 (x2 + 1))), (5, .int .i64 x2), (6, .string a0), (7, .int .i64 (a0.size : Int)), (8, .bool (decide (x2 < (a0.size : Int)))), (9, .int .i64 x2), (10, .int .i64 (i64 (x2 + 1))), (11, .int .u64 x1), (12, .int .u64 (u64 (x1 * 256))), (13, .string a0), (14, .int .i64 x2), (15, .int .u8 t4), (16, .int .u64 (u64 t4)), (17, .int .u64 (u64 ((u64 (x1 * 256)) + (u64 t4))))]) (fun _ => []) (fun _ => []) (fun _ => by kernel_rfl) (fun _ => ?_)
    exact WP.again' [0, 2, 3, 4] (u64 ((u64 (x1 * 256)) + (u64 t4)), i64 (x2 + 1)) hM (by kernel_rfl) (fun _ h => h.pick [] (by kernel_rfl))
  · replace hM := cond_f hM c3
    refine WP.exit rfl ?_
    refine WP.seq ?_
    refine WP.run [] [2] (fun _ => [(2, .int .u64 x1)]) (fun _ => []) (fun _ => []) (fun _ => by kernel_rfl) (fun _ => ?_)
    obtain rfl := Option.some.inj hM
    exact WP.ret [] [] (.int .u64 x1) (by kernel_rfl) (fun w' hw => ⟨rfl, hw.pick [] rfl⟩)

end Go.Proofs.YtbodofjnfmjbpaaGreatDoor

namespace Go.Proofs.YtbodofjnfmjbpaaGreatDoor
open Go Eng
set_option linter.unusedVariables false
set_option linter.unusedSimpArgs false

/-! ### gangway/gangwayref08.Parse: function 27 -/
def gangwayref08_Parse.f (k : Nat) (a0 : ByteArray) : Option (Int × ByteArray × Int) :=
  bif decide ((a0.size : Int) < 8) then
    some (0, (⟨#[]⟩ : ByteArray), 80)
  else
    (idxS a0 0).bind fun t2 =>
    bif ((Int.tmod (u8 (Int.tdiv t2 8)) 2) == 0) then
      some (0, (⟨#[]⟩ : ByteArray), 81)
    else
      (sliceS a0 4 8).bind fun t5 =>
      (gangwayref01_Num.f k t5).bind fun r7 =>
      (sliceS a0 8 (a0.size : Int)).bind fun t9 =>
      some (i64 (u64 (Int.tdiv r7 256)), t9, 0)

set_option maxRecDepth 100000 in
theorem gangwayref08_Parse_calls (k : Nat) (a0 : ByteArray) (r : Int × ByteArray × Int) (h : gangwayref08_Parse.f k a0 = some r) : Pure Tryz.prog Glob 27 #[.string a0] (.tuple #[.int .i64 r.1, .string r.2.1, .int .i64 r.2.2]) := by
  intro w Z hS
  refine calls_of (args := [.string a0]) (L := [(0, .string a0)]) (N := 20) (S := Sat w Z [] [] Glob) Tryz.func27 rfl rfl (Nat.le_of_ble_eq_true rfl) rfl hS ?_
  have hM := h
  clear h hS
  unfold gangwayref08_Parse.f at hM
  refine WP.seq ?_
  refine WP.run [] [0, 2, 3, 4] (fun _ => [(0, .string a0), (2, .int .i64 0), (3, .string (⟨#[]⟩ : ByteArray)), (4, .int .i64 0)]) (fun _ => []) (fun _ => []) (fun _ => by kernel_rfl) (fun _ => ?_)
  refine WP.seq ?_
  refine WP.seq ?_
  refine WP.run [] [0, 2, 3, 4, 7] (fun _ => [(0, .string a0), (2, .int .i64 0), (3, .string (⟨#[]⟩ : ByteArray)), (4, .int .i64 0), (7, .bool (decide ((a0.size : Int) < 8)))]) (fun _ => []) (fun _ => []) (fun _ => by kernel_rfl) (fun _ => ?_)
  refine WP.cond (decide ((a0.size : Int) < 8)) rfl rfl (fun c1 => ?_) (fun c1 => ?_)
  · replace hM := cond_t hM c1
    refine WP.seq ?_
    refine WP.run [] [0, 2, 3, 4] (fun _ => [(0, .string a0), (2, .int .i64 0), (3, .string (⟨#[]⟩ : ByteArray)), (4, .int .i64 80)]) (fun _ => []) (fun _ => []) (fun _ => by kernel_rfl) (fun _ => ?_)
    obtain rfl := Option.some.inj hM
    exact WP.ret [] [] (.tuple #[.int .i64 0, .string (⟨#[]⟩ : ByteArray), .int .i64 80]) (by kernel_rfl) (fun w' hw => ⟨rfl, hw.pick [] rfl⟩)
  · replace hM := cond_f hM c1
    refine WP.skip ?_
    refine WP.seq ?_
    refine WP.seq ?_
    refine WP.region ?_
    refine WL.run 1 [] [0, 2, 3, 4, 8] (fun _ => [(0, .string a0), (2, .int .i64 0), (3, .string (⟨#[]⟩ : ByteArray)), (4, .int .i64 0), (8, .string a0)]) (fun _ => []) (fun _ => []) (fun _ => by kernel_rfl) (fun _ => ?_)
    obtain ⟨t2, h3, hM⟩ := bind_some hM
    refine WL.val (fun _ => run_idxS (s := a0) (k := .i64) (i := 0) (by kernel_rfl) (by kernel_rfl) (by kernel_rfl) h3) (by kernel_rfl) (by kernel_rfl) rfl ?_
    refine WL.run 3 [] [0, 2, 3, 4, 12] (fun _ => [(0, .string a0), (2, .int .i64 0), (3, .string (⟨#[]⟩ : ByteArray)), (4, .int .i64 0), (12, .bool ((Int.tmod (u8 (Int.tdiv t2 8)) 2) == 0))]) (fun _ => []) (fun _ => []) (fun _ => by kernel_rfl) (fun _ => ?_)
    refine WP.done ?_
    refine WP.cond ((Int.tmod (u8 (Int.tdiv t2 8)) 2) == 0) rfl rfl (fun c4 => ?_) (fun c4 => ?_)
    · replace hM := cond_t hM c4
      refine WP.seq ?_
      refine WP.run [] [0, 2, 3, 4] (fun _ => [(0, .string a0), (2, .int .i64 0), (3, .string (⟨#[]⟩ : ByteArray)), (4, .int .i64 81)]) (fun _ => []) (fun _ => []) (fun _ => by kernel_rfl) (fun _ => ?_)
      obtain rfl := Option.some.inj hM
      exact WP.ret [] [] (.tuple #[.int .i64 0, .string (⟨#[]⟩ : ByteArray), .int .i64 81]) (by kernel_rfl) (fun w' hw => ⟨rfl, hw.pick [] rfl⟩)
    · replace hM := cond_f hM c4
      refine WP.skip ?_
      refine WP.seq ?_
      refine WP.quiet (by kernel_rfl) (by kernel_rfl) ?_
      refine QL.run 1 [] [0, 2, 3, 4, 13] [] [(0, .string a0), (2, .int .i64 0), (3, .string (⟨#[]⟩ : ByteArray)), (4, .int .i64 0), (13, .string a0)] (by kernel_rfl) ?_
      obtain ⟨t5, h6, hM⟩ := bind_some hM
      refine QL.val (fun _ => run_sliceS (s := a0) (kl := .i64) (kh := .i64) (l := 4) (h := 8) (by kernel_rfl) (by kernel_rfl) (by kernel_rfl) (by kernel_rfl) h6) (by kernel_rfl) (by kernel_rfl) rfl ?_
      obtain ⟨r7, h8, hM⟩ := bind_some hM
      refine QL.callP [] [] (gangwayref01_Num_calls k t5 _ h8) (fun _ h => h) (by kernel_rfl) (by kernel_rfl) rfl ?_
      refine QL.run 3 [] [2, 3, 4, 17, 18] [] [(2, .int .i64 0), (3, .string (⟨#[]⟩ : ByteArray)), (4, .int .i64 0), (17, .int .i64 (i64 (u64 (Int.tdiv r7 256)))), (18, .string a0)] (by kernel_rfl) ?_
      obtain ⟨t9, h10, hM⟩ := bind_some hM
      refine QL.val (fun _ => run_sliceS_lo (s := a0) (kl := .i64) (l := 8) (by kernel_rfl) (by kernel_rfl) (by kernel_rfl) h10) (by kernel_rfl) (by kernel_rfl) rfl ?_
      refine QL.run 3 [] [2, 3, 4] [] [(2, .int .i64 (i64 (u64 (Int.tdiv r7 256)))), (3, .string t9), (4, .int .i64 0)] (by kernel_rfl) ?_
      refine QL.done ?_
      obtain rfl := Option.some.inj hM
      exact WP.ret [] [] (.tuple #[.int .i64 (i64 (u64 (Int.tdiv r7 256))), .string t9, .int .i64 0]) (by kernel_rfl) (fun w' hw => ⟨rfl, hw.pick [] rfl⟩)

end Go.Proofs.YtbodofjnfmjbpaaGreatDoor

namespace Go.Proofs.YtbodofjnfmjbpaaGreatDoor
open Go Eng
set_option linter.unusedVariables false
set_option linter.unusedSimpArgs false

/-! ### gangway/gangwayref21.By: function 28 -/
def gangwayref21_By.l1 (a0 : (List api_Seg)) (a1 : Int) : Nat → Bool → Int → Option (api_Seg × Bool)
  | 0, _, _ => none
  | n + 1, x2, x3 =>
    bif decide (x3 < (a0.length : Int)) then
      (getL a0.length a0 x3).bind fun t5 =>
      bif (t5.Vni == a1) then
        (getL a0.length a0 x3).bind fun t8 =>
        some (t8, true)
      else
        gangwayref21_By.l1 a0 a1 n x2 (i64 (x3 + 1))
    else
      some ((api_Seg.mk 0 0 ([] : List Int)), false)

def gangwayref21_By.f (k : Nat) (a0 : (List api_Seg)) (a1 : Int) : Option (api_Seg × Bool) :=
  gangwayref21_By.l1 a0 a1 k false 0

set_option maxRecDepth 100000 in
theorem gangwayref21_By_calls (k : Nat) (A00 : SkL (SkL Unit)) (a0 : (List api_Seg)) (a1 : Int) (r : api_Seg × Bool) (h : gangwayref21_By.f k a0 a1 = some r) : Does Tryz.prog 28 #[slcV A00 a0.length, .int .i64 a1] [] ([Row 3 api_Seg.encS api_Seg.inK A00 a0] ++ Glob) (fun x : (SkL Unit) => .tuple #[.agg #[.int .i64 r.1.Vid, .int .i64 r.1.Vni, slcV x r.1.Peers.length], .bool r.2]) (fun x => []) (fun _ => []) (fun x => [Row 1 (pl (encI .u32)) noK x r.1.Peers] ++ ([Row 3 api_Seg.encS api_Seg.inK A00 a0] ++ Glob)) := by
  intro w Z hS
  refine calls_of (args := [slcV A00 a0.length, .int .i64 a1]) (L := [(0, slcV A00 a0.length), (1, .int .i64 a1)]) (N := 25) (S := Sat w Z [] [] ([Row 3 api_Seg.encS api_Seg.inK A00 a0] ++ Glob)) Tryz.func28 rfl rfl (Nat.le_of_ble_eq_true rfl) rfl hS ?_
  have hM := h
  clear h hS
  unfold gangwayref21_By.f at hM
  refine WP.seq ?_
  refine WP.run [] [0, 1, 4, 5] (fun b1 => [(0, slcV A00 a0.length), (1, .int .i64 a1), (4, .pointer (some ⟨b1, 0, none⟩)), (5, .bool false)]) (fun b1 => [(b1, .cells #[.int .i64 0, .int .i64 0, .slice none 0 0] 35 (0, 0))]) (fun b1 => []) (fun b1 => by kernel_rfl) (fun b1 => ?_)
  refine WP.seq ?_
  refine WP.seq ?_
  refine WP.run [] [0, 1, 4, 5, 6] (fun _ => [(0, slcV A00 a0.length), (1, .int .i64 a1), (4, .pointer (some ⟨b1, 0, none⟩)), (5, .bool false), (6, .int .i64 0)]) (fun _ => [(b1, .cells #[.int .i64 0, .int .i64 0, .slice none 0 0] 35 (0, 0))]) (fun _ => []) (fun _ => by kernel_rfl) (fun _ => ?_)
  refine WP.block ?_
  refine WP.sub [0, 1, 4, 5, 6] (L' := [(0, slcV A00 a0.length), (1, .int .i64 a1), (4, .pointer (some ⟨b1, 0, none⟩)), (5, .bool false), (6, .int .i64 0)]) (by kernel_rfl) ?_
  refine WP.lessF [0] (F' := [Row 3 api_Seg.encS api_Seg.inK A00 a0]) (by kernel_rfl) ?_
  refine WP.loop (σ := Bool × Int) (fun n st => gangwayref21_By.l1 a0 a1 n st.1 st.2) r (fun st => [(0, slcV A00 a0.length), (1, .int .i64 a1), (4, .pointer (some ⟨b1, 0, none⟩)), (5, .bool st.1), (6, .int .i64 st.2)]) (fun st => Sat w Z [(b1, .cells #[.int .i64 0, .int .i64 0, .slice none 0 0] 35 (0, 0))] [] ([Row 3 api_Seg.encS api_Seg.inK A00 a0] ++ Glob)) (st := (false, 0)) (fun n st hM => ?_) hM
  rcases n with _ | n
  · exact nomatch (show (none : Option _) = some r from hM)
  obtain ⟨x2, x3⟩ := st
  replace hM : gangwayref21_By.l1 a0 a1 (n + 1) x2 x3 = some r := hM
  rw [gangwayref21_By.l1] at hM
  show WP _ _ _ _ _ [(0, slcV A00 a0.length), (1, .int .i64 a1), (4, .pointer (some ⟨b1, 0, none⟩)), (5, .bool x2), (6, .int .i64 x3)] (Sat w Z [(b1, .cells #[.int .i64 0, .int .i64 0, .slice none 0 0] 35 (0, 0))] [] ([Row 3 api_Seg.encS api_Seg.inK A00 a0] ++ Glob))
  refine WP.seq ?_
  refine WP.seq ?_
  refine WP.run [] [0, 1, 4, 5, 6, 7, 8, 9, 10] (fun _ => [(0, slcV A00 a0.length), (1, .int .i64 a1), (4, .pointer (some ⟨b1, 0, none⟩)), (5, .bool x2), (6, .int .i64 x3), (7, .int .i64 x3), (8, slcV A00 a0.length), (9, .int .i64 (a0.length : Int)), (10, .bool (decide (x3 < (a0.length : Int))))]) (fun _ => [(b1, .cells #[.int .i64 0, .int .i64 0, .slice none 0 0] 35 (0, 0))]) (fun _ => []) (fun _ => by kernel_rfl) (fun _ => ?_)
  refine WP.cond (decide (x3 < (a0.length : Int))) rfl rfl (fun c4 => ?_) (fun c4 => ?_)
  · replace hM := cond_t hM c4
    refine WP.skip ?_
    refine WP.seq ?_
    refine WP.block ?_
    refine WP.seq ?_
    refine WP.region ?_
    refine WL.run 2 [] [0, 1, 4, 5, 6, 7, 8, 9, 10, 13, 14] (fun _ => [(0, slcV A00 a0.length), (1, .int .i64 a1), (4, .pointer (some ⟨b1, 0, none⟩)), (5, .bool x2), (6, .int .i64 x3), (7, .int .i64 x3), (8, slcV A00 a0.length), (9, .int .i64 (a0.length : Int)), (10, .bool (decide (x3 < (a0.length : Int)))), (13, slcV A00 a0.length), (14, .int .i64 x3)]) (fun _ => [(b1, .cells #[.int .i64 0, .int .i64 0, .slice none 0 0] 35 (0, 0))]) (fun _ => []) (fun _ => by kernel_rfl) (fun _ => ?_)
    obtain ⟨t5, h6, hM⟩ := bind_some hM
    refine WL.valF (φ := Row 3 api_Seg.encS api_Seg.inK A00 a0) (fact_at 0 rfl) (fun w hR => run_indexRowF (A := A00) (xs := a0) (i := x3) (k := .i64) (e := 35) (m := 3) (by kernel_rfl) (by kernel_rfl) h6 (by kernel_rfl) (by kernel_rfl) hR) (by kernel_rfl) (by kernel_rfl) rfl ?_
    refine WL.valF (φ := Row 3 api_Seg.encS api_Seg.inK A00 a0) (fact_at 0 rfl) (fun w hR => run_fieldRowF (A := A00) (xs := a0) (i := x3) (n := Int.toNat x3 * 3 + 0) (n' := Int.toNat x3 * 3 + 1) h6 (by kernel_rfl) (fun _ _ => by kernel_rfl) hR) (by kernel_rfl) (by kernel_rfl) rfl ?_
    refine WL.valF (φ := Row 3 api_Seg.encS api_Seg.inK A00 a0) (fact_at 0 rfl) (fun w hR => run_loadRowF (A := A00) (xs := a0) (i := x3) (j := 1) (v := .int .i64 t5.Vni) h6 (fun _ => by kernel_rfl) (by kernel_rfl) (by kernel_rfl) hR) (by kernel_rfl) (by kernel_rfl) rfl ?_
    refine WL.run 2 [] [0, 1, 4, 5, 6, 7, 8, 9, 10, 13, 14, 15, 16, 17, 18, 19] (fun _ => [(0, slcV A00 a0.length), (1, .int .i64 a1), (4, .pointer (some ⟨b1, 0, none⟩)), (5, .bool x2), (6, .int .i64 x3), (7, .int .i64 x3), (8, slcV A00 a0.length), (9, .int .i64 (a0.length : Int)), (10, .bool (decide (x3 < (a0.length : Int)))), (13, slcV A00 a0.length), (14, .int .i64 x3), (15, ptrV A00 (Int.toNat x3 * 3 + 0)), (16, ptrV A00 (Int.toNat x3 * 3 + 1)), (17, .int .i64 t5.Vni), (18, .int .i64 a1), (19, .bool (t5.Vni == a1))]) (fun _ => [(b1, .cells #[.int .i64 0, .int .i64 0, .slice none 0 0] 35 (0, 0))]) (fun _ => []) (fun _ => by kernel_rfl) (fun _ => ?_)
    refine WP.done ?_
    refine WP.cond (t5.Vni == a1) rfl rfl (fun c7 => ?_) (fun c7 => ?_)
    · replace hM := cond_t hM c7
      refine WP.seq ?_
      refine WP.region ?_
      refine WL.run 2 [] [0, 1, 4, 5, 6, 7, 8, 9, 10, 13, 14, 15, 16, 17, 18, 19, 20, 21] (fun _ => [(0, slcV A00 a0.length), (1, .int .i64 a1), (4, .pointer (some ⟨b1, 0, none⟩)), (5, .bool x2), (6, .int .i64 x3), (7, .int .i64 x3), (8, slcV A00 a0.length), (9, .int .i64 (a0.length : Int)), (10, .bool (decide (x3 < (a0.length : Int)))), (13, slcV A00 a0.length), (14, .int .i64 x3), (15, ptrV A00 (Int.toNat x3 * 3 + 0)), (16, ptrV A00 (Int.toNat x3 * 3 + 1)), (17, .int .i64 t5.Vni), (18, .int .i64 a1), (19, .bool (t5.Vni == a1)), (20, slcV A00 a0.length), (21, .int .i64 x3)]) (fun _ => [(b1, .cells #[.int .i64 0, .int .i64 0, .slice none 0 0] 35 (0, 0))]) (fun _ => []) (fun _ => by kernel_rfl) (fun _ => ?_)
      obtain ⟨t8, h9, hM⟩ := bind_some hM
      refine WL.valF (φ := Row 3 api_Seg.encS api_Seg.inK A00 a0) (fact_at 0 rfl) (fun w hR => run_indexRowF (A := A00) (xs := a0) (i := x3) (k := .i64) (e := 35) (m := 3) (by kernel_rfl) (by kernel_rfl) h9 (by kernel_rfl) (by kernel_rfl) hR) (by kernel_rfl) (by kernel_rfl) rfl ?_
      refine WL.valF (φ := Row 3 api_Seg.encS api_Seg.inK A00 a0) (fact_at 0 rfl) (fun w hR => run_loadRowFA (A := A00) (xs := a0) (i := x3) (j := 0) (n := 3) (vs := [.int .i64 t8.Vid, .int .i64 t8.Vni, slcV (A00.s (Int.toNat x3)) t8.Peers.length]) h9 (fun _ => by kernel_rfl) (by kernel_rfl) (by kernel_rfl) (by kernel_rfl) rfl hR) (by kernel_rfl) (by kernel_rfl) rfl ?_
      refine WL.know (Row 1 (pl (encI .u32)) noK (A00.s (Int.toNat x3)) t8.Peers) [0] [Row 3 api_Seg.encS api_Seg.inK A00 a0] (by kernel_rfl) (fun w hψ => ((hψ _ (List.mem_singleton.2 rfl)).inner _ _ (getL_parts h9).2)) ?_
      refine WL.run 2 [0, 0, 0] [0, 1, 4, 5, 6, 7, 8, 9, 10, 13, 14, 15, 16, 17, 18, 19, 20, 21, 22, 23] (fun _ => [(0, slcV A00 a0.length), (1, .int .i64 a1), (4, .pointer (some ⟨b1, 0, none⟩)), (5, .bool true), (6, .int .i64 x3), (7, .int .i64 x3), (8, slcV A00 a0.length), (9, .int .i64 (a0.length : Int)), (10, .bool (decide (x3 < (a0.length : Int)))), (13, slcV A00 a0.length), (14, .int .i64 x3), (15, ptrV A00 (Int.toNat x3 * 3 + 0)), (16, ptrV A00 (Int.toNat x3 * 3 + 1)), (17, .int .i64 t5.Vni), (18, .int .i64 a1), (19, .bool (t5.Vni == a1)), (20, slcV A00 a0.length), (21, .int .i64 x3), (22, ptrV A00 (Int.toNat x3 * 3 + 0)), (23, .agg #[.int .i64 t8.Vid, .int .i64 t8.Vni, slcV (A00.s (Int.toNat x3)) t8.Peers.length])]) (fun _ => [(b1, .cells #[.int .i64 t8.Vid, .int .i64 t8.Vni, slcV (A00.s (Int.toNat x3)) t8.Peers.length] 35 (0, 0))]) (fun _ => [b1, b1, b1]) (fun _ => by kernel_rfl) (fun _ => ?_)
      refine WP.done ?_
      obtain rfl := Option.some.inj hM
      exact WP.ret [0, 0, 0] [b1, b1, b1] (.tuple #[.agg #[.int .i64 t8.Vid, .int .i64 t8.Vni, slcV (A00.s (Int.toNat x3)) t8.Peers.length], .bool true]) (by kernel_rfl) (fun w' hw => ⟨(A00.s (Int.toNat x3)), rfl, (hw.pick [] (by kernel_rfl)).less (sub_ret [0] [1] (by kernel_rfl) (by kernel_rfl))⟩)
    · replace hM := cond_f hM c7
      refine WP.skip ?_
      refine WP.leave ?_
      refine WP.run [] [0, 1, 4, 5, 6, 7, 8, 9, 10, 11, 12, 13, 14, 15, 16, 17, 18, 19] (fun _ => [(0, slcV A00 a0.length), (1, .int .i64 a1), (4, .pointer (some ⟨b1, 0, none⟩)), (5, .bool x2), (6, .int .i64 (i64 (x3 + 1))), (7, .int .i64 x3), (8, slcV A00 a0.length), (9, .int .i64 (a0.length : Int)), (10, .bool (decide (x3 < (a0.length : Int)))), (11, .int .i64 x3), (12, .int .i64 (i64 (x3 + 1))), (13, slcV A00 a0.length), (14, .int .i64 x3), (15, ptrV A00 (Int.toNat x3 * 3 + 0)), (16, ptrV A00 (Int.toNat x3 * 3 + 1)), (17, .int .i64 t5.Vni), (18, .int .i64 a1), (19, .bool (t5.Vni == a1))]) (fun _ => [(b1, .cells #[.int .i64 0, .int .i64 0, .slice none 0 0] 35 (0, 0))]) (fun _ => []) (fun _ => by kernel_rfl) (fun _ => ?_)
      exact WP.again' [0, 1, 4, 5, 6] (x2, i64 (x3 + 1)) hM (by kernel_rfl) (fun _ h => (h.pick [0] (by kernel_rfl)).lessF [0] (by kernel_rfl))
  · replace hM := cond_f hM c4
    refine WP.exit rfl ?_
    refine WP.seq ?_
    refine WP.run [0, 0, 0] [4, 5] (fun _ => [(4, .pointer (some ⟨b1, 0, none⟩)), (5, .bool false)]) (fun _ => [(b1, .cells #[.int .i64 0, .int .i64 0, .slice none 0 0] 35 (0, 0))]) (fun _ => [b1, b1, b1]) (fun _ => by kernel_rfl) (fun _ => ?_)
    refine WP.know (Row 1 (pl (encI .u32)) noK (SkL.nil (fun _ => ())) ([] : List Int)) [] [] (by kernel_rfl) (fun w _ => RowP.empty (fun _ => rfl)) ?_
    obtain rfl := Option.some.inj hM
    exact WP.ret [0, 0, 0] [b1, b1, b1] (.tuple #[.agg #[.int .i64 0, .int .i64 0, slcV (SkL.nil (fun _ => ())) ([] : List Int).length], .bool false]) (by kernel_rfl) (fun w' hw => ⟨(SkL.nil (fun _ => ())), rfl, (hw.pick [] (by kernel_rfl)).less (sub_ret [0] [1] (by kernel_rfl) (by kernel_rfl))⟩)

end Go.Proofs.YtbodofjnfmjbpaaGreatDoor

namespace Go.Proofs.YtbodofjnfmjbpaaGreatDoor
open Go Eng
set_option linter.unusedVariables false
set_option linter.unusedSimpArgs false

/-! ### gangway/gangwayref21.often: function 52 -/
def gangwayref21_often.k1 (x2 : Int) (rec_l2 : Int → Int → Option (Int)) (x7 : Int) : Option (Int) :=
  rec_l2 x7 (i64 (x2 + 1))

def gangwayref21_often.l2 (a0 : (List Int)) (a1 : Int) : Nat → Int → Int → Option (Int)
  | 0, _, _ => none
  | n + 1, x1, x2 =>
    bif decide (x2 < (a0.length : Int)) then
      (getL a0.length a0 x2).bind fun t4 =>
      bif (t4 == a1) then
        gangwayref21_often.k1 x2 (gangwayref21_often.l2 a0 a1 n) (i64 (x1 + 1))
      else
        gangwayref21_often.k1 x2 (gangwayref21_often.l2 a0 a1 n) x1
    else
      some x1

def gangwayref21_often.f (k : Nat) (a0 : (List Int)) (a1 : Int) : Option (Int) :=
  gangwayref21_often.l2 a0 a1 k 0 0

set_option maxRecDepth 100000 in
theorem gangwayref21_often_calls (k : Nat) (A00 : SkL Unit) (a0 : (List Int)) (a1 : Int) (r : Int) (h : gangwayref21_often.f k a0 a1 = some r) : Pure Tryz.prog ([Row 1 (pl (encI .u32)) noK A00 a0] ++ Glob) 52 #[slcV A00 a0.length, .int .u32 a1] (.int .i64 r) := by
  intro w Z hS
  refine calls_of (args := [slcV A00 a0.length, .int .u32 a1]) (L := [(0, slcV A00 a0.length), (1, .int .u32 a1)]) (N := 22) (S := Sat w Z [] [] ([Row 1 (pl (encI .u32)) noK A00 a0] ++ Glob)) Tryz.func52 rfl rfl (Nat.le_of_ble_eq_true rfl) rfl hS ?_
  have hM := h
  clear h hS
  unfold gangwayref21_often.f at hM
  refine WP.seq ?_
  refine WP.run [] [0, 1, 4] (fun _ => [(0, slcV A00 a0.length), (1, .int .u32 a1), (4, .int .i64 0)]) (fun _ => []) (fun _ => []) (fun _ => by kernel_rfl) (fun _ => ?_)
  refine WP.seq ?_
  refine WP.run [] [0, 1, 4, 5] (fun _ => [(0, slcV A00 a0.length), (1, .int .u32 a1), (4, .int .i64 0), (5, .int .i64 0)]) (fun _ => []) (fun _ => []) (fun _ => by kernel_rfl) (fun _ => ?_)
  refine WP.seq ?_
  refine WP.seq ?_
  refine WP.run [] [0, 1, 4, 5, 6] (fun _ => [(0, slcV A00 a0.length), (1, .int .u32 a1), (4, .int .i64 0), (5, .int .i64 0), (6, .int .i64 0)]) (fun _ => []) (fun _ => []) (fun _ => by kernel_rfl) (fun _ => ?_)
  refine WP.block ?_
  refine WP.sub [0, 1, 4, 5, 6] (L' := [(0, slcV A00 a0.length), (1, .int .u32 a1), (4, .int .i64 0), (5, .int .i64 0), (6, .int .i64 0)]) (by kernel_rfl) ?_
  refine WP.lessF [0] (F' := [Row 1 (pl (encI .u32)) noK A00 a0]) (by kernel_rfl) ?_
  refine WP.loop (σ := Int × Int) (fun n st => gangwayref21_often.l2 a0 a1 n st.1 st.2) r (fun st => [(0, slcV A00 a0.length), (1, .int .u32 a1), (4, .int .i64 0), (5, .int .i64 st.1), (6, .int .i64 st.2)]) (fun st => Sat w Z [] [] ([Row 1 (pl (encI .u32)) noK A00 a0] ++ Glob)) (st := (0, 0)) (fun n st hM => ?_) hM
  rcases n with _ | n
  · exact nomatch (show (none : Option _) = some r from hM)
  obtain ⟨x1, x2⟩ := st
  replace hM : gangwayref21_often.l2 a0 a1 (n + 1) x1 x2 = some r := hM
  rw [gangwayref21_often.l2] at hM
  show WP _ _ _ _ _ [(0, slcV A00 a0.length), (1, .int .u32 a1), (4, .int .i64 0), (5, .int .i64 x1), (6, .int .i64 x2)] (Sat w Z [] [] ([Row 1 (pl (encI .u32)) noK A00 a0] ++ Glob))
  refine WP.seq ?_
  refine WP.seq ?_
  refine WP.run [] [0, 1, 4, 5, 6, 7, 8, 9, 10] (fun _ => [(0, slcV A00 a0.length), (1, .int .u32 a1), (4, .int .i64 0), (5, .int .i64 x1), (6, .int .i64 x2), (7, .int .i64 x2), (8, slcV A00 a0.length), (9, .int .i64 (a0.length : Int)), (10, .bool (decide (x2 < (a0.length : Int))))]) (fun _ => []) (fun _ => []) (fun _ => by kernel_rfl) (fun _ => ?_)
  refine WP.cond (decide (x2 < (a0.length : Int))) rfl rfl (fun c3 => ?_) (fun c3 => ?_)
  · replace hM := cond_t hM c3
    refine WP.skip ?_
    refine WP.seq ?_
    refine WP.blockJoin (σ := Int) (fun st => gangwayref21_often.k1 x2 (gangwayref21_often.l2 a0 a1 n) st = some r) (fun st => [(0, slcV A00 a0.length), (1, .int .u32 a1), (4, .int .i64 0), (5, .int .i64 st), (6, .int .i64 x2), (7, .int .i64 x2), (8, slcV A00 a0.length), (9, .int .i64 (a0.length : Int)), (10, .bool (decide (x2 < (a0.length : Int)))), (13, slcV A00 a0.length), (14, .int .i64 x2), (15, ptrV A00 (Int.toNat x2 * 1 + 0)), (17, .int .u32 a1)]) (fun st => Sat w Z [] [] ([Row 1 (pl (encI .u32)) noK A00 a0] ++ Glob)) (fun st hM => ?_) (fun K1 => ?_)
    ·
      obtain ⟨x7, rfl⟩ : ∃ y, y = st := ⟨st, rfl⟩
      replace hM : gangwayref21_often.k1 x2 (gangwayref21_often.l2 a0 a1 n) x7 = some r := hM
      unfold gangwayref21_often.k1 at hM
      show WP _ _ _ _ _ [(0, slcV A00 a0.length), (1, .int .u32 a1), (4, .int .i64 0), (5, .int .i64 x7), (6, .int .i64 x2), (7, .int .i64 x2), (8, slcV A00 a0.length), (9, .int .i64 (a0.length : Int)), (10, .bool (decide (x2 < (a0.length : Int)))), (13, slcV A00 a0.length), (14, .int .i64 x2), (15, ptrV A00 (Int.toNat x2 * 1 + 0)), (17, .int .u32 a1)] (Sat w Z [] [] ([Row 1 (pl (encI .u32)) noK A00 a0] ++ Glob))
      refine WP.run [] [0, 1, 4, 5, 6, 7, 8, 9, 10, 11, 12, 13, 14, 15, 17] (fun _ => [(0, slcV A00 a0.length), (1, .int .u32 a1), (4, .int .i64 0), (5, .int .i64 x7), (6, .int .i64 (i64 (x2 + 1))), (7, .int .i64 x2), (8, slcV A00 a0.length), (9, .int .i64 (a0.length : Int)), (10, .bool (decide (x2 < (a0.length : Int)))), (11, .int .i64 x2), (12, .int .i64 (i64 (x2 + 1))), (13, slcV A00 a0.length), (14, .int .i64 x2), (15, ptrV A00 (Int.toNat x2 * 1 + 0)), (17, .int .u32 a1)]) (fun _ => []) (fun _ => []) (fun _ => by kernel_rfl) (fun _ => ?_)
      exact WP.again' [0, 1, 4, 5, 6] (x7, i64 (x2 + 1)) hM (by kernel_rfl) (fun _ h => (h.pick [] (by kernel_rfl)).lessF [0] (by kernel_rfl))
    ·
      refine WP.seq ?_
      refine WP.region ?_
      refine WL.run 2 [] [0, 1, 4, 5, 6, 7, 8, 9, 10, 13, 14] (fun _ => [(0, slcV A00 a0.length), (1, .int .u32 a1), (4, .int .i64 0), (5, .int .i64 x1), (6, .int .i64 x2), (7, .int .i64 x2), (8, slcV A00 a0.length), (9, .int .i64 (a0.length : Int)), (10, .bool (decide (x2 < (a0.length : Int)))), (13, slcV A00 a0.length), (14, .int .i64 x2)]) (fun _ => []) (fun _ => []) (fun _ => by kernel_rfl) (fun _ => ?_)
      obtain ⟨t4, h5, hM⟩ := bind_some hM
      refine WL.valF (φ := Row 1 (pl (encI .u32)) noK A00 a0) (fact_at 0 rfl) (fun w hR => run_indexRowF (A := A00) (xs := a0) (i := x2) (k := .i64) (e := 22) (m := 1) (by kernel_rfl) (by kernel_rfl) h5 (by kernel_rfl) (by kernel_rfl) hR) (by kernel_rfl) (by kernel_rfl) rfl ?_
      refine WL.valF (φ := Row 1 (pl (encI .u32)) noK A00 a0) (fact_at 0 rfl) (fun w hR => run_loadRowF (A := A00) (xs := a0) (i := x2) (j := 0) (v := .int .u32 t4) h5 (fun _ => by kernel_rfl) (by kernel_rfl) (by kernel_rfl) hR) (by kernel_rfl) (by kernel_rfl) rfl ?_
      refine WL.run 2 [] [0, 1, 4, 5, 6, 7, 8, 9, 10, 13, 14, 15, 16, 17, 18] (fun _ => [(0, slcV A00 a0.length), (1, .int .u32 a1), (4, .int .i64 0), (5, .int .i64 x1), (6, .int .i64 x2), (7, .int .i64 x2), (8, slcV A00 a0.length), (9, .int .i64 (a0.length : Int)), (10, .bool (decide (x2 < (a0.length : Int)))), (13, slcV A00 a0.length), (14, .int .i64 x2), (15, ptrV A00 (Int.toNat x2 * 1 + 0)), (16, .int .u32 t4), (17, .int .u32 a1), (18, .bool (t4 == a1))]) (fun _ => []) (fun _ => []) (fun _ => by kernel_rfl) (fun _ => ?_)
      refine WP.done ?_
      refine WP.cond (t4 == a1) rfl rfl (fun c6 => ?_) (fun c6 => ?_)
      · replace hM := cond_t hM c6
        refine WP.run [] [0, 1, 4, 5, 6, 7, 8, 9, 10, 13, 14, 15, 16, 17, 18, 19, 20] (fun _ => [(0, slcV A00 a0.length), (1, .int .u32 a1), (4, .int .i64 0), (5, .int .i64 (i64 (x1 + 1))), (6, .int .i64 x2), (7, .int .i64 x2), (8, slcV A00 a0.length), (9, .int .i64 (a0.length : Int)), (10, .bool (decide (x2 < (a0.length : Int)))), (13, slcV A00 a0.length), (14, .int .i64 x2), (15, ptrV A00 (Int.toNat x2 * 1 + 0)), (16, .int .u32 t4), (17, .int .u32 a1), (18, .bool (t4 == a1)), (19, .int .i64 x1), (20, .int .i64 (i64 (x1 + 1)))]) (fun _ => []) (fun _ => []) (fun _ => by kernel_rfl) (fun _ => ?_)
        refine WP.leave ?_
        exact WP.sub [0, 1, 4, 5, 6, 7, 8, 9, 10, 13, 14, 15, 17] (by kernel_rfl) (WP.pick [] (by kernel_rfl) (by kernel_rfl) (WP.lessF [0] (by kernel_rfl) (K1 (i64 (x1 + 1)) hM)))
      · replace hM := cond_f hM c6
        refine WP.skip ?_
        refine WP.leave ?_
        exact WP.sub [0, 1, 4, 5, 6, 7, 8, 9, 10, 13, 14, 15, 17] (by kernel_rfl) (WP.pick [] (by kernel_rfl) (by kernel_rfl) (WP.lessF [0] (by kernel_rfl) (K1 x1 hM)))
  · replace hM := cond_f hM c3
    refine WP.exit rfl ?_
    refine WP.seq ?_
    refine WP.run [] [4] (fun _ => [(4, .int .i64 x1)]) (fun _ => []) (fun _ => []) (fun _ => by kernel_rfl) (fun _ => ?_)
    obtain rfl := Option.some.inj hM
    exact WP.ret [] [] (.int .i64 x1) (by kernel_rfl) (fun w' hw => ⟨rfl, (hw.pick [] rfl).lessF [0] (by kernel_rfl)⟩)

end Go.Proofs.YtbodofjnfmjbpaaGreatDoor

namespace Go.Proofs.YtbodofjnfmjbpaaGreatDoor
open Go Eng
set_option linter.unusedVariables false
set_option linter.unusedSimpArgs false

/-! ### gangway/gangwayref21.Peer: function 29 -/
def gangwayref21_Peer.k1 (x9 : Bool) : Option (Bool) :=
  some x9

def gangwayref21_Peer.f (k : Nat) (a0 : (List api_Seg)) (a1 : Int) (a2 : Int) : Option (Bool) :=
  (gangwayref21_By.f k a0 a1).bind fun (r1, r2) =>
  bif r2 then
    (gangwayref21_often.f k r1.Peers a2).bind fun r7 =>
    gangwayref21_Peer.k1 (decide (r7 > 0))
  else
    gangwayref21_Peer.k1 false

set_option maxRecDepth 100000 in
theorem gangwayref21_Peer_calls (k : Nat) (A00 : SkL (SkL Unit)) (a0 : (List api_Seg)) (a1 : Int) (a2 : Int) (r : Bool) (h : gangwayref21_Peer.f k a0 a1 a2 = some r) : Pure Tryz.prog ([Row 3 api_Seg.encS api_Seg.inK A00 a0] ++ Glob) 29 #[slcV A00 a0.length, .int .i64 a1, .int .u32 a2] (.bool r) := by
  intro w Z hS
  refine calls_of (args := [slcV A00 a0.length, .int .i64 a1, .int .u32 a2]) (L := [(0, slcV A00 a0.length), (1, .int .i64 a1), (2, .int .u32 a2)]) (N := 23) (S := Sat w Z [] [] ([Row 3 api_Seg.encS api_Seg.inK A00 a0] ++ Glob)) Tryz.func29 rfl rfl (Nat.le_of_ble_eq_true rfl) rfl hS ?_
  have hM := h
  clear h hS
  unfold gangwayref21_Peer.f at hM
  refine WP.seq ?_
  refine WP.run [] [0, 1, 2, 6] (fun _ => [(0, slcV A00 a0.length), (1, .int .i64 a1), (2, .int .u32 a2), (6, .bool false)]) (fun _ => []) (fun _ => []) (fun _ => by kernel_rfl) (fun _ => ?_)
  refine WP.seq ?_
  refine WP.region ?_
  refine WL.run 2 [] [2, 6, 10, 11] (fun _ => [(2, .int .u32 a2), (6, .bool false), (10, slcV A00 a0.length), (11, .int .i64 a1)]) (fun _ => []) (fun _ => []) (fun _ => by kernel_rfl) (fun _ => ?_)
  obtain ⟨⟨r1, r2⟩, h3, hM⟩ := bind_some hM
  dsimp only at hM
  refine WL.callX (F0 := [Row 3 api_Seg.encS api_Seg.inK A00 a0]) [] [] [] (fun _ => _) [0] (by kernel_rfl) (gangwayref21_By_calls k A00 a0 a1 _ h3) rfl rfl (by kernel_rfl) (by kernel_rfl) (fun _ => rfl) (fun A4 => ?_)
  refine WL.run 6 [0, 0, 0] [2, 6, 7, 8] (fun b5 => [(2, .int .u32 a2), (6, .bool false), (7, .pointer (some ⟨b5, 0, none⟩)), (8, .bool r2)]) (fun b5 => [(b5, .cells #[.int .i64 r1.Vid, .int .i64 r1.Vni, slcV A4 r1.Peers.length] 35 (0, 0))]) (fun b5 => [b5, b5, b5]) (fun b5 => by kernel_rfl) (fun b5 => ?_)
  refine WP.done ?_
  refine WP.seq ?_
  refine WP.region ?_
  refine WL.run 2 [] [2, 6, 7, 16] (fun _ => [(2, .int .u32 a2), (6, .bool false), (7, .pointer (some ⟨b5, 0, none⟩)), (16, .bool r2)]) (fun _ => [(b5, .cells #[.int .i64 r1.Vid, .int .i64 r1.Vni, slcV A4 r1.Peers.length] 35 (0, 0))]) (fun _ => []) (fun _ => by kernel_rfl) (fun _ => ?_)
  refine WL.sub [2, 6, 7, 16] (L' := [(2, .int .u32 a2), (6, .bool false), (7, .pointer (some ⟨b5, 0, none⟩)), (16, .bool r2)]) (by kernel_rfl) ?_
  refine WL.join (σ := Bool) 6 (fun st => gangwayref21_Peer.k1 st = some r) (fun st => [(6, .bool false), (22, .bool st)]) (fun st => Sat w Z [] [] ([Row 1 (pl (encI .u32)) noK A4 r1.Peers, Row 3 api_Seg.encS api_Seg.inK A00 a0] ++ Glob)) (fun st hM => ?_) (fun K1 => ?_)
  ·
    obtain ⟨x9, rfl⟩ : ∃ y, y = st := ⟨st, rfl⟩
    replace hM : gangwayref21_Peer.k1 x9 = some r := hM
    unfold gangwayref21_Peer.k1 at hM
    show WL _ _ _ _ _ [(6, .bool false), (22, .bool x9)] (Sat w Z [] [] ([Row 1 (pl (encI .u32)) noK A4 r1.Peers, Row 3 api_Seg.encS api_Seg.inK A00 a0] ++ Glob))
    refine WL.run 1 [] [6] (fun _ => [(6, .bool x9)]) (fun _ => []) (fun _ => []) (fun _ => by kernel_rfl) (fun _ => ?_)
    refine WP.done ?_
    obtain rfl := Option.some.inj hM
    exact WP.ret [] [] (.bool x9) (by kernel_rfl) (fun w' hw => ⟨rfl, (hw.pick [] rfl).lessF [1] (by kernel_rfl)⟩)
  ·
    refine WL.split (fun b' => [(2, .int .u32 a2), (6, .bool false), (7, .pointer (some ⟨b5, 0, none⟩)), (16, .bool b')]) r2 (fun c6 => ?_) (fun c6 => ?_)
    · replace hM := cond_t hM c6
      refine WL.run 3 [0] [6, 16, 18, 19] (fun _ => [(6, .bool false), (16, .bool true), (18, slcV A4 r1.Peers.length), (19, .int .u32 a2)]) (fun _ => [(b5, .cells #[.int .i64 r1.Vid, .int .i64 r1.Vni, slcV A4 r1.Peers.length] 35 (0, 0))]) (fun _ => [b5]) (fun _ => by kernel_rfl) (fun _ => ?_)
      obtain ⟨r7, h8, hM⟩ := bind_some hM
      refine WL.callP [] [] (gangwayref21_often_calls k A4 r1.Peers a2 _ h8) (sub_pick [0] (by kernel_rfl)) (by kernel_rfl) (by kernel_rfl) rfl ?_
      refine WL.run 2 [] [6, 22] (fun _ => [(6, .bool false), (22, .bool (decide (r7 > 0)))]) (fun _ => [(b5, .cells #[.int .i64 r1.Vid, .int .i64 r1.Vni, slcV A4 r1.Peers.length] 35 (0, 0))]) (fun _ => []) (fun _ => by kernel_rfl) (fun _ => ?_)
      exact WL.sub [6, 22] (by kernel_rfl) (WL.pick [] (by kernel_rfl) (by kernel_rfl) (WL.lessF [0, 1] (by kernel_rfl) (K1 (decide (r7 > 0)) hM)))
    · replace hM := cond_f hM c6
      refine WL.run 6 [] [6, 22] (fun _ => [(6, .bool false), (22, .bool false)]) (fun _ => [(b5, .cells #[.int .i64 r1.Vid, .int .i64 r1.Vni, slcV A4 r1.Peers.length] 35 (0, 0))]) (fun _ => []) (fun _ => by kernel_rfl) (fun _ => ?_)
      exact WL.sub [6, 22] (by kernel_rfl) (WL.pick [] (by kernel_rfl) (by kernel_rfl) (WL.lessF [0, 1] (by kernel_rfl) (K1 false hM)))

end Go.Proofs.YtbodofjnfmjbpaaGreatDoor

namespace Go.Proofs.YtbodofjnfmjbpaaGreatDoor
open Go Eng
set_option linter.unusedVariables false
set_option linter.unusedSimpArgs false

/-! ### gangway/gangwayref04.word: function 53 -/
def gangwayref04_word.f (a0 : ByteArray) : Option (Int) :=
  (idxS a0 0).bind fun t1 =>
  (idxS a0 1).bind fun t3 =>
  some (i64 ((i64 ((i64 t1) * 256)) + (i64 t3)))

set_option maxRecDepth 100000 in
theorem gangwayref04_word_calls (a0 : ByteArray) (r : Int) (h : gangwayref04_word.f a0 = some r) : Pure Tryz.prog Glob 53 #[.string a0] (.int .i64 r) := by
  intro w Z hS
  refine calls_of (args := [.string a0]) (L := [(0, .string a0)]) (N := 11) (S := Sat w Z [] [] Glob) Tryz.func53 rfl rfl (Nat.le_of_ble_eq_true rfl) rfl hS ?_
  have hM := h
  clear h hS
  unfold gangwayref04_word.f at hM
  refine WP.seq ?_
  refine WP.run [] [0, 2] (fun _ => [(0, .string a0), (2, .int .i64 0)]) (fun _ => []) (fun _ => []) (fun _ => by kernel_rfl) (fun _ => ?_)
  refine WP.seq ?_
  refine WP.quiet (by kernel_rfl) (by kernel_rfl) ?_
  refine QL.run 1 [] [0, 2, 3] [] [(0, .string a0), (2, .int .i64 0), (3, .string a0)] (by kernel_rfl) ?_
  obtain ⟨t1, h2, hM⟩ := bind_some hM
  refine QL.val (fun _ => run_idxS (s := a0) (k := .i64) (i := 0) (by kernel_rfl) (by kernel_rfl) (by kernel_rfl) h2) (by kernel_rfl) (by kernel_rfl) rfl ?_
  refine QL.run 3 [] [2, 6, 7] [] [(2, .int .i64 0), (6, .int .i64 (i64 ((i64 t1) * 256))), (7, .string a0)] (by kernel_rfl) ?_
  obtain ⟨t3, h4, hM⟩ := bind_some hM
  refine QL.val (fun _ => run_idxS (s := a0) (k := .i64) (i := 1) (by kernel_rfl) (by kernel_rfl) (by kernel_rfl) h4) (by kernel_rfl) (by kernel_rfl) rfl ?_
  refine QL.run 3 [] [2] [] [(2, .int .i64 (i64 ((i64 ((i64 t1) * 256)) + (i64 t3))))] (by kernel_rfl) ?_
  refine QL.done ?_
  obtain rfl := Option.some.inj hM
  exact WP.ret [] [] (.int .i64 (i64 ((i64 ((i64 t1) * 256)) + (i64 t3)))) (by kernel_rfl) (fun w' hw => ⟨rfl, hw.pick [] rfl⟩)

end Go.Proofs.YtbodofjnfmjbpaaGreatDoor

namespace Go.Proofs.YtbodofjnfmjbpaaGreatDoor
open Go Eng
set_option linter.unusedVariables false
set_option linter.unusedSimpArgs false

/-! ### gangway/gangwayref04.Parse: function 30 -/
def gangwayref04_Parse.k1 (x32 : Int) (r7 : Int) (r11 : Int) (x34 : Bool) (x35 : Int) (x36 : Bool) (x37 : Int) (x33 : ByteArray) (x39 : Bool) : Option (api_Frame × Int) :=
  bif x39 then
    some ((api_Frame.mk 0 0 (api_Tag.mk false 0 false 0) 0 (⟨#[]⟩ : ByteArray)), 41)
  else
    bif decide (x32 > 1500) then
      some ((api_Frame.mk r7 r11 (api_Tag.mk x34 x35 x36 x37) x32 x33), 0)
    else
      bif decide (x32 > (x33.size : Int)) then
        some ((api_Frame.mk 0 0 (api_Tag.mk false 0 false 0) 0 (⟨#[]⟩ : ByteArray)), 40)
      else
        (sliceS x33 0 x32).bind fun t43 =>
        some ((api_Frame.mk r7 r11 (api_Tag.mk x34 x35 x36 x37) 0 t43), 0)

def gangwayref04_Parse.k2 (r7 : Int) (r11 : Int) (x32 : Int) (x33 : ByteArray) (x34 : Bool) (x35 : Int) (x36 : Bool) (x37 : Int) : Option (api_Frame × Int) :=
  bif (x32 == 33024) then
    gangwayref04_Parse.k1 x32 r7 r11 x34 x35 x36 x37 x33 true
  else
    gangwayref04_Parse.k1 x32 r7 r11 x34 x35 x36 x37 x33 ((decide (x32 > 1500)) && (decide (x32 < 1536)))

def gangwayref04_Parse.f (k : Nat) (a0 : ByteArray) : Option (api_Frame × Int) :=
  bif decide ((a0.size : Int) > 1600) then
    some ((api_Frame.mk 0 0 (api_Tag.mk false 0 false 0) 0 (⟨#[]⟩ : ByteArray)), 41)
  else
    bif decide ((a0.size : Int) < 14) then
      some ((api_Frame.mk 0 0 (api_Tag.mk false 0 false 0) 0 (⟨#[]⟩ : ByteArray)), 40)
    else
      (sliceS a0 0 6).bind fun t5 =>
      (gangwayref01_Num.f k t5).bind fun r7 =>
      (sliceS a0 6 12).bind fun t9 =>
      (gangwayref01_Num.f k t9).bind fun r11 =>
      (sliceS a0 12 14).bind fun t14 =>
      (gangwayref04_word.f t14).bind fun r16 =>
      (sliceS a0 14 (a0.size : Int)).bind fun t18 =>
      bif (r16 == 33024) then
        bif decide ((t18.size : Int) < 4) then
          some ((api_Frame.mk 0 0 (api_Tag.mk false 0 false 0) 0 (⟨#[]⟩ : ByteArray)), 40)
        else
          (sliceS t18 0 2).bind fun t22 =>
          (gangwayref04_word.f t22).bind fun r24 =>
          (sliceS t18 2 4).bind fun t26 =>
          (gangwayref04_word.f t26).bind fun r28 =>
          (sliceS t18 4 (t18.size : Int)).bind fun t30 =>
          gangwayref04_Parse.k2 r7 r11 r28 t30 true (i64 (Int.tdiv r24 8192)) ((Int.tmod (i64 (Int.tdiv r24 4096)) 2) == 1) (Int.tmod r24 4096)
      else
        gangwayref04_Parse.k2 r7 r11 r16 t18 false 0 false 0

set_option maxRecDepth 100000 in
theorem gangwayref04_Parse_calls (k : Nat) (a0 : ByteArray) (r : api_Frame × Int) (h : gangwayref04_Parse.f k a0 = some r) : Pure Tryz.prog Glob 30 #[.string a0] (.tuple #[.agg #[.int .u64 r.1.Dst, .int .u64 r.1.Src, .bool r.1.Tag.Has, .int .i64 r.1.Tag.Pri, .bool r.1.Tag.Dei, .int .i64 r.1.Tag.Vid, .int .i64 r.1.Type_, .string r.1.Body], .int .i64 r.2]) := by
  intro w Z hS
  refine calls_of (args := [.string a0]) (L := [(0, .string a0)]) (N := 80) (S := Sat w Z [] [] Glob) Tryz.func30 rfl rfl (Nat.le_of_ble_eq_true rfl) rfl hS ?_
  have hM := h
  clear h hS
  unfold gangwayref04_Parse.f at hM
  refine WP.seq ?_
  refine WP.run [] [0, 2, 3] (fun b1 => [(0, .string a0), (2, .pointer (some ⟨b1, 0, none⟩)), (3, .int .i64 0)]) (fun b1 => [(b1, .cells #[.int .u64 0, .int .u64 0, .bool false, .int .i64 0, .bool false, .int .i64 0, .int .i64 0, .string (⟨#[]⟩ : ByteArray)] 29 (0, 0))]) (fun b1 => []) (fun b1 => by kernel_rfl) (fun b1 => ?_)
  refine WP.seq ?_
  refine WP.seq ?_
  refine WP.run [] [0, 2, 3, 10] (fun _ => [(0, .string a0), (2, .pointer (some ⟨b1, 0, none⟩)), (3, .int .i64 0), (10, .bool (decide ((a0.size : Int) > 1600)))]) (fun _ => [(b1, .cells #[.int .u64 0, .int .u64 0, .bool false, .int .i64 0, .bool false, .int .i64 0, .int .i64 0, .string (⟨#[]⟩ : ByteArray)] 29 (0, 0))]) (fun _ => []) (fun _ => by kernel_rfl) (fun _ => ?_)
  refine WP.cond (decide ((a0.size : Int) > 1600)) rfl rfl (fun c2 => ?_) (fun c2 => ?_)
  · replace hM := cond_t hM c2
    refine WP.seq ?_
    refine WP.run [0, 0, 0, 0, 0, 0, 0, 0] [0, 2, 3] (fun _ => [(0, .string a0), (2, .pointer (some ⟨b1, 0, none⟩)), (3, .int .i64 41)]) (fun _ => [(b1, .cells #[.int .u64 0, .int .u64 0, .bool false, .int .i64 0, .bool false, .int .i64 0, .int .i64 0, .string (⟨#[]⟩ : ByteArray)] 29 (0, 0))]) (fun _ => [b1, b1, b1, b1, b1, b1, b1, b1]) (fun _ => by kernel_rfl) (fun _ => ?_)
    obtain rfl := Option.some.inj hM
    exact WP.ret [0, 0, 0, 0, 0, 0, 0, 0] [b1, b1, b1, b1, b1, b1, b1, b1] (.tuple #[.agg #[.int .u64 0, .int .u64 0, .bool false, .int .i64 0, .bool false, .int .i64 0, .int .i64 0, .string (⟨#[]⟩ : ByteArray)], .int .i64 41]) (by kernel_rfl) (fun w' hw => ⟨rfl, hw.pick [] rfl⟩)
  · replace hM := cond_f hM c2
    refine WP.skip ?_
    refine WP.seq ?_
    refine WP.seq ?_
    refine WP.run [] [0, 2, 3, 14] (fun _ => [(0, .string a0), (2, .pointer (some ⟨b1, 0, none⟩)), (3, .int .i64 0), (14, .bool (decide ((a0.size : Int) < 14)))]) (fun _ => [(b1, .cells #[.int .u64 0, .int .u64 0, .bool false, .int .i64 0, .bool false, .int .i64 0, .int .i64 0, .string (⟨#[]⟩ : ByteArray)] 29 (0, 0))]) (fun _ => []) (fun _ => by kernel_rfl) (fun _ => ?_)
    refine WP.cond (decide ((a0.size : Int) < 14)) rfl rfl (fun c3 => ?_) (fun c3 => ?_)
    · replace hM := cond_t hM c3
      refine WP.seq ?_
      refine WP.run [0, 0, 0, 0, 0, 0, 0, 0] [0, 2, 3] (fun _ => [(0, .string a0), (2, .pointer (some ⟨b1, 0, none⟩)), (3, .int .i64 40)]) (fun _ => [(b1, .cells #[.int .u64 0, .int .u64 0, .bool false, .int .i64 0, .bool false, .int .i64 0, .int .i64 0, .string (⟨#[]⟩ : ByteArray)] 29 (0, 0))]) (fun _ => [b1, b1, b1, b1, b1, b1, b1, b1]) (fun _ => by kernel_rfl) (fun _ => ?_)
      obtain rfl := Option.some.inj hM
      exact WP.ret [0, 0, 0, 0, 0, 0, 0, 0] [b1, b1, b1, b1, b1, b1, b1, b1] (.tuple #[.agg #[.int .u64 0, .int .u64 0, .bool false, .int .i64 0, .bool false, .int .i64 0, .int .i64 0, .string (⟨#[]⟩ : ByteArray)], .int .i64 40]) (by kernel_rfl) (fun w' hw => ⟨rfl, hw.pick [] rfl⟩)
    · replace hM := cond_f hM c3
      refine WP.skip ?_
      refine WP.seq ?_
      obtain ⟨t5, h6, hM⟩ := bind_some hM
      obtain ⟨r7, h8, hM⟩ := bind_some hM
      obtain ⟨t9, h10, hM⟩ := bind_some hM
      obtain ⟨r11, h12, hM⟩ := bind_some hM
      refine WP.sub [0, 2, 3] (L' := [(0, .string a0), (2, .pointer (some ⟨b1, 0, none⟩)), (3, .int .i64 0)]) (by kernel_rfl) ?_
      refine WP.mixed (X := Unit) 8 [.val (.string a0), .val (.string t5), .val (.int .u64 r7), .val (.string a0), .val (.string t9), .val (.int .u64 r11), .val (.agg #[.int .u64 r7, .int .u64 r11, .bool false, .int .i64 0, .bool false, .int .i64 0, .int .i64 0, .string (⟨#[]⟩ : ByteArray)]), .alloc (.cells #[.int .u64 0, .int .u64 0, .bool false, .int .i64 0, .bool false, .int .i64 0, .int .i64 0, .string (⟨#[]⟩ : ByteArray)] 29 (0, 0)) (fun b => .pointer (some ⟨b, 0, none⟩))] [(b1, .cells #[.int .u64 0, .int .u64 0, .bool false, .int .i64 0, .bool false, .int .i64 0, .int .i64 0, .string (⟨#[]⟩ : ByteArray)] 29 (0, 0))] [] (by kernel_rfl) (by kernel_rfl) (by kernel_rfl) (by kernel_rfl) (Heads.val (fun tt Ψ => OpV.run [] [] (by kernel_rfl) (fun _ => by kernel_rfl)) (Heads.val (fun tt Ψ => OpV.val (fun _ => run_sliceS_hi (s := a0) (kh := .i64) (h := 6) (by kernel_rfl) (by kernel_rfl) (by kernel_rfl) h6) (by kernel_rfl)) (Heads.val (fun tt Ψ => OpV.callF [] [] (fun _ h => (List.mem_append_right _ h)) (gangwayref01_Num_calls k t5 _ h8)  (fun _ => by kernel_rfl)) (Heads.val (fun tt Ψ => OpV.run [] [] (by kernel_rfl) (fun _ => by kernel_rfl)) (Heads.val (fun tt Ψ => OpV.val (fun _ => run_sliceS (s := a0) (kl := .i64) (kh := .i64) (l := 6) (h := 12) (by kernel_rfl) (by kernel_rfl) (by kernel_rfl) (by kernel_rfl) h10) (by kernel_rfl)) (Heads.val (fun tt Ψ => OpV.callF [] [] (fun _ h => (List.mem_append_right _ h)) (gangwayref01_Num_calls k t9 _ h12)  (fun _ => by kernel_rfl)) (Heads.val (fun tt Ψ => OpV.run [] [] (by kernel_rfl) (fun _ => by kernel_rfl)) (Heads.alloc (fun _ => by kernel_rfl) (fun _ _ => by kernel_rfl) Heads.nil)))))))) (fun s4 tt => [(16, .string a0), (17, .string t5), (18, .int .u64 r7), (19, .string a0), (20, .string t9), (21, .int .u64 r11), (22, .agg #[.int .u64 r7, .int .u64 r11, .bool false, .int .i64 0, .bool false, .int .i64 0, .int .i64 0, .string (⟨#[]⟩ : ByteArray)]), (4, .pointer (some ⟨(s4 7), 0, none⟩)), (0, .string a0), (2, .pointer (some ⟨b1, 0, none⟩)), (3, .int .i64 0)]) (fun s4 tt => [(b1, .cells #[.int .u64 0, .int .u64 0, .bool false, .int .i64 0, .bool false, .int .i64 0, .int .i64 0, .string (⟨#[]⟩ : ByteArray)] 29 (0, 0)), ((s4 7), .cells #[.int .u64 0, .int .u64 0, .bool false, .int .i64 0, .bool false, .int .i64 0, .int .i64 0, .string (⟨#[]⟩ : ByteArray)] 29 (0, 0))]) (fun tt => Glob) (fun _ _ => by kernel_rfl) (fun _ _ => by kernel_rfl) (fun _ => by kernel_rfl) (fun s4 tt => ?_)
      generalize s4 7 = b13
      refine WL.run 1 [1, 1, 1, 1, 1, 1, 1, 1] [0, 2, 3, 4] (fun _ => [(0, .string a0), (2, .pointer (some ⟨b1, 0, none⟩)), (3, .int .i64 0), (4, .pointer (some ⟨b13, 0, none⟩))]) (fun _ => [(b1, .cells #[.int .u64 0, .int .u64 0, .bool false, .int .i64 0, .bool false, .int .i64 0, .int .i64 0, .string (⟨#[]⟩ : ByteArray)] 29 (0, 0)), (b13, .cells #[.int .u64 r7, .int .u64 r11, .bool false, .int .i64 0, .bool false, .int .i64 0, .int .i64 0, .string (⟨#[]⟩ : ByteArray)] 29 (0, 0))]) (fun _ => [b13, b13, b13, b13, b13, b13, b13, b13]) (fun _ => by kernel_rfl) (fun _ => ?_)
      refine WP.done ?_
      refine WP.seq ?_
      refine WP.quiet (by kernel_rfl) (by kernel_rfl) ?_
      refine QL.run 1 [] [0, 2, 3, 4, 23] [] [(0, .string a0), (2, .pointer (some ⟨b1, 0, none⟩)), (3, .int .i64 0), (4, .pointer (some ⟨b13, 0, none⟩)), (23, .string a0)] (by kernel_rfl) ?_
      obtain ⟨t14, h15, hM⟩ := bind_some hM
      refine QL.val (fun _ => run_sliceS (s := a0) (kl := .i64) (kh := .i64) (l := 12) (h := 14) (by kernel_rfl) (by kernel_rfl) (by kernel_rfl) (by kernel_rfl) h15) (by kernel_rfl) (by kernel_rfl) rfl ?_
      obtain ⟨r16, h17, hM⟩ := bind_some hM
      refine QL.callP [] [] (gangwayref04_word_calls t14 _ h17) (fun _ h => h) (by kernel_rfl) (by kernel_rfl) rfl ?_
      refine QL.run 1 [] [2, 3, 4, 25, 26] [] [(2, .pointer (some ⟨b1, 0, none⟩)), (3, .int .i64 0), (4, .pointer (some ⟨b13, 0, none⟩)), (25, .int .i64 r16), (26, .string a0)] (by kernel_rfl) ?_
      obtain ⟨t18, h19, hM⟩ := bind_some hM
      refine QL.val (fun _ => run_sliceS_lo (s := a0) (kl := .i64) (l := 14) (by kernel_rfl) (by kernel_rfl) (by kernel_rfl) h19) (by kernel_rfl) (by kernel_rfl) rfl ?_
      refine QL.run 2 [] [2, 3, 4, 5, 6] [] [(2, .pointer (some ⟨b1, 0, none⟩)), (3, .int .i64 0), (4, .pointer (some ⟨b13, 0, none⟩)), (5, .int .i64 r16), (6, .string t18)] (by kernel_rfl) ?_
      refine QL.done ?_
      refine WP.seqJoin (σ := Int × ByteArray × Bool × Int × Bool × Int) (fun st => gangwayref04_Parse.k2 r7 r11 st.1 st.2.1 st.2.2.1 st.2.2.2.1 st.2.2.2.2.1 st.2.2.2.2.2 = some r) (fun st => [(2, .pointer (some ⟨b1, 0, none⟩)), (3, .int .i64 0), (4, .pointer (some ⟨b13, 0, none⟩)), (5, .int .i64 st.1), (6, .string st.2.1)]) (fun st => Sat w Z [(b1, .cells #[.int .u64 0, .int .u64 0, .bool false, .int .i64 0, .bool false, .int .i64 0, .int .i64 0, .string (⟨#[]⟩ : ByteArray)] 29 (0, 0)), (b13, .cells #[.int .u64 r7, .int .u64 r11, .bool st.2.2.1, .int .i64 st.2.2.2.1, .bool st.2.2.2.2.1, .int .i64 st.2.2.2.2.2, .int .i64 0, .string (⟨#[]⟩ : ByteArray)] 29 (0, 0))] [] Glob) (fun st hM => ?_) (fun K2 => ?_)
      ·
        obtain ⟨x32, x33, x34, x35, x36, x37⟩ := st
        replace hM : gangwayref04_Parse.k2 r7 r11 x32 x33 x34 x35 x36 x37 = some r := hM
        unfold gangwayref04_Parse.k2 at hM
        show WP _ _ _ _ _ [(2, .pointer (some ⟨b1, 0, none⟩)), (3, .int .i64 0), (4, .pointer (some ⟨b13, 0, none⟩)), (5, .int .i64 x32), (6, .string x33)] (Sat w Z [(b1, .cells #[.int .u64 0, .int .u64 0, .bool false, .int .i64 0, .bool false, .int .i64 0, .int .i64 0, .string (⟨#[]⟩ : ByteArray)] 29 (0, 0)), (b13, .cells #[.int .u64 r7, .int .u64 r11, .bool x34, .int .i64 x35, .bool x36, .int .i64 x37, .int .i64 0, .string (⟨#[]⟩ : ByteArray)] 29 (0, 0))] [] Glob)
        refine WP.seq ?_
        refine WP.seq ?_
        refine WP.region ?_
        refine WL.run 3 [] [2, 3, 4, 5, 6, 54] (fun _ => [(2, .pointer (some ⟨b1, 0, none⟩)), (3, .int .i64 0), (4, .pointer (some ⟨b13, 0, none⟩)), (5, .int .i64 x32), (6, .string x33), (54, .bool (x32 == 33024))]) (fun _ => [(b1, .cells #[.int .u64 0, .int .u64 0, .bool false, .int .i64 0, .bool false, .int .i64 0, .int .i64 0, .string (⟨#[]⟩ : ByteArray)] 29 (0, 0)), (b13, .cells #[.int .u64 r7, .int .u64 r11, .bool x34, .int .i64 x35, .bool x36, .int .i64 x37, .int .i64 0, .string (⟨#[]⟩ : ByteArray)] 29 (0, 0))]) (fun _ => []) (fun _ => by kernel_rfl) (fun _ => ?_)
        refine WL.sub [2, 3, 4, 5, 6, 54] (L' := [(2, .pointer (some ⟨b1, 0, none⟩)), (3, .int .i64 0), (4, .pointer (some ⟨b13, 0, none⟩)), (5, .int .i64 x32), (6, .string x33), (54, .bool (x32 == 33024))]) (by kernel_rfl) ?_
        refine WL.join (σ := Bool) 7 (fun st => gangwayref04_Parse.k1 x32 r7 r11 x34 x35 x36 x37 x33 st = some r) (fun st => [(2, .pointer (some ⟨b1, 0, none⟩)), (3, .int .i64 0), (4, .pointer (some ⟨b13, 0, none⟩)), (5, .int .i64 x32), (6, .string x33), (61, .bool st)]) (fun st => Sat w Z [(b1, .cells #[.int .u64 0, .int .u64 0, .bool false, .int .i64 0, .bool false, .int .i64 0, .int .i64 0, .string (⟨#[]⟩ : ByteArray)] 29 (0, 0)), (b13, .cells #[.int .u64 r7, .int .u64 r11, .bool x34, .int .i64 x35, .bool x36, .int .i64 x37, .int .i64 0, .string (⟨#[]⟩ : ByteArray)] 29 (0, 0))] [] Glob) (fun st hM => ?_) (fun K1 => ?_)
        ·
          obtain ⟨x39, rfl⟩ : ∃ y, y = st := ⟨st, rfl⟩
          replace hM : gangwayref04_Parse.k1 x32 r7 r11 x34 x35 x36 x37 x33 x39 = some r := hM
          unfold gangwayref04_Parse.k1 at hM
          show WL _ _ _ _ _ [(2, .pointer (some ⟨b1, 0, none⟩)), (3, .int .i64 0), (4, .pointer (some ⟨b13, 0, none⟩)), (5, .int .i64 x32), (6, .string x33), (61, .bool x39)] (Sat w Z [(b1, .cells #[.int .u64 0, .int .u64 0, .bool false, .int .i64 0, .bool false, .int .i64 0, .int .i64 0, .string (⟨#[]⟩ : ByteArray)] 29 (0, 0)), (b13, .cells #[.int .u64 r7, .int .u64 r11, .bool x34, .int .i64 x35, .bool x36, .int .i64 x37, .int .i64 0, .string (⟨#[]⟩ : ByteArray)] 29 (0, 0))] [] Glob)
          refine WP.done ?_
          refine WP.cond x39 rfl rfl (fun c40 => ?_) (fun c40 => ?_)
          · replace hM := cond_t hM c40
            refine WP.seq ?_
            refine WP.run [0, 0, 0, 0, 0, 0, 0, 0] [2, 3, 4, 5, 6] (fun _ => [(2, .pointer (some ⟨b1, 0, none⟩)), (3, .int .i64 41), (4, .pointer (some ⟨b13, 0, none⟩)), (5, .int .i64 x32), (6, .string x33)]) (fun _ => [(b1, .cells #[.int .u64 0, .int .u64 0, .bool false, .int .i64 0, .bool false, .int .i64 0, .int .i64 0, .string (⟨#[]⟩ : ByteArray)] 29 (0, 0)), (b13, .cells #[.int .u64 r7, .int .u64 r11, .bool x34, .int .i64 x35, .bool x36, .int .i64 x37, .int .i64 0, .string (⟨#[]⟩ : ByteArray)] 29 (0, 0))]) (fun _ => [b1, b1, b1, b1, b1, b1, b1, b1]) (fun _ => by kernel_rfl) (fun _ => ?_)
            obtain rfl := Option.some.inj hM
            exact WP.ret [0, 0, 0, 0, 0, 0, 0, 0] [b1, b1, b1, b1, b1, b1, b1, b1] (.tuple #[.agg #[.int .u64 0, .int .u64 0, .bool false, .int .i64 0, .bool false, .int .i64 0, .int .i64 0, .string (⟨#[]⟩ : ByteArray)], .int .i64 41]) (by kernel_rfl) (fun w' hw => ⟨rfl, hw.pick [] rfl⟩)
          · replace hM := cond_f hM c40
            refine WP.skip ?_
            refine WP.seq ?_
            refine WP.seq ?_
            refine WP.run [] [2, 3, 4, 5, 6, 64] (fun _ => [(2, .pointer (some ⟨b1, 0, none⟩)), (3, .int .i64 0), (4, .pointer (some ⟨b13, 0, none⟩)), (5, .int .i64 x32), (6, .string x33), (64, .bool (decide (x32 > 1500)))]) (fun _ => [(b1, .cells #[.int .u64 0, .int .u64 0, .bool false, .int .i64 0, .bool false, .int .i64 0, .int .i64 0, .string (⟨#[]⟩ : ByteArray)] 29 (0, 0)), (b13, .cells #[.int .u64 r7, .int .u64 r11, .bool x34, .int .i64 x35, .bool x36, .int .i64 x37, .int .i64 0, .string (⟨#[]⟩ : ByteArray)] 29 (0, 0))]) (fun _ => []) (fun _ => by kernel_rfl) (fun _ => ?_)
            refine WP.cond (decide (x32 > 1500)) rfl rfl (fun c41 => ?_) (fun c41 => ?_)
            · replace hM := cond_t hM c41
              refine WP.seq ?_
              refine WP.run [1] [2, 3, 4, 5, 6] (fun _ => [(2, .pointer (some ⟨b1, 0, none⟩)), (3, .int .i64 0), (4, .pointer (some ⟨b13, 0, none⟩)), (5, .int .i64 x32), (6, .string x33)]) (fun _ => [(b1, .cells #[.int .u64 0, .int .u64 0, .bool false, .int .i64 0, .bool false, .int .i64 0, .int .i64 0, .string (⟨#[]⟩ : ByteArray)] 29 (0, 0)), (b13, .cells #[.int .u64 r7, .int .u64 r11, .bool x34, .int .i64 x35, .bool x36, .int .i64 x37, .int .i64 x32, .string (⟨#[]⟩ : ByteArray)] 29 (0, 0))]) (fun _ => [b13]) (fun _ => by kernel_rfl) (fun _ => ?_)
              refine WP.seq ?_
              refine WP.run [1] [2, 3, 4, 5, 6] (fun _ => [(2, .pointer (some ⟨b1, 0, none⟩)), (3, .int .i64 0), (4, .pointer (some ⟨b13, 0, none⟩)), (5, .int .i64 x32), (6, .string x33)]) (fun _ => [(b1, .cells #[.int .u64 0, .int .u64 0, .bool false, .int .i64 0, .bool false, .int .i64 0, .int .i64 0, .string (⟨#[]⟩ : ByteArray)] 29 (0, 0)), (b13, .cells #[.int .u64 r7, .int .u64 r11, .bool x34, .int .i64 x35, .bool x36, .int .i64 x37, .int .i64 x32, .string x33] 29 (0, 0))]) (fun _ => [b13]) (fun _ => by kernel_rfl) (fun _ => ?_)
              refine WP.seq ?_
              refine WP.run [1, 1, 1, 1, 1, 1, 1, 1, 0, 0, 0, 0, 0, 0, 0, 0] [2, 3, 4, 5, 6] (fun _ => [(2, .pointer (some ⟨b1, 0, none⟩)), (3, .int .i64 0), (4, .pointer (some ⟨b13, 0, none⟩)), (5, .int .i64 x32), (6, .string x33)]) (fun _ => [(b1, .cells #[.int .u64 r7, .int .u64 r11, .bool x34, .int .i64 x35, .bool x36, .int .i64 x37, .int .i64 x32, .string x33] 29 (0, 0)), (b13, .cells #[.int .u64 r7, .int .u64 r11, .bool x34, .int .i64 x35, .bool x36, .int .i64 x37, .int .i64 x32, .string x33] 29 (0, 0))]) (fun _ => [b1, b1, b1, b1, b1, b1, b1, b1, b13, b13, b13, b13, b13, b13, b13, b13]) (fun _ => by kernel_rfl) (fun _ => ?_)
              obtain rfl := Option.some.inj hM
              exact WP.ret [0, 0, 0, 0, 0, 0, 0, 0] [b1, b1, b1, b1, b1, b1, b1, b1] (.tuple #[.agg #[.int .u64 r7, .int .u64 r11, .bool x34, .int .i64 x35, .bool x36, .int .i64 x37, .int .i64 x32, .string x33], .int .i64 0]) (by kernel_rfl) (fun w' hw => ⟨rfl, hw.pick [] rfl⟩)
            · replace hM := cond_f hM c41
              refine WP.skip ?_
              refine WP.seq ?_
              refine WP.seq ?_
              refine WP.run [] [2, 3, 4, 5, 6, 73] (fun _ => [(2, .pointer (some ⟨b1, 0, none⟩)), (3, .int .i64 0), (4, .pointer (some ⟨b13, 0, none⟩)), (5, .int .i64 x32), (6, .string x33), (73, .bool (decide (x32 > (x33.size : Int))))]) (fun _ => [(b1, .cells #[.int .u64 0, .int .u64 0, .bool false, .int .i64 0, .bool false, .int .i64 0, .int .i64 0, .string (⟨#[]⟩ : ByteArray)] 29 (0, 0)), (b13, .cells #[.int .u64 r7, .int .u64 r11, .bool x34, .int .i64 x35, .bool x36, .int .i64 x37, .int .i64 0, .string (⟨#[]⟩ : ByteArray)] 29 (0, 0))]) (fun _ => []) (fun _ => by kernel_rfl) (fun _ => ?_)
              refine WP.cond (decide (x32 > (x33.size : Int))) rfl rfl (fun c42 => ?_) (fun c42 => ?_)
              · replace hM := cond_t hM c42
                refine WP.seq ?_
                refine WP.run [0, 0, 0, 0, 0, 0, 0, 0] [2, 3, 4, 5, 6] (fun _ => [(2, .pointer (some ⟨b1, 0, none⟩)), (3, .int .i64 40), (4, .pointer (some ⟨b13, 0, none⟩)), (5, .int .i64 x32), (6, .string x33)]) (fun _ => [(b1, .cells #[.int .u64 0, .int .u64 0, .bool false, .int .i64 0, .bool false, .int .i64 0, .int .i64 0, .string (⟨#[]⟩ : ByteArray)] 29 (0, 0)), (b13, .cells #[.int .u64 r7, .int .u64 r11, .bool x34, .int .i64 x35, .bool x36, .int .i64 x37, .int .i64 0, .string (⟨#[]⟩ : ByteArray)] 29 (0, 0))]) (fun _ => [b1, b1, b1, b1, b1, b1, b1, b1]) (fun _ => by kernel_rfl) (fun _ => ?_)
                obtain rfl := Option.some.inj hM
                exact WP.ret [0, 0, 0, 0, 0, 0, 0, 0] [b1, b1, b1, b1, b1, b1, b1, b1] (.tuple #[.agg #[.int .u64 0, .int .u64 0, .bool false, .int .i64 0, .bool false, .int .i64 0, .int .i64 0, .string (⟨#[]⟩ : ByteArray)], .int .i64 40]) (by kernel_rfl) (fun w' hw => ⟨rfl, hw.pick [] rfl⟩)
              · replace hM := cond_f hM c42
                refine WP.skip ?_
                refine WP.seq ?_
                refine WP.region ?_
                refine WL.run 2 [] [2, 3, 4, 75, 76] (fun _ => [(2, .pointer (some ⟨b1, 0, none⟩)), (3, .int .i64 0), (4, .pointer (some ⟨b13, 0, none⟩)), (75, .string x33), (76, .int .i64 x32)]) (fun _ => [(b1, .cells #[.int .u64 0, .int .u64 0, .bool false, .int .i64 0, .bool false, .int .i64 0, .int .i64 0, .string (⟨#[]⟩ : ByteArray)] 29 (0, 0)), (b13, .cells #[.int .u64 r7, .int .u64 r11, .bool x34, .int .i64 x35, .bool x36, .int .i64 x37, .int .i64 0, .string (⟨#[]⟩ : ByteArray)] 29 (0, 0))]) (fun _ => []) (fun _ => by kernel_rfl) (fun _ => ?_)
                obtain ⟨t43, h44, hM⟩ := bind_some hM
                refine WL.val (fun _ => run_sliceS_hi (s := x33) (kh := .i64) (h := x32) (by kernel_rfl) (by kernel_rfl) (by kernel_rfl) h44) (by kernel_rfl) (by kernel_rfl) rfl ?_
                refine WL.run 2 [1] [2, 3, 4] (fun _ => [(2, .pointer (some ⟨b1, 0, none⟩)), (3, .int .i64 0), (4, .pointer (some ⟨b13, 0, none⟩))]) (fun _ => [(b1, .cells #[.int .u64 0, .int .u64 0, .bool false, .int .i64 0, .bool false, .int .i64 0, .int .i64 0, .string (⟨#[]⟩ : ByteArray)] 29 (0, 0)), (b13, .cells #[.int .u64 r7, .int .u64 r11, .bool x34, .int .i64 x35, .bool x36, .int .i64 x37, .int .i64 0, .string t43] 29 (0, 0))]) (fun _ => [b13]) (fun _ => by kernel_rfl) (fun _ => ?_)
                refine WP.done ?_
                refine WP.seq ?_
                refine WP.run [1, 1, 1, 1, 1, 1, 1, 1, 0, 0, 0, 0, 0, 0, 0, 0] [2, 3] (fun _ => [(2, .pointer (some ⟨b1, 0, none⟩)), (3, .int .i64 0)]) (fun _ => [(b1, .cells #[.int .u64 r7, .int .u64 r11, .bool x34, .int .i64 x35, .bool x36, .int .i64 x37, .int .i64 0, .string t43] 29 (0, 0)), (b13, .cells #[.int .u64 r7, .int .u64 r11, .bool x34, .int .i64 x35, .bool x36, .int .i64 x37, .int .i64 0, .string t43] 29 (0, 0))]) (fun _ => [b1, b1, b1, b1, b1, b1, b1, b1, b13, b13, b13, b13, b13, b13, b13, b13]) (fun _ => by kernel_rfl) (fun _ => ?_)
                refine WP.keep [true, false] (by kernel_rfl : _ = [(b1, .cells #[.int .u64 r7, .int .u64 r11, .bool x34, .int .i64 x35, .bool x36, .int .i64 x37, .int .i64 0, .string t43] 29 (0, 0))]) ?_
                obtain rfl := Option.some.inj hM
                exact WP.ret [0, 0, 0, 0, 0, 0, 0, 0] [b1, b1, b1, b1, b1, b1, b1, b1] (.tuple #[.agg #[.int .u64 r7, .int .u64 r11, .bool x34, .int .i64 x35, .bool x36, .int .i64 x37, .int .i64 0, .string t43], .int .i64 0]) (by kernel_rfl) (fun w' hw => ⟨rfl, hw.pick [] rfl⟩)
        ·
          refine WL.split (fun b' => [(2, .pointer (some ⟨b1, 0, none⟩)), (3, .int .i64 0), (4, .pointer (some ⟨b13, 0, none⟩)), (5, .int .i64 x32), (6, .string x33), (54, .bool b')]) (x32 == 33024) (fun c38 => ?_) (fun c38 => ?_)
          · replace hM := cond_t hM c38
            refine WL.run 7 [] [2, 3, 4, 5, 6, 61] (fun _ => [(2, .pointer (some ⟨b1, 0, none⟩)), (3, .int .i64 0), (4, .pointer (some ⟨b13, 0, none⟩)), (5, .int .i64 x32), (6, .string x33), (61, .bool true)]) (fun _ => [(b1, .cells #[.int .u64 0, .int .u64 0, .bool false, .int .i64 0, .bool false, .int .i64 0, .int .i64 0, .string (⟨#[]⟩ : ByteArray)] 29 (0, 0)), (b13, .cells #[.int .u64 r7, .int .u64 r11, .bool x34, .int .i64 x35, .bool x36, .int .i64 x37, .int .i64 0, .string (⟨#[]⟩ : ByteArray)] 29 (0, 0))]) (fun _ => []) (fun _ => by kernel_rfl) (fun _ => ?_)
            exact WL.sub [2, 3, 4, 5, 6, 61] (by kernel_rfl) (WL.pick [0, 1] (by kernel_rfl) (by kernel_rfl) (K1 true hM))
          · replace hM := cond_f hM c38
            refine WL.run 3 [] [2, 3, 4, 5, 6, 54, 57] (fun _ => [(2, .pointer (some ⟨b1, 0, none⟩)), (3, .int .i64 0), (4, .pointer (some ⟨b13, 0, none⟩)), (5, .int .i64 x32), (6, .string x33), (54, .bool false), (57, .bool (decide (x32 > 1500)))]) (fun _ => [(b1, .cells #[.int .u64 0, .int .u64 0, .bool false, .int .i64 0, .bool false, .int .i64 0, .int .i64 0, .string (⟨#[]⟩ : ByteArray)] 29 (0, 0)), (b13, .cells #[.int .u64 r7, .int .u64 r11, .bool x34, .int .i64 x35, .bool x36, .int .i64 x37, .int .i64 0, .string (⟨#[]⟩ : ByteArray)] 29 (0, 0))]) (fun _ => []) (fun _ => by kernel_rfl) (fun _ => ?_)
            refine WL.sub [2, 3, 4, 5, 6, 54, 57] (L' := [(2, .pointer (some ⟨b1, 0, none⟩)), (3, .int .i64 0), (4, .pointer (some ⟨b13, 0, none⟩)), (5, .int .i64 x32), (6, .string x33), (54, .bool false), (57, .bool (decide (x32 > 1500)))]) (by kernel_rfl) ?_
            refine WL.both (fun b' => [(2, .pointer (some ⟨b1, 0, none⟩)), (3, .int .i64 0), (4, .pointer (some ⟨b13, 0, none⟩)), (5, .int .i64 x32), (6, .string x33), (54, .bool false), (57, .bool b')]) (decide (x32 > 1500)) 3 [] [] [2, 3, 4, 5, 6, 54, 60] (fun b' => [(2, .pointer (some ⟨b1, 0, none⟩)), (3, .int .i64 0), (4, .pointer (some ⟨b13, 0, none⟩)), (5, .int .i64 x32), (6, .string x33), (54, .bool false), (60, .bool (b' && (decide (x32 < 1536))))]) [] [] (fun _ => by kernel_rfl) (fun _ => by kernel_rfl) ?_
            refine WL.run 1 [] [2, 3, 4, 5, 6, 61] (fun _ => [(2, .pointer (some ⟨b1, 0, none⟩)), (3, .int .i64 0), (4, .pointer (some ⟨b13, 0, none⟩)), (5, .int .i64 x32), (6, .string x33), (61, .bool ((decide (x32 > 1500)) && (decide (x32 < 1536))))]) (fun _ => [(b1, .cells #[.int .u64 0, .int .u64 0, .bool false, .int .i64 0, .bool false, .int .i64 0, .int .i64 0, .string (⟨#[]⟩ : ByteArray)] 29 (0, 0)), (b13, .cells #[.int .u64 r7, .int .u64 r11, .bool x34, .int .i64 x35, .bool x36, .int .i64 x37, .int .i64 0, .string (⟨#[]⟩ : ByteArray)] 29 (0, 0))]) (fun _ => []) (fun _ => by kernel_rfl) (fun _ => ?_)
            exact WL.sub [2, 3, 4, 5, 6, 61] (by kernel_rfl) (WL.pick [0, 1] (by kernel_rfl) (by kernel_rfl) (K1 ((decide (x32 > 1500)) && (decide (x32 < 1536))) hM))
      ·
        refine WP.seq ?_
        refine WP.run [] [2, 3, 4, 5, 6, 29] (fun _ => [(2, .pointer (some ⟨b1, 0, none⟩)), (3, .int .i64 0), (4, .pointer (some ⟨b13, 0, none⟩)), (5, .int .i64 r16), (6, .string t18), (29, .bool (r16 == 33024))]) (fun _ => [(b1, .cells #[.int .u64 0, .int .u64 0, .bool false, .int .i64 0, .bool false, .int .i64 0, .int .i64 0, .string (⟨#[]⟩ : ByteArray)] 29 (0, 0)), (b13, .cells #[.int .u64 r7, .int .u64 r11, .bool false, .int .i64 0, .bool false, .int .i64 0, .int .i64 0, .string (⟨#[]⟩ : ByteArray)] 29 (0, 0))]) (fun _ => []) (fun _ => by kernel_rfl) (fun _ => ?_)
        refine WP.cond (r16 == 33024) rfl rfl (fun c20 => ?_) (fun c20 => ?_)
        · replace hM := cond_t hM c20
          refine WP.seq ?_
          refine WP.seq ?_
          refine WP.run [] [2, 3, 4, 5, 6, 32] (fun _ => [(2, .pointer (some ⟨b1, 0, none⟩)), (3, .int .i64 0), (4, .pointer (some ⟨b13, 0, none⟩)), (5, .int .i64 r16), (6, .string t18), (32, .bool (decide ((t18.size : Int) < 4)))]) (fun _ => [(b1, .cells #[.int .u64 0, .int .u64 0, .bool false, .int .i64 0, .bool false, .int .i64 0, .int .i64 0, .string (⟨#[]⟩ : ByteArray)] 29 (0, 0)), (b13, .cells #[.int .u64 r7, .int .u64 r11, .bool false, .int .i64 0, .bool false, .int .i64 0, .int .i64 0, .string (⟨#[]⟩ : ByteArray)] 29 (0, 0))]) (fun _ => []) (fun _ => by kernel_rfl) (fun _ => ?_)
          refine WP.cond (decide ((t18.size : Int) < 4)) rfl rfl (fun c21 => ?_) (fun c21 => ?_)
          · replace hM := cond_t hM c21
            refine WP.seq ?_
            refine WP.run [0, 0, 0, 0, 0, 0, 0, 0] [2, 3, 4, 5, 6] (fun _ => [(2, .pointer (some ⟨b1, 0, none⟩)), (3, .int .i64 40), (4, .pointer (some ⟨b13, 0, none⟩)), (5, .int .i64 r16), (6, .string t18)]) (fun _ => [(b1, .cells #[.int .u64 0, .int .u64 0, .bool false, .int .i64 0, .bool false, .int .i64 0, .int .i64 0, .string (⟨#[]⟩ : ByteArray)] 29 (0, 0)), (b13, .cells #[.int .u64 r7, .int .u64 r11, .bool false, .int .i64 0, .bool false, .int .i64 0, .int .i64 0, .string (⟨#[]⟩ : ByteArray)] 29 (0, 0))]) (fun _ => [b1, b1, b1, b1, b1, b1, b1, b1]) (fun _ => by kernel_rfl) (fun _ => ?_)
            obtain rfl := Option.some.inj hM
            exact WP.ret [0, 0, 0, 0, 0, 0, 0, 0] [b1, b1, b1, b1, b1, b1, b1, b1] (.tuple #[.agg #[.int .u64 0, .int .u64 0, .bool false, .int .i64 0, .bool false, .int .i64 0, .int .i64 0, .string (⟨#[]⟩ : ByteArray)], .int .i64 40]) (by kernel_rfl) (fun w' hw => ⟨rfl, hw.pick [] rfl⟩)
          · replace hM := cond_f hM c21
            refine WP.skip ?_
            refine WP.seq ?_
            refine WP.region ?_
            refine WL.run 1 [] [2, 3, 4, 5, 6, 34] (fun _ => [(2, .pointer (some ⟨b1, 0, none⟩)), (3, .int .i64 0), (4, .pointer (some ⟨b13, 0, none⟩)), (5, .int .i64 r16), (6, .string t18), (34, .string t18)]) (fun _ => [(b1, .cells #[.int .u64 0, .int .u64 0, .bool false, .int .i64 0, .bool false, .int .i64 0, .int .i64 0, .string (⟨#[]⟩ : ByteArray)] 29 (0, 0)), (b13, .cells #[.int .u64 r7, .int .u64 r11, .bool false, .int .i64 0, .bool false, .int .i64 0, .int .i64 0, .string (⟨#[]⟩ : ByteArray)] 29 (0, 0))]) (fun _ => []) (fun _ => by kernel_rfl) (fun _ => ?_)
            obtain ⟨t22, h23, hM⟩ := bind_some hM
            refine WL.val (fun _ => run_sliceS_hi (s := t18) (kh := .i64) (h := 2) (by kernel_rfl) (by kernel_rfl) (by kernel_rfl) h23) (by kernel_rfl) (by kernel_rfl) rfl ?_
            obtain ⟨r24, h25, hM⟩ := bind_some hM
            refine WL.callP [] [] (gangwayref04_word_calls t22 _ h25) (fun _ h => h) (by kernel_rfl) (by kernel_rfl) rfl ?_
            refine WL.run 1 [] [2, 3, 4, 5, 6, 7] (fun _ => [(2, .pointer (some ⟨b1, 0, none⟩)), (3, .int .i64 0), (4, .pointer (some ⟨b13, 0, none⟩)), (5, .int .i64 r16), (6, .string t18), (7, .int .i64 r24)]) (fun _ => [(b1, .cells #[.int .u64 0, .int .u64 0, .bool false, .int .i64 0, .bool false, .int .i64 0, .int .i64 0, .string (⟨#[]⟩ : ByteArray)] 29 (0, 0)), (b13, .cells #[.int .u64 r7, .int .u64 r11, .bool false, .int .i64 0, .bool false, .int .i64 0, .int .i64 0, .string (⟨#[]⟩ : ByteArray)] 29 (0, 0))]) (fun _ => []) (fun _ => by kernel_rfl) (fun _ => ?_)
            refine WP.done ?_
            refine WP.seq ?_
            refine WP.run [1, 1, 1, 1] [2, 3, 4, 5, 6] (fun _ => [(2, .pointer (some ⟨b1, 0, none⟩)), (3, .int .i64 0), (4, .pointer (some ⟨b13, 0, none⟩)), (5, .int .i64 r16), (6, .string t18)]) (fun _ => [(b1, .cells #[.int .u64 0, .int .u64 0, .bool false, .int .i64 0, .bool false, .int .i64 0, .int .i64 0, .string (⟨#[]⟩ : ByteArray)] 29 (0, 0)), (b13, .cells #[.int .u64 r7, .int .u64 r11, .bool true, .int .i64 (i64 (Int.tdiv r24 8192)), .bool ((Int.tmod (i64 (Int.tdiv r24 4096)) 2) == 1), .int .i64 (Int.tmod r24 4096), .int .i64 0, .string (⟨#[]⟩ : ByteArray)] 29 (0, 0))]) (fun _ => [b13, b13, b13, b13]) (fun _ => by kernel_rfl) (fun _ => ?_)
            refine WP.seq ?_
            refine WP.region ?_
            refine WL.run 1 [] [2, 3, 4, 5, 6, 47] (fun _ => [(2, .pointer (some ⟨b1, 0, none⟩)), (3, .int .i64 0), (4, .pointer (some ⟨b13, 0, none⟩)), (5, .int .i64 r16), (6, .string t18), (47, .string t18)]) (fun _ => [(b1, .cells #[.int .u64 0, .int .u64 0, .bool false, .int .i64 0, .bool false, .int .i64 0, .int .i64 0, .string (⟨#[]⟩ : ByteArray)] 29 (0, 0)), (b13, .cells #[.int .u64 r7, .int .u64 r11, .bool true, .int .i64 (i64 (Int.tdiv r24 8192)), .bool ((Int.tmod (i64 (Int.tdiv r24 4096)) 2) == 1), .int .i64 (Int.tmod r24 4096), .int .i64 0, .string (⟨#[]⟩ : ByteArray)] 29 (0, 0))]) (fun _ => []) (fun _ => by kernel_rfl) (fun _ => ?_)
            obtain ⟨t26, h27, hM⟩ := bind_some hM
            refine WL.val (fun _ => run_sliceS (s := t18) (kl := .i64) (kh := .i64) (l := 2) (h := 4) (by kernel_rfl) (by kernel_rfl) (by kernel_rfl) (by kernel_rfl) h27) (by kernel_rfl) (by kernel_rfl) rfl ?_
            obtain ⟨r28, h29, hM⟩ := bind_some hM
            refine WL.callP [] [] (gangwayref04_word_calls t26 _ h29) (fun _ h => h) (by kernel_rfl) (by kernel_rfl) rfl ?_
            refine WL.run 1 [] [2, 3, 4, 5, 6] (fun _ => [(2, .pointer (some ⟨b1, 0, none⟩)), (3, .int .i64 0), (4, .pointer (some ⟨b13, 0, none⟩)), (5, .int .i64 r28), (6, .string t18)]) (fun _ => [(b1, .cells #[.int .u64 0, .int .u64 0, .bool false, .int .i64 0, .bool false, .int .i64 0, .int .i64 0, .string (⟨#[]⟩ : ByteArray)] 29 (0, 0)), (b13, .cells #[.int .u64 r7, .int .u64 r11, .bool true, .int .i64 (i64 (Int.tdiv r24 8192)), .bool ((Int.tmod (i64 (Int.tdiv r24 4096)) 2) == 1), .int .i64 (Int.tmod r24 4096), .int .i64 0, .string (⟨#[]⟩ : ByteArray)] 29 (0, 0))]) (fun _ => []) (fun _ => by kernel_rfl) (fun _ => ?_)
            refine WP.done ?_
            refine WP.region ?_
            refine WL.run 1 [] [2, 3, 4, 5, 6, 50] (fun _ => [(2, .pointer (some ⟨b1, 0, none⟩)), (3, .int .i64 0), (4, .pointer (some ⟨b13, 0, none⟩)), (5, .int .i64 r28), (6, .string t18), (50, .string t18)]) (fun _ => [(b1, .cells #[.int .u64 0, .int .u64 0, .bool false, .int .i64 0, .bool false, .int .i64 0, .int .i64 0, .string (⟨#[]⟩ : ByteArray)] 29 (0, 0)), (b13, .cells #[.int .u64 r7, .int .u64 r11, .bool true, .int .i64 (i64 (Int.tdiv r24 8192)), .bool ((Int.tmod (i64 (Int.tdiv r24 4096)) 2) == 1), .int .i64 (Int.tmod r24 4096), .int .i64 0, .string (⟨#[]⟩ : ByteArray)] 29 (0, 0))]) (fun _ => []) (fun _ => by kernel_rfl) (fun _ => ?_)
            obtain ⟨t30, h31, hM⟩ := bind_some hM
            refine WL.val (fun _ => run_sliceS_lo (s := t18) (kl := .i64) (l := 4) (by kernel_rfl) (by kernel_rfl) (by kernel_rfl) h31) (by kernel_rfl) (by kernel_rfl) rfl ?_
            refine WL.run 1 [] [2, 3, 4, 5, 6] (fun _ => [(2, .pointer (some ⟨b1, 0, none⟩)), (3, .int .i64 0), (4, .pointer (some ⟨b13, 0, none⟩)), (5, .int .i64 r28), (6, .string t30)]) (fun _ => [(b1, .cells #[.int .u64 0, .int .u64 0, .bool false, .int .i64 0, .bool false, .int .i64 0, .int .i64 0, .string (⟨#[]⟩ : ByteArray)] 29 (0, 0)), (b13, .cells #[.int .u64 r7, .int .u64 r11, .bool true, .int .i64 (i64 (Int.tdiv r24 8192)), .bool ((Int.tmod (i64 (Int.tdiv r24 4096)) 2) == 1), .int .i64 (Int.tmod r24 4096), .int .i64 0, .string (⟨#[]⟩ : ByteArray)] 29 (0, 0))]) (fun _ => []) (fun _ => by kernel_rfl) (fun _ => ?_)
            refine WP.done ?_
            exact WP.sub [2, 3, 4, 5, 6] (by kernel_rfl) (WP.pick [0, 1] (by kernel_rfl) (by kernel_rfl) (K2 (r28, t30, true, i64 (Int.tdiv r24 8192), ((Int.tmod (i64 (Int.tdiv r24 4096)) 2) == 1), Int.tmod r24 4096) hM))
        · replace hM := cond_f hM c20
          refine WP.skip ?_
          exact WP.sub [2, 3, 4, 5, 6] (by kernel_rfl) (WP.pick [0, 1] (by kernel_rfl) (by kernel_rfl) (K2 (r16, t18, false, 0, false, 0) hM))

end Go.Proofs.YtbodofjnfmjbpaaGreatDoor

namespace Go.Proofs.YtbodofjnfmjbpaaGreatDoor
open Go Eng
set_option linter.unusedVariables false
set_option linter.unusedSimpArgs false

/-! ### gangway/gangwayref22.Unwrap: function 13 -/
def gangwayref22_Unwrap.f (k : Nat) (a0 : (List api_Seg)) (a1 : Int) (a2 : api_Udp) : Option (api_Seg × api_Frame × Int) :=
  (gangwayref08_Parse.f k a2.Body).bind fun (r2, r3, r4) =>
  bif (r4 != 0) then
    some ((api_Seg.mk 0 0 ([] : List Int)), (api_Frame.mk 0 0 (api_Tag.mk false 0 false 0) 0 (⟨#[]⟩ : ByteArray)), 1)
  else
    (gangwayref21_By.f k a0 r2).bind fun (r7, r8) =>
    bif !r8 then
      some ((api_Seg.mk 0 0 ([] : List Int)), (api_Frame.mk 0 0 (api_Tag.mk false 0 false 0) 0 (⟨#[]⟩ : ByteArray)), 2)
    else
      (gangwayref21_Peer.f k a0 r2 a1).bind fun r13 =>
      bif !r13 then
        some ((api_Seg.mk 0 0 ([] : List Int)), (api_Frame.mk 0 0 (api_Tag.mk false 0 false 0) 0 (⟨#[]⟩ : ByteArray)), 3)
      else
        (gangwayref04_Parse.f k r3).bind fun (r16, r17) =>
        bif ((r17 != 0) || r16.Tag.Has) then
          some ((api_Seg.mk 0 0 ([] : List Int)), (api_Frame.mk 0 0 (api_Tag.mk false 0 false 0) 0 (⟨#[]⟩ : ByteArray)), 4)
        else
          some (r7, r16, 0)

set_option maxRecDepth 100000 in
theorem gangwayref22_Unwrap_calls (k : Nat) (A00 : SkL (SkL Unit)) (a0 : (List api_Seg)) (a1 : Int) (a2 : api_Udp) (r : api_Seg × api_Frame × Int) (h : gangwayref22_Unwrap.f k a0 a1 a2 = some r) : Does Tryz.prog 13 #[slcV A00 a0.length, .int .u32 a1, .agg #[.int .i64 a2.Src, .int .i64 a2.Dst, .bool a2.NoSum, .string a2.Body]] [] ([Row 3 api_Seg.encS api_Seg.inK A00 a0] ++ Glob) (fun x : (SkL Unit) => .tuple #[.agg #[.int .i64 r.1.Vid, .int .i64 r.1.Vni, slcV x r.1.Peers.length], .agg #[.int .u64 r.2.1.Dst, .int .u64 r.2.1.Src, .bool r.2.1.Tag.Has, .int .i64 r.2.1.Tag.Pri, .bool r.2.1.Tag.Dei, .int .i64 r.2.1.Tag.Vid, .int .i64 r.2.1.Type_, .string r.2.1.Body], .int .i64 r.2.2]) (fun x => []) (fun _ => []) (fun x => [Row 1 (pl (encI .u32)) noK x r.1.Peers] ++ ([Row 3 api_Seg.encS api_Seg.inK A00 a0] ++ Glob)) := by
  intro w Z hS
  refine calls_of (args := [slcV A00 a0.length, .int .u32 a1, .agg #[.int .i64 a2.Src, .int .i64 a2.Dst, .bool a2.NoSum, .string a2.Body]]) (L := [(0, slcV A00 a0.length), (1, .int .u32 a1), (2, .agg #[.int .i64 a2.Src, .int .i64 a2.Dst, .bool a2.NoSum, .string a2.Body])]) (N := 60) (S := Sat w Z [] [] ([Row 3 api_Seg.encS api_Seg.inK A00 a0] ++ Glob)) Tryz.func13 rfl rfl (Nat.le_of_ble_eq_true rfl) rfl hS ?_
  have hM := h
  clear h hS
  unfold gangwayref22_Unwrap.f at hM
  refine WP.seq ?_
  refine WP.run [] [0, 1, 5, 6, 7, 8] (fun b1 => [(0, slcV A00 a0.length), (1, .int .u32 a1), (5, .pointer (some ⟨b1, 0, none⟩)), (6, .pointer (some ⟨(b1 + 1), 0, none⟩)), (7, .pointer (some ⟨(b1 + 2), 0, none⟩)), (8, .int .i64 0)]) (fun b1 => [(b1, .cells #[.int .i64 a2.Src, .int .i64 a2.Dst, .bool a2.NoSum, .string a2.Body] 40 (0, 0)), ((b1 + 1), .cells #[.int .i64 0, .int .i64 0, .slice none 0 0] 35 (0, 0)), ((b1 + 2), .cells #[.int .u64 0, .int .u64 0, .bool false, .int .i64 0, .bool false, .int .i64 0, .int .i64 0, .string (⟨#[]⟩ : ByteArray)] 29 (0, 0))]) (fun b1 => []) (fun b1 => by kernel_rfl) (fun b1 => ?_)
  refine WP.seq ?_
  refine WP.region ?_
  refine WL.run 2 [0] [0, 1, 6, 7, 8, 18] (fun _ => [(0, slcV A00 a0.length), (1, .int .u32 a1), (6, .pointer (some ⟨(b1 + 1), 0, none⟩)), (7, .pointer (some ⟨(b1 + 2), 0, none⟩)), (8, .int .i64 0), (18, .string a2.Body)]) (fun _ => [(b1, .cells #[.int .i64 a2.Src, .int .i64 a2.Dst, .bool a2.NoSum, .string a2.Body] 40 (0, 0)), ((b1 + 1), .cells #[.int .i64 0, .int .i64 0, .slice none 0 0] 35 (0, 0)), ((b1 + 2), .cells #[.int .u64 0, .int .u64 0, .bool false, .int .i64 0, .bool false, .int .i64 0, .int .i64 0, .string (⟨#[]⟩ : ByteArray)] 29 (0, 0))]) (fun _ => [b1]) (fun _ => by kernel_rfl) (fun _ => ?_)
  obtain ⟨⟨r2, r3, r4⟩, h5, hM⟩ := bind_some hM
  dsimp only at hM
  refine WL.callP [] [] (gangwayref08_Parse_calls k a2.Body _ h5) (fun _ h => List.mem_append_right _ h) (by kernel_rfl) (by kernel_rfl) rfl ?_
  refine WL.run 7 [] [0, 1, 6, 7, 8, 9, 10, 11] (fun _ => [(0, slcV A00 a0.length), (1, .int .u32 a1), (6, .pointer (some ⟨(b1 + 1), 0, none⟩)), (7, .pointer (some ⟨(b1 + 2), 0, none⟩)), (8, .int .i64 0), (9, .int .i64 r2), (10, .string r3), (11, .int .i64 r4)]) (fun _ => [(b1, .cells #[.int .i64 a2.Src, .int .i64 a2.Dst, .bool a2.NoSum, .string a2.Body] 40 (0, 0)), ((b1 + 1), .cells #[.int .i64 0, .int .i64 0, .slice none 0 0] 35 (0, 0)), ((b1 + 2), .cells #[.int .u64 0, .int .u64 0, .bool false, .int .i64 0, .bool false, .int .i64 0, .int .i64 0, .string (⟨#[]⟩ : ByteArray)] 29 (0, 0))]) (fun _ => []) (fun _ => by kernel_rfl) (fun _ => ?_)
  refine WP.done ?_
  refine WP.keep [false, true, true] (by kernel_rfl : _ = [((b1 + 1), .cells #[.int .i64 0, .int .i64 0, .slice none 0 0] 35 (0, 0)), ((b1 + 2), .cells #[.int .u64 0, .int .u64 0, .bool false, .int .i64 0, .bool false, .int .i64 0, .int .i64 0, .string (⟨#[]⟩ : ByteArray)] 29 (0, 0))]) ?_
  refine WP.seq ?_
  refine WP.seq ?_
  refine WP.run [] [0, 1, 6, 7, 8, 9, 10, 24] (fun _ => [(0, slcV A00 a0.length), (1, .int .u32 a1), (6, .pointer (some ⟨(b1 + 1), 0, none⟩)), (7, .pointer (some ⟨(b1 + 2), 0, none⟩)), (8, .int .i64 0), (9, .int .i64 r2), (10, .string r3), (24, .bool (r4 != 0))]) (fun _ => [((b1 + 1), .cells #[.int .i64 0, .int .i64 0, .slice none 0 0] 35 (0, 0)), ((b1 + 2), .cells #[.int .u64 0, .int .u64 0, .bool false, .int .i64 0, .bool false, .int .i64 0, .int .i64 0, .string (⟨#[]⟩ : ByteArray)] 29 (0, 0))]) (fun _ => []) (fun _ => by kernel_rfl) (fun _ => ?_)
  refine WP.cond (r4 != 0) rfl rfl (fun c6 => ?_) (fun c6 => ?_)
  · replace hM := cond_t hM c6
    refine WP.seq ?_
    refine WP.run [0, 0, 0, 1, 1, 1, 1, 1, 1, 1, 1] [0, 1, 6, 7, 8, 9, 10] (fun _ => [(0, slcV A00 a0.length), (1, .int .u32 a1), (6, .pointer (some ⟨(b1 + 1), 0, none⟩)), (7, .pointer (some ⟨(b1 + 2), 0, none⟩)), (8, .int .i64 1), (9, .int .i64 r2), (10, .string r3)]) (fun _ => [((b1 + 1), .cells #[.int .i64 0, .int .i64 0, .slice none 0 0] 35 (0, 0)), ((b1 + 2), .cells #[.int .u64 0, .int .u64 0, .bool false, .int .i64 0, .bool false, .int .i64 0, .int .i64 0, .string (⟨#[]⟩ : ByteArray)] 29 (0, 0))]) (fun _ => [(b1 + 2), (b1 + 2), (b1 + 2), (b1 + 2), (b1 + 2), (b1 + 2), (b1 + 2), (b1 + 2), (b1 + 1), (b1 + 1), (b1 + 1)]) (fun _ => by kernel_rfl) (fun _ => ?_)
    refine WP.know (Row 1 (pl (encI .u32)) noK (SkL.nil (fun _ => ())) ([] : List Int)) [] [] (by kernel_rfl) (fun w _ => RowP.empty (fun _ => rfl)) ?_
    obtain rfl := Option.some.inj hM
    exact WP.ret [0, 0, 0, 1, 1, 1, 1, 1, 1, 1, 1] [(b1 + 1), (b1 + 1), (b1 + 1), (b1 + 2), (b1 + 2), (b1 + 2), (b1 + 2), (b1 + 2), (b1 + 2), (b1 + 2), (b1 + 2)] (.tuple #[.agg #[.int .i64 0, .int .i64 0, slcV (SkL.nil (fun _ => ())) ([] : List Int).length], .agg #[.int .u64 0, .int .u64 0, .bool false, .int .i64 0, .bool false, .int .i64 0, .int .i64 0, .string (⟨#[]⟩ : ByteArray)], .int .i64 1]) (by kernel_rfl) (fun w' hw => ⟨(SkL.nil (fun _ => ())), rfl, (hw.pick [] (by kernel_rfl)).less (sub_ret [0] [1] (by kernel_rfl) (by kernel_rfl))⟩)
  · replace hM := cond_f hM c6
    refine WP.skip ?_
    refine WP.seq ?_
    refine WP.region ?_
    refine WL.run 2 [] [0, 1, 6, 7, 8, 9, 10, 28, 29] (fun _ => [(0, slcV A00 a0.length), (1, .int .u32 a1), (6, .pointer (some ⟨(b1 + 1), 0, none⟩)), (7, .pointer (some ⟨(b1 + 2), 0, none⟩)), (8, .int .i64 0), (9, .int .i64 r2), (10, .string r3), (28, slcV A00 a0.length), (29, .int .i64 r2)]) (fun _ => [((b1 + 1), .cells #[.int .i64 0, .int .i64 0, .slice none 0 0] 35 (0, 0)), ((b1 + 2), .cells #[.int .u64 0, .int .u64 0, .bool false, .int .i64 0, .bool false, .int .i64 0, .int .i64 0, .string (⟨#[]⟩ : ByteArray)] 29 (0, 0))]) (fun _ => []) (fun _ => by kernel_rfl) (fun _ => ?_)
    obtain ⟨⟨r7, r8⟩, h9, hM⟩ := bind_some hM
    dsimp only at hM
    refine WL.callX (F0 := [Row 3 api_Seg.encS api_Seg.inK A00 a0]) [] [] [false, false] (fun _ => _) [0] (by kernel_rfl) (gangwayref21_By_calls k A00 a0 r2 _ h9) rfl rfl (by kernel_rfl) (by kernel_rfl) (fun _ => rfl) (fun A10 => ?_)
    refine WL.run 6 [2, 2, 2] [0, 1, 6, 7, 8, 9, 10, 12, 13] (fun b11 => [(0, slcV A00 a0.length), (1, .int .u32 a1), (6, .pointer (some ⟨(b1 + 1), 0, none⟩)), (7, .pointer (some ⟨(b1 + 2), 0, none⟩)), (8, .int .i64 0), (9, .int .i64 r2), (10, .string r3), (12, .pointer (some ⟨b11, 0, none⟩)), (13, .bool r8)]) (fun b11 => [((b1 + 1), .cells #[.int .i64 0, .int .i64 0, .slice none 0 0] 35 (0, 0)), ((b1 + 2), .cells #[.int .u64 0, .int .u64 0, .bool false, .int .i64 0, .bool false, .int .i64 0, .int .i64 0, .string (⟨#[]⟩ : ByteArray)] 29 (0, 0)), (b11, .cells #[.int .i64 r7.Vid, .int .i64 r7.Vni, slcV A10 r7.Peers.length] 35 (0, 0))]) (fun b11 => [b11, b11, b11]) (fun b11 => by kernel_rfl) (fun b11 => ?_)
    refine WP.done ?_
    refine WP.seq ?_
    refine WP.seq ?_
    refine WP.run [] [0, 1, 6, 7, 8, 9, 10, 12, 34] (fun _ => [(0, slcV A00 a0.length), (1, .int .u32 a1), (6, .pointer (some ⟨(b1 + 1), 0, none⟩)), (7, .pointer (some ⟨(b1 + 2), 0, none⟩)), (8, .int .i64 0), (9, .int .i64 r2), (10, .string r3), (12, .pointer (some ⟨b11, 0, none⟩)), (34, .bool (!r8))]) (fun _ => [((b1 + 1), .cells #[.int .i64 0, .int .i64 0, .slice none 0 0] 35 (0, 0)), ((b1 + 2), .cells #[.int .u64 0, .int .u64 0, .bool false, .int .i64 0, .bool false, .int .i64 0, .int .i64 0, .string (⟨#[]⟩ : ByteArray)] 29 (0, 0)), (b11, .cells #[.int .i64 r7.Vid, .int .i64 r7.Vni, slcV A10 r7.Peers.length] 35 (0, 0))]) (fun _ => []) (fun _ => by kernel_rfl) (fun _ => ?_)
    refine WP.cond (!r8) rfl rfl (fun c12 => ?_) (fun c12 => ?_)
    · replace hM := cond_t hM c12
      refine WP.seq ?_
      refine WP.run [0, 0, 0, 1, 1, 1, 1, 1, 1, 1, 1] [0, 1, 6, 7, 8, 9, 10, 12] (fun _ => [(0, slcV A00 a0.length), (1, .int .u32 a1), (6, .pointer (some ⟨(b1 + 1), 0, none⟩)), (7, .pointer (some ⟨(b1 + 2), 0, none⟩)), (8, .int .i64 2), (9, .int .i64 r2), (10, .string r3), (12, .pointer (some ⟨b11, 0, none⟩))]) (fun _ => [((b1 + 1), .cells #[.int .i64 0, .int .i64 0, .slice none 0 0] 35 (0, 0)), ((b1 + 2), .cells #[.int .u64 0, .int .u64 0, .bool false, .int .i64 0, .bool false, .int .i64 0, .int .i64 0, .string (⟨#[]⟩ : ByteArray)] 29 (0, 0)), (b11, .cells #[.int .i64 r7.Vid, .int .i64 r7.Vni, slcV A10 r7.Peers.length] 35 (0, 0))]) (fun _ => [(b1 + 2), (b1 + 2), (b1 + 2), (b1 + 2), (b1 + 2), (b1 + 2), (b1 + 2), (b1 + 2), (b1 + 1), (b1 + 1), (b1 + 1)]) (fun _ => by kernel_rfl) (fun _ => ?_)
      refine WP.know (Row 1 (pl (encI .u32)) noK (SkL.nil (fun _ => ())) ([] : List Int)) [] [] (by kernel_rfl) (fun w _ => RowP.empty (fun _ => rfl)) ?_
      obtain rfl := Option.some.inj hM
      exact WP.ret [0, 0, 0, 1, 1, 1, 1, 1, 1, 1, 1] [(b1 + 1), (b1 + 1), (b1 + 1), (b1 + 2), (b1 + 2), (b1 + 2), (b1 + 2), (b1 + 2), (b1 + 2), (b1 + 2), (b1 + 2)] (.tuple #[.agg #[.int .i64 0, .int .i64 0, slcV (SkL.nil (fun _ => ())) ([] : List Int).length], .agg #[.int .u64 0, .int .u64 0, .bool false, .int .i64 0, .bool false, .int .i64 0, .int .i64 0, .string (⟨#[]⟩ : ByteArray)], .int .i64 2]) (by kernel_rfl) (fun w' hw => ⟨(SkL.nil (fun _ => ())), rfl, (hw.pick [] (by kernel_rfl)).less (sub_ret [0] [2] (by kernel_rfl) (by kernel_rfl))⟩)
    · replace hM := cond_f hM c12
      refine WP.skip ?_
      refine WP.seq ?_
      refine WP.seq ?_
      refine WP.region ?_
      refine WL.run 3 [] [6, 7, 8, 10, 12, 37, 38, 39] (fun _ => [(6, .pointer (some ⟨(b1 + 1), 0, none⟩)), (7, .pointer (some ⟨(b1 + 2), 0, none⟩)), (8, .int .i64 0), (10, .string r3), (12, .pointer (some ⟨b11, 0, none⟩)), (37, slcV A00 a0.length), (38, .int .i64 r2), (39, .int .u32 a1)]) (fun _ => [((b1 + 1), .cells #[.int .i64 0, .int .i64 0, .slice none 0 0] 35 (0, 0)), ((b1 + 2), .cells #[.int .u64 0, .int .u64 0, .bool false, .int .i64 0, .bool false, .int .i64 0, .int .i64 0, .string (⟨#[]⟩ : ByteArray)] 29 (0, 0)), (b11, .cells #[.int .i64 r7.Vid, .int .i64 r7.Vni, slcV A10 r7.Peers.length] 35 (0, 0))]) (fun _ => []) (fun _ => by kernel_rfl) (fun _ => ?_)
      obtain ⟨r13, h14, hM⟩ := bind_some hM
      refine WL.callP [] [] (gangwayref21_Peer_calls k A00 a0 r2 a1 _ h14) (sub_pick [1] (by kernel_rfl)) (by kernel_rfl) (by kernel_rfl) rfl ?_
      refine WL.run 1 [] [6, 7, 8, 10, 12, 41] (fun _ => [(6, .pointer (some ⟨(b1 + 1), 0, none⟩)), (7, .pointer (some ⟨(b1 + 2), 0, none⟩)), (8, .int .i64 0), (10, .string r3), (12, .pointer (some ⟨b11, 0, none⟩)), (41, .bool (!r13))]) (fun _ => [((b1 + 1), .cells #[.int .i64 0, .int .i64 0, .slice none 0 0] 35 (0, 0)), ((b1 + 2), .cells #[.int .u64 0, .int .u64 0, .bool false, .int .i64 0, .bool false, .int .i64 0, .int .i64 0, .string (⟨#[]⟩ : ByteArray)] 29 (0, 0)), (b11, .cells #[.int .i64 r7.Vid, .int .i64 r7.Vni, slcV A10 r7.Peers.length] 35 (0, 0))]) (fun _ => []) (fun _ => by kernel_rfl) (fun _ => ?_)
      refine WP.done ?_
      refine WP.cond (!r13) rfl rfl (fun c15 => ?_) (fun c15 => ?_)
      · replace hM := cond_t hM c15
        refine WP.seq ?_
        refine WP.run [0, 0, 0, 1, 1, 1, 1, 1, 1, 1, 1] [6, 7, 8, 10, 12] (fun _ => [(6, .pointer (some ⟨(b1 + 1), 0, none⟩)), (7, .pointer (some ⟨(b1 + 2), 0, none⟩)), (8, .int .i64 3), (10, .string r3), (12, .pointer (some ⟨b11, 0, none⟩))]) (fun _ => [((b1 + 1), .cells #[.int .i64 0, .int .i64 0, .slice none 0 0] 35 (0, 0)), ((b1 + 2), .cells #[.int .u64 0, .int .u64 0, .bool false, .int .i64 0, .bool false, .int .i64 0, .int .i64 0, .string (⟨#[]⟩ : ByteArray)] 29 (0, 0)), (b11, .cells #[.int .i64 r7.Vid, .int .i64 r7.Vni, slcV A10 r7.Peers.length] 35 (0, 0))]) (fun _ => [(b1 + 2), (b1 + 2), (b1 + 2), (b1 + 2), (b1 + 2), (b1 + 2), (b1 + 2), (b1 + 2), (b1 + 1), (b1 + 1), (b1 + 1)]) (fun _ => by kernel_rfl) (fun _ => ?_)
        refine WP.know (Row 1 (pl (encI .u32)) noK (SkL.nil (fun _ => ())) ([] : List Int)) [] [] (by kernel_rfl) (fun w _ => RowP.empty (fun _ => rfl)) ?_
        obtain rfl := Option.some.inj hM
        exact WP.ret [0, 0, 0, 1, 1, 1, 1, 1, 1, 1, 1] [(b1 + 1), (b1 + 1), (b1 + 1), (b1 + 2), (b1 + 2), (b1 + 2), (b1 + 2), (b1 + 2), (b1 + 2), (b1 + 2), (b1 + 2)] (.tuple #[.agg #[.int .i64 0, .int .i64 0, slcV (SkL.nil (fun _ => ())) ([] : List Int).length], .agg #[.int .u64 0, .int .u64 0, .bool false, .int .i64 0, .bool false, .int .i64 0, .int .i64 0, .string (⟨#[]⟩ : ByteArray)], .int .i64 3]) (by kernel_rfl) (fun w' hw => ⟨(SkL.nil (fun _ => ())), rfl, (hw.pick [] (by kernel_rfl)).less (sub_ret [0] [2] (by kernel_rfl) (by kernel_rfl))⟩)
      · replace hM := cond_f hM c15
        refine WP.skip ?_
        refine WP.seq ?_
        refine WP.region ?_
        refine WL.run 1 [] [6, 7, 8, 12, 45] (fun _ => [(6, .pointer (some ⟨(b1 + 1), 0, none⟩)), (7, .pointer (some ⟨(b1 + 2), 0, none⟩)), (8, .int .i64 0), (12, .pointer (some ⟨b11, 0, none⟩)), (45, .string r3)]) (fun _ => [((b1 + 1), .cells #[.int .i64 0, .int .i64 0, .slice none 0 0] 35 (0, 0)), ((b1 + 2), .cells #[.int .u64 0, .int .u64 0, .bool false, .int .i64 0, .bool false, .int .i64 0, .int .i64 0, .string (⟨#[]⟩ : ByteArray)] 29 (0, 0)), (b11, .cells #[.int .i64 r7.Vid, .int .i64 r7.Vni, slcV A10 r7.Peers.length] 35 (0, 0))]) (fun _ => []) (fun _ => by kernel_rfl) (fun _ => ?_)
        obtain ⟨⟨r16, r17⟩, h18, hM⟩ := bind_some hM
        dsimp only at hM
        refine WL.callP [] [] (gangwayref04_Parse_calls k r3 _ h18) (fun _ h => List.mem_append_right _ h) (by kernel_rfl) (by kernel_rfl) rfl ?_
        refine WL.run 6 [3, 3, 3, 3, 3, 3, 3, 3] [6, 7, 8, 12, 14, 15] (fun b19 => [(6, .pointer (some ⟨(b1 + 1), 0, none⟩)), (7, .pointer (some ⟨(b1 + 2), 0, none⟩)), (8, .int .i64 0), (12, .pointer (some ⟨b11, 0, none⟩)), (14, .pointer (some ⟨b19, 0, none⟩)), (15, .int .i64 r17)]) (fun b19 => [((b1 + 1), .cells #[.int .i64 0, .int .i64 0, .slice none 0 0] 35 (0, 0)), ((b1 + 2), .cells #[.int .u64 0, .int .u64 0, .bool false, .int .i64 0, .bool false, .int .i64 0, .int .i64 0, .string (⟨#[]⟩ : ByteArray)] 29 (0, 0)), (b11, .cells #[.int .i64 r7.Vid, .int .i64 r7.Vni, slcV A10 r7.Peers.length] 35 (0, 0)), (b19, .cells #[.int .u64 r16.Dst, .int .u64 r16.Src, .bool r16.Tag.Has, .int .i64 r16.Tag.Pri, .bool r16.Tag.Dei, .int .i64 r16.Tag.Vid, .int .i64 r16.Type_, .string r16.Body] 29 (0, 0))]) (fun b19 => [b19, b19, b19, b19, b19, b19, b19, b19]) (fun b19 => by kernel_rfl) (fun b19 => ?_)
        refine WP.done ?_
        refine WP.seq ?_
        refine WP.seq ?_
        refine WP.region ?_
        refine WL.run 3 [] [6, 7, 8, 12, 14, 51] (fun _ => [(6, .pointer (some ⟨(b1 + 1), 0, none⟩)), (7, .pointer (some ⟨(b1 + 2), 0, none⟩)), (8, .int .i64 0), (12, .pointer (some ⟨b11, 0, none⟩)), (14, .pointer (some ⟨b19, 0, none⟩)), (51, .bool (r17 != 0))]) (fun _ => [((b1 + 1), .cells #[.int .i64 0, .int .i64 0, .slice none 0 0] 35 (0, 0)), ((b1 + 2), .cells #[.int .u64 0, .int .u64 0, .bool false, .int .i64 0, .bool false, .int .i64 0, .int .i64 0, .string (⟨#[]⟩ : ByteArray)] 29 (0, 0)), (b11, .cells #[.int .i64 r7.Vid, .int .i64 r7.Vni, slcV A10 r7.Peers.length] 35 (0, 0)), (b19, .cells #[.int .u64 r16.Dst, .int .u64 r16.Src, .bool r16.Tag.Has, .int .i64 r16.Tag.Pri, .bool r16.Tag.Dei, .int .i64 r16.Tag.Vid, .int .i64 r16.Type_, .string r16.Body] 29 (0, 0))]) (fun _ => []) (fun _ => by kernel_rfl) (fun _ => ?_)
        refine WL.sub [6, 7, 8, 12, 14, 51] (L' := [(6, .pointer (some ⟨(b1 + 1), 0, none⟩)), (7, .pointer (some ⟨(b1 + 2), 0, none⟩)), (8, .int .i64 0), (12, .pointer (some ⟨b11, 0, none⟩)), (14, .pointer (some ⟨b19, 0, none⟩)), (51, .bool (r17 != 0))]) (by kernel_rfl) ?_
        refine WL.both (fun b' => [(6, .pointer (some ⟨(b1 + 1), 0, none⟩)), (7, .pointer (some ⟨(b1 + 2), 0, none⟩)), (8, .int .i64 0), (12, .pointer (some ⟨b11, 0, none⟩)), (14, .pointer (some ⟨b19, 0, none⟩)), (51, .bool b')]) (r17 != 0) 4 [] [3] [6, 7, 8, 12, 14, 55] (fun b' => [(6, .pointer (some ⟨(b1 + 1), 0, none⟩)), (7, .pointer (some ⟨(b1 + 2), 0, none⟩)), (8, .int .i64 0), (12, .pointer (some ⟨b11, 0, none⟩)), (14, .pointer (some ⟨b19, 0, none⟩)), (55, .bool (b' || r16.Tag.Has))]) [] [b19] (fun _ => by kernel_rfl) (fun _ => by kernel_rfl) ?_
        refine WP.done ?_
        refine WP.cond ((r17 != 0) || r16.Tag.Has) rfl rfl (fun c20 => ?_) (fun c20 => ?_)
        · replace hM := cond_t hM c20
          refine WP.seq ?_
          refine WP.run [0, 0, 0, 1, 1, 1, 1, 1, 1, 1, 1] [6, 7, 8, 12, 14] (fun _ => [(6, .pointer (some ⟨(b1 + 1), 0, none⟩)), (7, .pointer (some ⟨(b1 + 2), 0, none⟩)), (8, .int .i64 4), (12, .pointer (some ⟨b11, 0, none⟩)), (14, .pointer (some ⟨b19, 0, none⟩))]) (fun _ => [((b1 + 1), .cells #[.int .i64 0, .int .i64 0, .slice none 0 0] 35 (0, 0)), ((b1 + 2), .cells #[.int .u64 0, .int .u64 0, .bool false, .int .i64 0, .bool false, .int .i64 0, .int .i64 0, .string (⟨#[]⟩ : ByteArray)] 29 (0, 0)), (b11, .cells #[.int .i64 r7.Vid, .int .i64 r7.Vni, slcV A10 r7.Peers.length] 35 (0, 0)), (b19, .cells #[.int .u64 r16.Dst, .int .u64 r16.Src, .bool r16.Tag.Has, .int .i64 r16.Tag.Pri, .bool r16.Tag.Dei, .int .i64 r16.Tag.Vid, .int .i64 r16.Type_, .string r16.Body] 29 (0, 0))]) (fun _ => [(b1 + 2), (b1 + 2), (b1 + 2), (b1 + 2), (b1 + 2), (b1 + 2), (b1 + 2), (b1 + 2), (b1 + 1), (b1 + 1), (b1 + 1)]) (fun _ => by kernel_rfl) (fun _ => ?_)
          refine WP.know (Row 1 (pl (encI .u32)) noK (SkL.nil (fun _ => ())) ([] : List Int)) [] [] (by kernel_rfl) (fun w _ => RowP.empty (fun _ => rfl)) ?_
          obtain rfl := Option.some.inj hM
          exact WP.ret [0, 0, 0, 1, 1, 1, 1, 1, 1, 1, 1] [(b1 + 1), (b1 + 1), (b1 + 1), (b1 + 2), (b1 + 2), (b1 + 2), (b1 + 2), (b1 + 2), (b1 + 2), (b1 + 2), (b1 + 2)] (.tuple #[.agg #[.int .i64 0, .int .i64 0, slcV (SkL.nil (fun _ => ())) ([] : List Int).length], .agg #[.int .u64 0, .int .u64 0, .bool false, .int .i64 0, .bool false, .int .i64 0, .int .i64 0, .string (⟨#[]⟩ : ByteArray)], .int .i64 4]) (by kernel_rfl) (fun w' hw => ⟨(SkL.nil (fun _ => ())), rfl, (hw.pick [] (by kernel_rfl)).less (sub_ret [0] [2] (by kernel_rfl) (by kernel_rfl))⟩)
        · replace hM := cond_f hM c20
          refine WP.skip ?_
          refine WP.seq ?_
          refine WP.sub [6, 7, 8, 12, 14] (L' := [(6, .pointer (some ⟨(b1 + 1), 0, none⟩)), (7, .pointer (some ⟨(b1 + 2), 0, none⟩)), (8, .int .i64 0), (12, .pointer (some ⟨b11, 0, none⟩)), (14, .pointer (some ⟨b19, 0, none⟩))]) (by kernel_rfl) ?_
          refine WP.pick [1, 2, 3, 0] (by kernel_rfl) (by kernel_rfl : _ = [((b1 + 2), .cells #[.int .u64 0, .int .u64 0, .bool false, .int .i64 0, .bool false, .int .i64 0, .int .i64 0, .string (⟨#[]⟩ : ByteArray)] 29 (0, 0)), (b11, .cells #[.int .i64 r7.Vid, .int .i64 r7.Vni, slcV A10 r7.Peers.length] 35 (0, 0)), (b19, .cells #[.int .u64 r16.Dst, .int .u64 r16.Src, .bool r16.Tag.Has, .int .i64 r16.Tag.Pri, .bool r16.Tag.Dei, .int .i64 r16.Tag.Vid, .int .i64 r16.Type_, .string r16.Body] 29 (0, 0)), ((b1 + 1), .cells #[.int .i64 0, .int .i64 0, .slice none 0 0] 35 (0, 0))]) ?_
          refine WP.mixed (X := Unit) 3 [.val (.agg #[.int .i64 r7.Vid, .int .i64 r7.Vni, slcV A10 r7.Peers.length]), .val (.agg #[.int .u64 r16.Dst, .int .u64 r16.Src, .bool r16.Tag.Has, .int .i64 r16.Tag.Pri, .bool r16.Tag.Dei, .int .i64 r16.Tag.Vid, .int .i64 r16.Type_, .string r16.Body]), .put 3 [] (fun tt => .cells #[.int .i64 r7.Vid, .int .i64 r7.Vni, slcV A10 r7.Peers.length] 35 (0, 0))] [((b1 + 2), .cells #[.int .u64 0, .int .u64 0, .bool false, .int .i64 0, .bool false, .int .i64 0, .int .i64 0, .string (⟨#[]⟩ : ByteArray)] 29 (0, 0)), (b11, .cells #[.int .i64 r7.Vid, .int .i64 r7.Vni, slcV A10 r7.Peers.length] 35 (0, 0)), (b19, .cells #[.int .u64 r16.Dst, .int .u64 r16.Src, .bool r16.Tag.Has, .int .i64 r16.Tag.Pri, .bool r16.Tag.Dei, .int .i64 r16.Tag.Vid, .int .i64 r16.Type_, .string r16.Body] 29 (0, 0))] [((b1 + 1), .cells #[.int .i64 0, .int .i64 0, .slice none 0 0] 35 (0, 0))] (by kernel_rfl) (by kernel_rfl) (by kernel_rfl) (by kernel_rfl) (Heads.val (fun tt Ψ => OpV.run [1, 1, 1] [b11, b11, b11] (by kernel_rfl) (fun _ => by kernel_rfl)) (Heads.val (fun tt Ψ => OpV.run [2, 2, 2, 2, 2, 2, 2, 2] [b19, b19, b19, b19, b19, b19, b19, b19] (by kernel_rfl) (fun _ => by kernel_rfl)) (Heads.put (fun x x' h => rfl) 0 (b1 + 1) (.cells #[.int .i64 0, .int .i64 0, .slice none 0 0] 35 (0, 0)) (fun tt => .cells #[.int .i64 0, .int .i64 0, .slice none 0 0] 35 (0, 0)) (by kernel_rfl) rfl (fun _ => by kernel_rfl) (fun tt Ψ => OpP.run [3, 3, 3] [(b1 + 1), (b1 + 1), (b1 + 1)] (by kernel_rfl) (fun _ _ => by kernel_rfl) (fun _ _ => by kernel_rfl)) Heads.nil))) (fun s21 tt => [(58, .agg #[.int .i64 r7.Vid, .int .i64 r7.Vni, slcV A10 r7.Peers.length]), (59, .agg #[.int .u64 r16.Dst, .int .u64 r16.Src, .bool r16.Tag.Has, .int .i64 r16.Tag.Pri, .bool r16.Tag.Dei, .int .i64 r16.Tag.Vid, .int .i64 r16.Type_, .string r16.Body]), (6, .pointer (some ⟨(b1 + 1), 0, none⟩)), (7, .pointer (some ⟨(b1 + 2), 0, none⟩)), (8, .int .i64 0), (12, .pointer (some ⟨b11, 0, none⟩)), (14, .pointer (some ⟨b19, 0, none⟩))]) (fun s21 tt => [((b1 + 2), .cells #[.int .u64 0, .int .u64 0, .bool false, .int .i64 0, .bool false, .int .i64 0, .int .i64 0, .string (⟨#[]⟩ : ByteArray)] 29 (0, 0)), (b11, .cells #[.int .i64 r7.Vid, .int .i64 r7.Vni, slcV A10 r7.Peers.length] 35 (0, 0)), (b19, .cells #[.int .u64 r16.Dst, .int .u64 r16.Src, .bool r16.Tag.Has, .int .i64 r16.Tag.Pri, .bool r16.Tag.Dei, .int .i64 r16.Tag.Vid, .int .i64 r16.Type_, .string r16.Body] 29 (0, 0)), ((b1 + 1), .cells #[.int .i64 r7.Vid, .int .i64 r7.Vni, slcV A10 r7.Peers.length] 35 (0, 0))]) (fun tt => ([] ++ [Row 1 (pl (encI .u32)) noK A10 r7.Peers, Row 3 api_Seg.encS api_Seg.inK A00 a0]) ++ Glob) (fun _ _ => by kernel_rfl) (fun _ _ => by kernel_rfl) (fun _ => by kernel_rfl) (fun s21 tt => ?_)
          refine WL.run 2 [0, 0, 0, 0, 0, 0, 0, 0] [6, 7, 8] (fun _ => [(6, .pointer (some ⟨(b1 + 1), 0, none⟩)), (7, .pointer (some ⟨(b1 + 2), 0, none⟩)), (8, .int .i64 0)]) (fun _ => [((b1 + 2), .cells #[.int .u64 r16.Dst, .int .u64 r16.Src, .bool r16.Tag.Has, .int .i64 r16.Tag.Pri, .bool r16.Tag.Dei, .int .i64 r16.Tag.Vid, .int .i64 r16.Type_, .string r16.Body] 29 (0, 0)), (b11, .cells #[.int .i64 r7.Vid, .int .i64 r7.Vni, slcV A10 r7.Peers.length] 35 (0, 0)), (b19, .cells #[.int .u64 r16.Dst, .int .u64 r16.Src, .bool r16.Tag.Has, .int .i64 r16.Tag.Pri, .bool r16.Tag.Dei, .int .i64 r16.Tag.Vid, .int .i64 r16.Type_, .string r16.Body] 29 (0, 0)), ((b1 + 1), .cells #[.int .i64 r7.Vid, .int .i64 r7.Vni, slcV A10 r7.Peers.length] 35 (0, 0))]) (fun _ => [(b1 + 2), (b1 + 2), (b1 + 2), (b1 + 2), (b1 + 2), (b1 + 2), (b1 + 2), (b1 + 2)]) (fun _ => by kernel_rfl) (fun _ => ?_)
          refine WP.done ?_
          refine WP.keep [true, false, false, true] (by kernel_rfl : _ = [((b1 + 2), .cells #[.int .u64 r16.Dst, .int .u64 r16.Src, .bool r16.Tag.Has, .int .i64 r16.Tag.Pri, .bool r16.Tag.Dei, .int .i64 r16.Tag.Vid, .int .i64 r16.Type_, .string r16.Body] 29 (0, 0)), ((b1 + 1), .cells #[.int .i64 r7.Vid, .int .i64 r7.Vni, slcV A10 r7.Peers.length] 35 (0, 0))]) ?_
          obtain rfl := Option.some.inj hM
          exact WP.ret [1, 1, 1, 0, 0, 0, 0, 0, 0, 0, 0] [(b1 + 1), (b1 + 1), (b1 + 1), (b1 + 2), (b1 + 2), (b1 + 2), (b1 + 2), (b1 + 2), (b1 + 2), (b1 + 2), (b1 + 2)] (.tuple #[.agg #[.int .i64 r7.Vid, .int .i64 r7.Vni, slcV A10 r7.Peers.length], .agg #[.int .u64 r16.Dst, .int .u64 r16.Src, .bool r16.Tag.Has, .int .i64 r16.Tag.Pri, .bool r16.Tag.Dei, .int .i64 r16.Tag.Vid, .int .i64 r16.Type_, .string r16.Body], .int .i64 0]) (by kernel_rfl) (fun w' hw => ⟨A10, rfl, (hw.pick [] (by kernel_rfl)).less (sub_ret [0] [1] (by kernel_rfl) (by kernel_rfl))⟩)

end Go.Proofs.YtbodofjnfmjbpaaGreatDoor

namespace Go.Proofs.YtbodofjnfmjbpaaGreatDoor
open Go Eng
set_option linter.unusedVariables false
set_option linter.unusedSimpArgs false

/-! ### gangway/gangwayref21.Same: function 14 -/
def gangwayref21_Same.l1 (a0_2 : (List Int)) (a1_2 : (List Int)) : Nat → Bool → Int → Option (Bool)
  | 0, _, _ => none
  | n + 1, x3, x4 =>
    bif decide (x4 < (a0_2.length : Int)) then
      (getL a0_2.length a0_2 x4).bind fun t6 =>
      (getL a1_2.length a1_2 x4).bind fun t8 =>
      bif (t6 != t8) then
        some false
      else
        gangwayref21_Same.l1 a0_2 a1_2 n x3 (i64 (x4 + 1))
    else
      some true

def gangwayref21_Same.f (k : Nat) (a0 : Int) (a0_1 : Int) (a0_2 : (List Int)) (a1 : Int) (a1_1 : Int) (a1_2 : (List Int)) : Option (Bool) :=
  bif (((a0 != a1) || (a0_1 != a1_1)) || ((a0_2.length : Int) != (a1_2.length : Int))) then
    some false
  else
    gangwayref21_Same.l1 a0_2 a1_2 k false 0

set_option maxRecDepth 100000 in
theorem gangwayref21_Same_calls (k : Nat) (A00 : SkL Unit) (A01 : SkL Unit) (a0 : Int) (a0_1 : Int) (a0_2 : (List Int)) (a1 : Int) (a1_1 : Int) (a1_2 : (List Int)) (r : Bool) (h : gangwayref21_Same.f k a0 a0_1 a0_2 a1 a1_1 a1_2 = some r) : Pure Tryz.prog ([Row 1 (pl (encI .u32)) noK A00 a0_2, Row 1 (pl (encI .u32)) noK A01 a1_2] ++ Glob) 14 #[.agg #[.int .i64 a0, .int .i64 a0_1, slcV A00 a0_2.length], .agg #[.int .i64 a1, .int .i64 a1_1, slcV A01 a1_2.length]] (.bool r) := by
  intro w Z hS
  refine calls_of (args := [.agg #[.int .i64 a0, .int .i64 a0_1, slcV A00 a0_2.length], .agg #[.int .i64 a1, .int .i64 a1_1, slcV A01 a1_2.length]]) (L := [(0, .agg #[.int .i64 a0, .int .i64 a0_1, slcV A00 a0_2.length]), (1, .agg #[.int .i64 a1, .int .i64 a1_1, slcV A01 a1_2.length])]) (N := 45) (S := Sat w Z [] [] ([Row 1 (pl (encI .u32)) noK A00 a0_2, Row 1 (pl (encI .u32)) noK A01 a1_2] ++ Glob)) Tryz.func14 rfl rfl (Nat.le_of_ble_eq_true rfl) rfl hS ?_
  have hM := h
  clear h hS
  unfold gangwayref21_Same.f at hM
  refine WP.seq ?_
  refine WP.run [] [2, 3, 4] (fun b1 => [(2, .pointer (some ⟨b1, 0, none⟩)), (3, .pointer (some ⟨(b1 + 1), 0, none⟩)), (4, .bool false)]) (fun b1 => [(b1, .cells #[.int .i64 a0, .int .i64 a0_1, slcV A00 a0_2.length] 35 (0, 0)), ((b1 + 1), .cells #[.int .i64 a1, .int .i64 a1_1, slcV A01 a1_2.length] 35 (0, 0))]) (fun b1 => []) (fun b1 => by kernel_rfl) (fun b1 => ?_)
  refine WP.seq ?_
  refine WP.seq ?_
  refine WP.region ?_
  refine WL.run 6 [0, 1] [2, 3, 4, 11] (fun _ => [(2, .pointer (some ⟨b1, 0, none⟩)), (3, .pointer (some ⟨(b1 + 1), 0, none⟩)), (4, .bool false), (11, .bool (a0 != a1))]) (fun _ => [(b1, .cells #[.int .i64 a0, .int .i64 a0_1, slcV A00 a0_2.length] 35 (0, 0)), ((b1 + 1), .cells #[.int .i64 a1, .int .i64 a1_1, slcV A01 a1_2.length] 35 (0, 0))]) (fun _ => [(b1 + 1), b1]) (fun _ => by kernel_rfl) (fun _ => ?_)
  refine WL.sub [2, 3, 4, 11] (L' := [(2, .pointer (some ⟨b1, 0, none⟩)), (3, .pointer (some ⟨(b1 + 1), 0, none⟩)), (4, .bool false), (11, .bool (a0 != a1))]) (by kernel_rfl) ?_
  refine WL.both (fun b' => [(2, .pointer (some ⟨b1, 0, none⟩)), (3, .pointer (some ⟨(b1 + 1), 0, none⟩)), (4, .bool false), (11, .bool b')]) (a0 != a1) 6 [] [0, 1] [2, 3, 4, 17] (fun b' => [(2, .pointer (some ⟨b1, 0, none⟩)), (3, .pointer (some ⟨(b1 + 1), 0, none⟩)), (4, .bool false), (17, .bool (b' || (a0_1 != a1_1)))]) [] [(b1 + 1), b1] (fun _ => by kernel_rfl) (fun _ => by kernel_rfl) ?_
  refine WL.run 1 [] [2, 3, 4, 18] (fun _ => [(2, .pointer (some ⟨b1, 0, none⟩)), (3, .pointer (some ⟨(b1 + 1), 0, none⟩)), (4, .bool false), (18, .bool ((a0 != a1) || (a0_1 != a1_1)))]) (fun _ => [(b1, .cells #[.int .i64 a0, .int .i64 a0_1, slcV A00 a0_2.length] 35 (0, 0)), ((b1 + 1), .cells #[.int .i64 a1, .int .i64 a1_1, slcV A01 a1_2.length] 35 (0, 0))]) (fun _ => []) (fun _ => by kernel_rfl) (fun _ => ?_)
  refine WL.sub [2, 3, 4, 18] (L' := [(2, .pointer (some ⟨b1, 0, none⟩)), (3, .pointer (some ⟨(b1 + 1), 0, none⟩)), (4, .bool false), (18, .bool ((a0 != a1) || (a0_1 != a1_1)))]) (by kernel_rfl) ?_
  refine WL.both (fun b' => [(2, .pointer (some ⟨b1, 0, none⟩)), (3, .pointer (some ⟨(b1 + 1), 0, none⟩)), (4, .bool false), (18, .bool b')]) ((a0 != a1) || (a0_1 != a1_1)) 8 [] [0, 1] [2, 3, 4, 26] (fun b' => [(2, .pointer (some ⟨b1, 0, none⟩)), (3, .pointer (some ⟨(b1 + 1), 0, none⟩)), (4, .bool false), (26, .bool (b' || ((a0_2.length : Int) != (a1_2.length : Int))))]) [] [(b1 + 1), b1] (fun _ => by kernel_rfl) (fun _ => by kernel_rfl) ?_
  refine WP.done ?_
  refine WP.cond (((a0 != a1) || (a0_1 != a1_1)) || ((a0_2.length : Int) != (a1_2.length : Int))) rfl rfl (fun c2 => ?_) (fun c2 => ?_)
  · replace hM := cond_t hM c2
    refine WP.seq ?_
    refine WP.run [] [2, 3, 4] (fun _ => [(2, .pointer (some ⟨b1, 0, none⟩)), (3, .pointer (some ⟨(b1 + 1), 0, none⟩)), (4, .bool false)]) (fun _ => [(b1, .cells #[.int .i64 a0, .int .i64 a0_1, slcV A00 a0_2.length] 35 (0, 0)), ((b1 + 1), .cells #[.int .i64 a1, .int .i64 a1_1, slcV A01 a1_2.length] 35 (0, 0))]) (fun _ => []) (fun _ => by kernel_rfl) (fun _ => ?_)
    obtain rfl := Option.some.inj hM
    exact WP.ret [] [] (.bool false) (by kernel_rfl) (fun w' hw => ⟨rfl, (hw.pick [] rfl).lessF [0, 1] (by kernel_rfl)⟩)
  · replace hM := cond_f hM c2
    refine WP.skip ?_
    refine WP.seq ?_
    refine WP.seq ?_
    refine WP.run [] [2, 3, 4, 5] (fun _ => [(2, .pointer (some ⟨b1, 0, none⟩)), (3, .pointer (some ⟨(b1 + 1), 0, none⟩)), (4, .bool false), (5, .int .i64 0)]) (fun _ => [(b1, .cells #[.int .i64 a0, .int .i64 a0_1, slcV A00 a0_2.length] 35 (0, 0)), ((b1 + 1), .cells #[.int .i64 a1, .int .i64 a1_1, slcV A01 a1_2.length] 35 (0, 0))]) (fun _ => []) (fun _ => by kernel_rfl) (fun _ => ?_)
    refine WP.block ?_
    refine WP.sub [2, 3, 4, 5] (L' := [(2, .pointer (some ⟨b1, 0, none⟩)), (3, .pointer (some ⟨(b1 + 1), 0, none⟩)), (4, .bool false), (5, .int .i64 0)]) (by kernel_rfl) ?_
    refine WP.lessF [0, 1] (F' := [Row 1 (pl (encI .u32)) noK A00 a0_2, Row 1 (pl (encI .u32)) noK A01 a1_2]) (by kernel_rfl) ?_
    refine WP.loop (σ := Bool × Int) (fun n st => gangwayref21_Same.l1 a0_2 a1_2 n st.1 st.2) r (fun st => [(2, .pointer (some ⟨b1, 0, none⟩)), (3, .pointer (some ⟨(b1 + 1), 0, none⟩)), (4, .bool st.1), (5, .int .i64 st.2)]) (fun st => Sat w Z [(b1, .cells #[.int .i64 a0, .int .i64 a0_1, slcV A00 a0_2.length] 35 (0, 0)), ((b1 + 1), .cells #[.int .i64 a1, .int .i64 a1_1, slcV A01 a1_2.length] 35 (0, 0))] [] ([Row 1 (pl (encI .u32)) noK A00 a0_2, Row 1 (pl (encI .u32)) noK A01 a1_2] ++ Glob)) (st := (false, 0)) (fun n st hM => ?_) hM
    rcases n with _ | n
    · exact nomatch (show (none : Option _) = some r from hM)
    obtain ⟨x3, x4⟩ := st
    replace hM : gangwayref21_Same.l1 a0_2 a1_2 (n + 1) x3 x4 = some r := hM
    rw [gangwayref21_Same.l1] at hM
    show WP _ _ _ _ _ [(2, .pointer (some ⟨b1, 0, none⟩)), (3, .pointer (some ⟨(b1 + 1), 0, none⟩)), (4, .bool x3), (5, .int .i64 x4)] (Sat w Z [(b1, .cells #[.int .i64 a0, .int .i64 a0_1, slcV A00 a0_2.length] 35 (0, 0)), ((b1 + 1), .cells #[.int .i64 a1, .int .i64 a1_1, slcV A01 a1_2.length] 35 (0, 0))] [] ([Row 1 (pl (encI .u32)) noK A00 a0_2, Row 1 (pl (encI .u32)) noK A01 a1_2] ++ Glob))
    refine WP.seq ?_
    refine WP.seq ?_
    refine WP.run [0] [2, 3, 4, 5, 27, 28, 29, 30, 31] (fun _ => [(2, .pointer (some ⟨b1, 0, none⟩)), (3, .pointer (some ⟨(b1 + 1), 0, none⟩)), (4, .bool x3), (5, .int .i64 x4), (27, .int .i64 x4), (28, .pointer (some ⟨b1, 2, none⟩)), (29, slcV A00 a0_2.length), (30, .int .i64 (a0_2.length : Int)), (31, .bool (decide (x4 < (a0_2.length : Int))))]) (fun _ => [(b1, .cells #[.int .i64 a0, .int .i64 a0_1, slcV A00 a0_2.length] 35 (0, 0)), ((b1 + 1), .cells #[.int .i64 a1, .int .i64 a1_1, slcV A01 a1_2.length] 35 (0, 0))]) (fun _ => [b1]) (fun _ => by kernel_rfl) (fun _ => ?_)
    refine WP.cond (decide (x4 < (a0_2.length : Int))) rfl rfl (fun c5 => ?_) (fun c5 => ?_)
    · replace hM := cond_t hM c5
      refine WP.skip ?_
      refine WP.seq ?_
      refine WP.block ?_
      refine WP.seq ?_
      refine WP.quiet (by kernel_rfl) (by kernel_rfl) ?_
      refine QL.run 3 [0] [2, 3, 4, 5, 27, 28, 29, 30, 31, 34, 35, 36] [b1] [(2, .pointer (some ⟨b1, 0, none⟩)), (3, .pointer (some ⟨(b1 + 1), 0, none⟩)), (4, .bool x3), (5, .int .i64 x4), (27, .int .i64 x4), (28, .pointer (some ⟨b1, 2, none⟩)), (29, slcV A00 a0_2.length), (30, .int .i64 (a0_2.length : Int)), (31, .bool (decide (x4 < (a0_2.length : Int)))), (34, .pointer (some ⟨b1, 2, none⟩)), (35, slcV A00 a0_2.length), (36, .int .i64 x4)] (by kernel_rfl) ?_
      obtain ⟨t6, h7, hM⟩ := bind_some hM
      refine QL.valF (φ := Row 1 (pl (encI .u32)) noK A00 a0_2) (fact_at 0 rfl) (fun w hR => run_indexRowF (A := A00) (xs := a0_2) (i := x4) (k := .i64) (e := 22) (m := 1) (by kernel_rfl) (by kernel_rfl) h7 (by kernel_rfl) (by kernel_rfl) hR) (by kernel_rfl) (by kernel_rfl) rfl ?_
      refine QL.valF (φ := Row 1 (pl (encI .u32)) noK A00 a0_2) (fact_at 0 rfl) (fun w hR => run_loadRowF (A := A00) (xs := a0_2) (i := x4) (j := 0) (v := .int .u32 t6) h7 (fun _ => by kernel_rfl) (by kernel_rfl) (by kernel_rfl) hR) (by kernel_rfl) (by kernel_rfl) rfl ?_
      refine QL.run 3 [1] [2, 3, 4, 5, 27, 28, 29, 30, 31, 34, 35, 36, 37, 38, 39, 40, 41] [(b1 + 1)] [(2, .pointer (some ⟨b1, 0, none⟩)), (3, .pointer (some ⟨(b1 + 1), 0, none⟩)), (4, .bool x3), (5, .int .i64 x4), (27, .int .i64 x4), (28, .pointer (some ⟨b1, 2, none⟩)), (29, slcV A00 a0_2.length), (30, .int .i64 (a0_2.length : Int)), (31, .bool (decide (x4 < (a0_2.length : Int)))), (34, .pointer (some ⟨b1, 2, none⟩)), (35, slcV A00 a0_2.length), (36, .int .i64 x4), (37, ptrV A00 (Int.toNat x4 * 1 + 0)), (38, .int .u32 t6), (39, .pointer (some ⟨(b1 + 1), 2, none⟩)), (40, slcV A01 a1_2.length), (41, .int .i64 x4)] (by kernel_rfl) ?_
      obtain ⟨t8, h9, hM⟩ := bind_some hM
      refine QL.valF (φ := Row 1 (pl (encI .u32)) noK A01 a1_2) (fact_at 1 rfl) (fun w hR => run_indexRowF (A := A01) (xs := a1_2) (i := x4) (k := .i64) (e := 22) (m := 1) (by kernel_rfl) (by kernel_rfl) h9 (by kernel_rfl) (by kernel_rfl) hR) (by kernel_rfl) (by kernel_rfl) rfl ?_
      refine QL.valF (φ := Row 1 (pl (encI .u32)) noK A01 a1_2) (fact_at 1 rfl) (fun w hR => run_loadRowF (A := A01) (xs := a1_2) (i := x4) (j := 0) (v := .int .u32 t8) h9 (fun _ => by kernel_rfl) (by kernel_rfl) (by kernel_rfl) hR) (by kernel_rfl) (by kernel_rfl) rfl ?_
      refine QL.run 1 [] [2, 3, 4, 5, 27, 28, 29, 30, 31, 34, 35, 36, 37, 38, 39, 40, 41, 42, 43, 44] [] [(2, .pointer (some ⟨b1, 0, none⟩)), (3, .pointer (some ⟨(b1 + 1), 0, none⟩)), (4, .bool x3), (5, .int .i64 x4), (27, .int .i64 x4), (28, .pointer (some ⟨b1, 2, none⟩)), (29, slcV A00 a0_2.length), (30, .int .i64 (a0_2.length : Int)), (31, .bool (decide (x4 < (a0_2.length : Int)))), (34, .pointer (some ⟨b1, 2, none⟩)), (35, slcV A00 a0_2.length), (36, .int .i64 x4), (37, ptrV A00 (Int.toNat x4 * 1 + 0)), (38, .int .u32 t6), (39, .pointer (some ⟨(b1 + 1), 2, none⟩)), (40, slcV A01 a1_2.length), (41, .int .i64 x4), (42, ptrV A01 (Int.toNat x4 * 1 + 0)), (43, .int .u32 t8), (44, .bool (t6 != t8))] (by kernel_rfl) ?_
      refine QL.done ?_
      refine WP.cond (t6 != t8) rfl rfl (fun c10 => ?_) (fun c10 => ?_)
      · replace hM := cond_t hM c10
        refine WP.seq ?_
        refine WP.run [] [2, 3, 4, 5, 27, 28, 29, 30, 31, 34, 35, 36, 37, 38, 39, 40, 41, 42, 43, 44] (fun _ => [(2, .pointer (some ⟨b1, 0, none⟩)), (3, .pointer (some ⟨(b1 + 1), 0, none⟩)), (4, .bool false), (5, .int .i64 x4), (27, .int .i64 x4), (28, .pointer (some ⟨b1, 2, none⟩)), (29, slcV A00 a0_2.length), (30, .int .i64 (a0_2.length : Int)), (31, .bool (decide (x4 < (a0_2.length : Int)))), (34, .pointer (some ⟨b1, 2, none⟩)), (35, slcV A00 a0_2.length), (36, .int .i64 x4), (37, ptrV A00 (Int.toNat x4 * 1 + 0)), (38, .int .u32 t6), (39, .pointer (some ⟨(b1 + 1), 2, none⟩)), (40, slcV A01 a1_2.length), (41, .int .i64 x4), (42, ptrV A01 (Int.toNat x4 * 1 + 0)), (43, .int .u32 t8), (44, .bool (t6 != t8))]) (fun _ => [(b1, .cells #[.int .i64 a0, .int .i64 a0_1, slcV A00 a0_2.length] 35 (0, 0)), ((b1 + 1), .cells #[.int .i64 a1, .int .i64 a1_1, slcV A01 a1_2.length] 35 (0, 0))]) (fun _ => []) (fun _ => by kernel_rfl) (fun _ => ?_)
        obtain rfl := Option.some.inj hM
        exact WP.ret [] [] (.bool false) (by kernel_rfl) (fun w' hw => ⟨rfl, (hw.pick [] rfl).lessF [0, 1] (by kernel_rfl)⟩)
      · replace hM := cond_f hM c10
        refine WP.skip ?_
        refine WP.leave ?_
        refine WP.run [] [2, 3, 4, 5, 27, 28, 29, 30, 31, 32, 33, 34, 35, 36, 37, 38, 39, 40, 41, 42, 43, 44] (fun _ => [(2, .pointer (some ⟨b1, 0, none⟩)), (3, .pointer (some ⟨(b1 + 1), 0, none⟩)), (4, .bool x3), (5, .int .i64 (i64 (x4 + 1))), (27, .int .i64 x4), (28, .pointer (some ⟨b1, 2, none⟩)), (29, slcV A00 a0_2.length), (30, .int .i64 (a0_2.length : Int)), (31, .bool (decide (x4 < (a0_2.length : Int)))), (32, .int .i64 x4), (33, .int .i64 (i64 (x4 + 1))), (34, .pointer (some ⟨b1, 2, none⟩)), (35, slcV A00 a0_2.length), (36, .int .i64 x4), (37, ptrV A00 (Int.toNat x4 * 1 + 0)), (38, .int .u32 t6), (39, .pointer (some ⟨(b1 + 1), 2, none⟩)), (40, slcV A01 a1_2.length), (41, .int .i64 x4), (42, ptrV A01 (Int.toNat x4 * 1 + 0)), (43, .int .u32 t8), (44, .bool (t6 != t8))]) (fun _ => [(b1, .cells #[.int .i64 a0, .int .i64 a0_1, slcV A00 a0_2.length] 35 (0, 0)), ((b1 + 1), .cells #[.int .i64 a1, .int .i64 a1_1, slcV A01 a1_2.length] 35 (0, 0))]) (fun _ => []) (fun _ => by kernel_rfl) (fun _ => ?_)
        exact WP.again' [2, 3, 4, 5] (x3, i64 (x4 + 1)) hM (by kernel_rfl) (fun _ h => (h.pick [0, 1] (by kernel_rfl)).lessF [0, 1] (by kernel_rfl))
    · replace hM := cond_f hM c5
      refine WP.exit rfl ?_
      refine WP.seq ?_
      refine WP.run [] [4] (fun _ => [(4, .bool true)]) (fun _ => [(b1, .cells #[.int .i64 a0, .int .i64 a0_1, slcV A00 a0_2.length] 35 (0, 0)), ((b1 + 1), .cells #[.int .i64 a1, .int .i64 a1_1, slcV A01 a1_2.length] 35 (0, 0))]) (fun _ => []) (fun _ => by kernel_rfl) (fun _ => ?_)
      refine WP.keep [false, false] (by kernel_rfl : _ = []) ?_
      obtain rfl := Option.some.inj hM
      exact WP.ret [] [] (.bool true) (by kernel_rfl) (fun w' hw => ⟨rfl, (hw.pick [] rfl).lessF [0, 1] (by kernel_rfl)⟩)

end Go.Proofs.YtbodofjnfmjbpaaGreatDoor

namespace Go.Proofs.YtbodofjnfmjbpaaGreatDoor
open Go Eng
set_option linter.unusedVariables false
set_option linter.unusedSimpArgs false

/-! ### gangway/octets.part: function 101 -/
def octets_part.f (a0 : ByteArray) (a1 : Int) (a2 : Int) : Option (ByteArray × Un0) :=
  bif ((decide (a1 < 0)) || (decide (a2 < 0))) then
    some ((⟨#[]⟩ : ByteArray), some (a1, 1))
  else
    bif ((decide (a1 > (a0.size : Int))) || (decide (a2 > (i64 ((a0.size : Int) - a1))))) then
      some ((⟨#[]⟩ : ByteArray), some (a1, 10))
    else
      (sliceS a0 a1 (i64 (a1 + a2))).bind fun t3 =>
      some (t3, none)

set_option maxRecDepth 100000 in
theorem octets_part_calls (a0 : ByteArray) (a1 : Int) (a2 : Int) (r : ByteArray × Un0) (h : octets_part.f a0 a1 a2 = some r) : Pure Tryz.prog Glob 101 #[.string a0, .int .i64 a1, .int .i64 a2] (.tuple #[.string r.1, Un0.v r.2]) := by
  intro w Z hS
  refine calls_of (args := [.string a0, .int .i64 a1, .int .i64 a2]) (L := [(0, .string a0), (1, .int .i64 a1), (2, .int .i64 a2)]) (N := 42) (S := Sat w Z [] [] Glob) Tryz.func101 rfl rfl (Nat.le_of_ble_eq_true rfl) rfl hS ?_
  have hM := h
  clear h hS
  unfold octets_part.f at hM
  refine WP.seq ?_
  refine WP.run [] [0, 1, 2, 6, 7] (fun _ => [(0, .string a0), (1, .int .i64 a1), (2, .int .i64 a2), (6, .string (⟨#[]⟩ : ByteArray)), (7, .nilIface)]) (fun _ => []) (fun _ => []) (fun _ => by kernel_rfl) (fun _ => ?_)
  refine WP.seq ?_
  refine WP.block ?_
  refine WP.seq ?_
  refine WP.region ?_
  refine WL.run 3 [] [0, 1, 2, 6, 7, 11] (fun _ => [(0, .string a0), (1, .int .i64 a1), (2, .int .i64 a2), (6, .string (⟨#[]⟩ : ByteArray)), (7, .nilIface), (11, .bool (decide (a1 < 0)))]) (fun _ => []) (fun _ => []) (fun _ => by kernel_rfl) (fun _ => ?_)
  refine WL.sub [0, 1, 2, 6, 7, 11] (L' := [(0, .string a0), (1, .int .i64 a1), (2, .int .i64 a2), (6, .string (⟨#[]⟩ : ByteArray)), (7, .nilIface), (11, .bool (decide (a1 < 0)))]) (by kernel_rfl) ?_
  refine WL.both (fun b' => [(0, .string a0), (1, .int .i64 a1), (2, .int .i64 a2), (6, .string (⟨#[]⟩ : ByteArray)), (7, .nilIface), (11, .bool b')]) (decide (a1 < 0)) 3 [] [] [0, 1, 2, 6, 7, 14] (fun b' => [(0, .string a0), (1, .int .i64 a1), (2, .int .i64 a2), (6, .string (⟨#[]⟩ : ByteArray)), (7, .nilIface), (14, .bool (b' || (decide (a2 < 0))))]) [] [] (fun _ => by kernel_rfl) (fun _ => by kernel_rfl) ?_
  refine WL.run 1 [] [0, 1, 2, 6, 7, 8] (fun _ => [(0, .string a0), (1, .int .i64 a1), (2, .int .i64 a2), (6, .string (⟨#[]⟩ : ByteArray)), (7, .nilIface), (8, .bool ((decide (a1 < 0)) || (decide (a2 < 0))))]) (fun _ => []) (fun _ => []) (fun _ => by kernel_rfl) (fun _ => ?_)
  refine WP.done ?_
  refine WP.cond ((decide (a1 < 0)) || (decide (a2 < 0))) rfl rfl (fun c1 => ?_) (fun c1 => ?_)
  · replace hM := cond_t hM c1
    refine WP.seq ?_
    refine WP.run [] [0, 1, 2, 6, 7] (fun _ => [(0, .string a0), (1, .int .i64 a1), (2, .int .i64 a2), (6, .string (⟨#[]⟩ : ByteArray)), (7, .iface 181 (.agg #[.int .i64 a1, .iface 30 (.int .i64 1)]))]) (fun _ => []) (fun _ => []) (fun _ => by kernel_rfl) (fun _ => ?_)
    obtain rfl := Option.some.inj hM
    exact WP.ret [] [] (.tuple #[.string (⟨#[]⟩ : ByteArray), .iface 181 (.agg #[.int .i64 a1, .iface 30 (.int .i64 1)])]) (by kernel_rfl) (fun w' hw => ⟨rfl, hw.pick [] rfl⟩)
  · replace hM := cond_f hM c1
    refine WP.seq ?_
    refine WP.region ?_
    refine WL.run 5 [] [0, 1, 2, 6, 7, 24] (fun _ => [(0, .string a0), (1, .int .i64 a1), (2, .int .i64 a2), (6, .string (⟨#[]⟩ : ByteArray)), (7, .nilIface), (24, .bool (decide (a1 > (a0.size : Int))))]) (fun _ => []) (fun _ => []) (fun _ => by kernel_rfl) (fun _ => ?_)
    refine WL.sub [0, 1, 2, 6, 7, 24] (L' := [(0, .string a0), (1, .int .i64 a1), (2, .int .i64 a2), (6, .string (⟨#[]⟩ : ByteArray)), (7, .nilIface), (24, .bool (decide (a1 > (a0.size : Int))))]) (by kernel_rfl) ?_
    refine WL.both (fun b' => [(0, .string a0), (1, .int .i64 a1), (2, .int .i64 a2), (6, .string (⟨#[]⟩ : ByteArray)), (7, .nilIface), (24, .bool b')]) (decide (a1 > (a0.size : Int))) 7 [] [] [0, 1, 2, 6, 7, 31] (fun b' => [(0, .string a0), (1, .int .i64 a1), (2, .int .i64 a2), (6, .string (⟨#[]⟩ : ByteArray)), (7, .nilIface), (31, .bool (b' || (decide (a2 > (i64 ((a0.size : Int) - a1))))))]) [] [] (fun _ => by kernel_rfl) (fun _ => by kernel_rfl) ?_
    refine WL.run 1 [] [0, 1, 2, 6, 7, 19] (fun _ => [(0, .string a0), (1, .int .i64 a1), (2, .int .i64 a2), (6, .string (⟨#[]⟩ : ByteArray)), (7, .nilIface), (19, .bool ((decide (a1 > (a0.size : Int))) || (decide (a2 > (i64 ((a0.size : Int) - a1))))))]) (fun _ => []) (fun _ => []) (fun _ => by kernel_rfl) (fun _ => ?_)
    refine WP.done ?_
    refine WP.cond ((decide (a1 > (a0.size : Int))) || (decide (a2 > (i64 ((a0.size : Int) - a1))))) rfl rfl (fun c2 => ?_) (fun c2 => ?_)
    · replace hM := cond_t hM c2
      refine WP.seq ?_
      refine WP.run [] [0, 1, 2, 6, 7] (fun _ => [(0, .string a0), (1, .int .i64 a1), (2, .int .i64 a2), (6, .string (⟨#[]⟩ : ByteArray)), (7, .iface 181 (.agg #[.int .i64 a1, .iface 30 (.int .i64 10)]))]) (fun _ => []) (fun _ => []) (fun _ => by kernel_rfl) (fun _ => ?_)
      obtain rfl := Option.some.inj hM
      exact WP.ret [] [] (.tuple #[.string (⟨#[]⟩ : ByteArray), .iface 181 (.agg #[.int .i64 a1, .iface 30 (.int .i64 10)])]) (by kernel_rfl) (fun w' hw => ⟨rfl, hw.pick [] rfl⟩)
    · replace hM := cond_f hM c2
      refine WP.skip ?_
      refine WP.leave ?_
      refine WP.seq ?_
      refine WP.region ?_
      refine WL.run 5 [] [6, 7, 36, 37, 40] (fun _ => [(6, .string (⟨#[]⟩ : ByteArray)), (7, .nilIface), (36, .string a0), (37, .int .i64 a1), (40, .int .i64 (i64 (a1 + a2)))]) (fun _ => []) (fun _ => []) (fun _ => by kernel_rfl) (fun _ => ?_)
      obtain ⟨t3, h4, hM⟩ := bind_some hM
      refine WL.val (fun _ => run_sliceS (s := a0) (kl := .i64) (kh := .i64) (l := a1) (h := i64 (a1 + a2)) (by kernel_rfl) (by kernel_rfl) (by kernel_rfl) (by kernel_rfl) h4) (by kernel_rfl) (by kernel_rfl) rfl ?_
      refine WL.run 2 [] [6, 7] (fun _ => [(6, .string t3), (7, .nilIface)]) (fun _ => []) (fun _ => []) (fun _ => by kernel_rfl) (fun _ => ?_)
      refine WP.done ?_
      obtain rfl := Option.some.inj hM
      exact WP.ret [] [] (.tuple #[.string t3, .nilIface]) (by kernel_rfl) (fun w' hw => ⟨rfl, hw.pick [] rfl⟩)

end Go.Proofs.YtbodofjnfmjbpaaGreatDoor

namespace Go.Proofs.YtbodofjnfmjbpaaGreatDoor
open Go Eng
set_option linter.unusedVariables false
set_option linter.unusedSimpArgs false

/-! ### (gangway/octets.at).Unwrap: function 161 -/
def octets_at_Unwrap.f (a0 : Int) (a0_1 : Int) : Option (Int) :=
  some a0_1

set_option maxRecDepth 100000 in
theorem octets_at_Unwrap_calls (a0 : Int) (a0_1 : Int) (r : Int) (h : octets_at_Unwrap.f a0 a0_1 = some r) : Pure Tryz.prog Glob 161 #[.agg #[.int .i64 a0, .iface 30 (.int .i64 a0_1)]] (.iface 30 (.int .i64 r)) := by
  intro w Z hS
  refine calls_of (args := [.agg #[.int .i64 a0, .iface 30 (.int .i64 a0_1)]]) (L := [(0, .agg #[.int .i64 a0, .iface 30 (.int .i64 a0_1)])]) (N := 5) (S := Sat w Z [] [] Glob) Tryz.func161 rfl rfl (Nat.le_of_ble_eq_true rfl) rfl hS ?_
  have hM := h
  clear h hS
  unfold octets_at_Unwrap.f at hM
  refine WP.seq ?_
  refine WP.run [] [1, 2] (fun b1 => [(1, .pointer (some ⟨b1, 0, none⟩)), (2, .nilIface)]) (fun b1 => [(b1, .cells #[.int .i64 a0, .iface 30 (.int .i64 a0_1)] 181 (0, 0))]) (fun b1 => []) (fun b1 => by kernel_rfl) (fun b1 => ?_)
  refine WP.seq ?_
  refine WP.run [0] [2] (fun _ => [(2, .iface 30 (.int .i64 a0_1))]) (fun _ => [(b1, .cells #[.int .i64 a0, .iface 30 (.int .i64 a0_1)] 181 (0, 0))]) (fun _ => [b1]) (fun _ => by kernel_rfl) (fun _ => ?_)
  refine WP.keep [false] (by kernel_rfl : _ = []) ?_
  obtain rfl := Option.some.inj hM
  exact WP.ret [] [] (.iface 30 (.int .i64 a0_1)) (by kernel_rfl) (fun w' hw => ⟨rfl, hw.pick [] rfl⟩)

end Go.Proofs.YtbodofjnfmjbpaaGreatDoor

namespace Go.Proofs.YtbodofjnfmjbpaaGreatDoor
open Go Eng
set_option linter.unusedVariables false
set_option linter.unusedSimpArgs false

/-! ### errors.as: function 62 -/
def errors_as.f (a0 : Int) (a0_1 : Int) (a1 : Int) : Option (Bool × Int) :=
  (octets_at_Unwrap.f a0 a0_1).bind fun r3 =>
  some (true, r3)

set_option maxRecDepth 100000 in
theorem errors_as_calls (b_0 : Nat) (b_1 : Nat) (a0 : Int) (a0_1 : Int) (a1 : Int) (r : Bool × Int) (h : errors_as.f a0 a0_1 a1 = some r) : Does Tryz.prog 62 #[.iface 181 (.agg #[.int .i64 a0, .iface 30 (.int .i64 a0_1)]), .iface 175 (.pointer (some ⟨b_0, 0, none⟩)), .agg #[.pointer (some ⟨2, 175, none⟩), .pointer (some ⟨b_1, 0, none⟩), .int .u64 150], .iface 148 (.agg #[.pointer (some ⟨2, 30, none⟩)])] [(b_0, .cells #[.int .i64 a1] 30 (0, 0)), (b_1, .cells #[.pointer (some ⟨b_0, 0, none⟩)] 175 (0, 0))] Glob (fun _ : Unit => .bool r.1) (fun _ => [(b_0, .cells #[.int .i64 r.2] 30 (0, 0)), (b_1, .cells #[.pointer (some ⟨b_0, 0, none⟩)] 175 (0, 0))]) (fun _ => []) (fun _ => Glob) := by
  intro w Z hS
  refine calls_of (args := [.iface 181 (.agg #[.int .i64 a0, .iface 30 (.int .i64 a0_1)]), .iface 175 (.pointer (some ⟨b_0, 0, none⟩)), .agg #[.pointer (some ⟨2, 175, none⟩), .pointer (some ⟨b_1, 0, none⟩), .int .u64 150], .iface 148 (.agg #[.pointer (some ⟨2, 30, none⟩)])]) (L := [(0, .iface 181 (.agg #[.int .i64 a0, .iface 30 (.int .i64 a0_1)])), (1, .iface 175 (.pointer (some ⟨b_0, 0, none⟩))), (2, .agg #[.pointer (some ⟨2, 175, none⟩), .pointer (some ⟨b_1, 0, none⟩), .int .u64 150]), (3, .iface 148 (.agg #[.pointer (some ⟨2, 30, none⟩)]))]) (N := 62) (S := Sat w Z [(b_0, .cells #[.int .i64 a1] 30 (0, 0)), (b_1, .cells #[.pointer (some ⟨b_0, 0, none⟩)] 175 (0, 0))] [] Glob) Tryz.func62 rfl rfl (Nat.le_of_ble_eq_true rfl) rfl hS ?_
  have hM := h
  clear h hS
  unfold errors_as.f at hM
  refine WP.seq ?_
  refine WP.run [] [0, 1, 3, 6, 8] (fun b1 => [(0, .iface 181 (.agg #[.int .i64 a0, .iface 30 (.int .i64 a0_1)])), (1, .iface 175 (.pointer (some ⟨b_0, 0, none⟩))), (3, .iface 148 (.agg #[.pointer (some ⟨2, 30, none⟩)])), (6, .pointer (some ⟨b1, 0, none⟩)), (8, .bool false)]) (fun b1 => [(b_0, .cells #[.int .i64 a1] 30 (0, 0)), (b_1, .cells #[.pointer (some ⟨b_0, 0, none⟩)] 175 (0, 0)), (b1, .cells #[.pointer (some ⟨2, 175, none⟩), .pointer (some ⟨b_1, 0, none⟩), .int .u64 150] 106 (0, 0))]) (fun b1 => []) (fun b1 => by kernel_rfl) (fun b1 => ?_)
  refine WP.block ?_
  refine WP.unroll 40 ?_
  refine WP.block ?_
  refine WP.seq ?_
  refine WP.seq ?_
  refine WP.run [] [0, 1, 3, 6, 8, 16, 17, 18, 19] (fun _ => [(0, .iface 181 (.agg #[.int .i64 a0, .iface 30 (.int .i64 a0_1)])), (1, .iface 175 (.pointer (some ⟨b_0, 0, none⟩))), (3, .iface 148 (.agg #[.pointer (some ⟨2, 30, none⟩)])), (6, .pointer (some ⟨b1, 0, none⟩)), (8, .bool false), (16, .iface 181 (.agg #[.int .i64 a0, .iface 30 (.int .i64 a0_1)])), (17, .iface 148 (.agg #[.pointer (some ⟨2, 181, none⟩)])), (18, .iface 148 (.agg #[.pointer (some ⟨2, 30, none⟩)])), (19, .bool false)]) (fun _ => [(b_0, .cells #[.int .i64 a1] 30 (0, 0)), (b_1, .cells #[.pointer (some ⟨b_0, 0, none⟩)] 175 (0, 0)), (b1, .cells #[.pointer (some ⟨2, 175, none⟩), .pointer (some ⟨b_1, 0, none⟩), .int .u64 150] 106 (0, 0))]) (fun _ => []) (fun _ => by kernel_rfl) (fun _ => ?_)
  refine WP.no rfl rfl ?_
  refine WP.skip ?_
  refine WP.seq ?_
  refine WP.seq ?_
  refine WP.region ?_
  refine WL.run 1 [] [0, 1, 3, 6, 8, 16, 17, 18, 19, 26] (fun _ => [(0, .iface 181 (.agg #[.int .i64 a0, .iface 30 (.int .i64 a0_1)])), (1, .iface 175 (.pointer (some ⟨b_0, 0, none⟩))), (3, .iface 148 (.agg #[.pointer (some ⟨2, 30, none⟩)])), (6, .pointer (some ⟨b1, 0, none⟩)), (8, .bool false), (16, .iface 181 (.agg #[.int .i64 a0, .iface 30 (.int .i64 a0_1)])), (17, .iface 148 (.agg #[.pointer (some ⟨2, 181, none⟩)])), (18, .iface 148 (.agg #[.pointer (some ⟨2, 30, none⟩)])), (19, .bool false), (26, .iface 181 (.agg #[.int .i64 a0, .iface 30 (.int .i64 a0_1)]))]) (fun _ => [(b_0, .cells #[.int .i64 a1] 30 (0, 0)), (b_1, .cells #[.pointer (some ⟨b_0, 0, none⟩)] 175 (0, 0)), (b1, .cells #[.pointer (some ⟨2, 175, none⟩), .pointer (some ⟨b_1, 0, none⟩), .int .u64 150] 106 (0, 0))]) (fun _ => []) (fun _ => by kernel_rfl) (fun _ => ?_)
  refine WL.val (fun _ => run_assertLacks (t := 181) (v := .agg #[.int .i64 a0, .iface 30 (.int .i64 a0_1)]) (z := .nilIface) (by kernel_rfl) (by kernel_rfl) (by kernel_rfl)) (by kernel_rfl) (by kernel_rfl) rfl ?_
  refine WL.run 5 [] [0, 1, 3, 6, 8, 9, 10, 16, 17, 18, 19, 25, 26, 27, 28, 29] (fun _ => [(0, .iface 181 (.agg #[.int .i64 a0, .iface 30 (.int .i64 a0_1)])), (1, .iface 175 (.pointer (some ⟨b_0, 0, none⟩))), (3, .iface 148 (.agg #[.pointer (some ⟨2, 30, none⟩)])), (6, .pointer (some ⟨b1, 0, none⟩)), (8, .bool false), (9, .nilIface), (10, .bool false), (16, .iface 181 (.agg #[.int .i64 a0, .iface 30 (.int .i64 a0_1)])), (17, .iface 148 (.agg #[.pointer (some ⟨2, 181, none⟩)])), (18, .iface 148 (.agg #[.pointer (some ⟨2, 30, none⟩)])), (19, .bool false), (25, .tuple #[.nilIface, .bool false]), (26, .iface 181 (.agg #[.int .i64 a0, .iface 30 (.int .i64 a0_1)])), (27, .tuple #[.nilIface, .bool false]), (28, .nilIface), (29, .bool false)]) (fun _ => [(b_0, .cells #[.int .i64 a1] 30 (0, 0)), (b_1, .cells #[.pointer (some ⟨b_0, 0, none⟩)] 175 (0, 0)), (b1, .cells #[.pointer (some ⟨2, 175, none⟩), .pointer (some ⟨b_1, 0, none⟩), .int .u64 150] 106 (0, 0))]) (fun _ => []) (fun _ => by kernel_rfl) (fun _ => ?_)
  refine WP.done ?_
  refine WP.seq ?_
  refine WP.run [] [0, 1, 3, 6, 8, 9, 10, 16, 17, 18, 19, 25, 26, 27, 28, 29, 30, 31, 32, 33, 34, 35] (fun _ => [(0, .iface 181 (.agg #[.int .i64 a0, .iface 30 (.int .i64 a0_1)])), (1, .iface 175 (.pointer (some ⟨b_0, 0, none⟩))), (3, .iface 148 (.agg #[.pointer (some ⟨2, 30, none⟩)])), (6, .pointer (some ⟨b1, 0, none⟩)), (8, .bool false), (9, .nilIface), (10, .bool false), (16, .iface 181 (.agg #[.int .i64 a0, .iface 30 (.int .i64 a0_1)])), (17, .iface 148 (.agg #[.pointer (some ⟨2, 181, none⟩)])), (18, .iface 148 (.agg #[.pointer (some ⟨2, 30, none⟩)])), (19, .bool false), (25, .tuple #[.nilIface, .bool false]), (26, .iface 181 (.agg #[.int .i64 a0, .iface 30 (.int .i64 a0_1)])), (27, .tuple #[.nilIface, .bool false]), (28, .nilIface), (29, .bool false), (30, .bool false), (31, .bool false), (32, .tuple #[]), (33, .tuple #[]), (34, .tuple #[]), (35, .bool false)]) (fun _ => [(b_0, .cells #[.int .i64 a1] 30 (0, 0)), (b_1, .cells #[.pointer (some ⟨b_0, 0, none⟩)] 175 (0, 0)), (b1, .cells #[.pointer (some ⟨2, 175, none⟩), .pointer (some ⟨b_1, 0, none⟩), .int .u64 150] 106 (0, 0))]) (fun _ => []) (fun _ => by kernel_rfl) (fun _ => ?_)
  refine WP.no rfl rfl ?_
  refine WP.skip ?_
  refine WP.seq ?_
  refine WP.run [] [0, 1, 3, 6, 8, 9, 10, 16, 17, 18, 19, 25, 26, 27, 28, 29, 30, 31, 32, 33, 34, 35, 36] (fun _ => [(0, .iface 181 (.agg #[.int .i64 a0, .iface 30 (.int .i64 a0_1)])), (1, .iface 175 (.pointer (some ⟨b_0, 0, none⟩))), (3, .iface 148 (.agg #[.pointer (some ⟨2, 30, none⟩)])), (6, .pointer (some ⟨b1, 0, none⟩)), (8, .bool false), (9, .nilIface), (10, .bool false), (16, .iface 181 (.agg #[.int .i64 a0, .iface 30 (.int .i64 a0_1)])), (17, .iface 148 (.agg #[.pointer (some ⟨2, 181, none⟩)])), (18, .iface 148 (.agg #[.pointer (some ⟨2, 30, none⟩)])), (19, .bool false), (25, .tuple #[.nilIface, .bool false]), (26, .iface 181 (.agg #[.int .i64 a0, .iface 30 (.int .i64 a0_1)])), (27, .tuple #[.nilIface, .bool false]), (28, .nilIface), (29, .bool false), (30, .bool false), (31, .bool false), (32, .tuple #[]), (33, .tuple #[]), (34, .tuple #[]), (35, .bool false), (36, .iface 181 (.agg #[.int .i64 a0, .iface 30 (.int .i64 a0_1)]))]) (fun _ => [(b_0, .cells #[.int .i64 a1] 30 (0, 0)), (b_1, .cells #[.pointer (some ⟨b_0, 0, none⟩)] 175 (0, 0)), (b1, .cells #[.pointer (some ⟨2, 175, none⟩), .pointer (some ⟨b_1, 0, none⟩), .int .u64 150] 106 (0, 0))]) (fun _ => []) (fun _ => by kernel_rfl) (fun _ => ?_)
  refine WP.block ?_
  refine WP.seq ?_
  refine WP.region ?_
  refine WL.val (fun _ => run_assertHas (t := 181) (v := .agg #[.int .i64 a0, .iface 30 (.int .i64 a0_1)]) (by kernel_rfl) (by kernel_rfl)) (by kernel_rfl) (by kernel_rfl) rfl ?_
  refine WL.run 2 [] [0, 1, 3, 6, 8, 9, 10, 16, 17, 18, 19, 25, 26, 27, 28, 29, 30, 31, 32, 33, 34, 35, 36, 37, 38, 39] (fun _ => [(0, .iface 181 (.agg #[.int .i64 a0, .iface 30 (.int .i64 a0_1)])), (1, .iface 175 (.pointer (some ⟨b_0, 0, none⟩))), (3, .iface 148 (.agg #[.pointer (some ⟨2, 30, none⟩)])), (6, .pointer (some ⟨b1, 0, none⟩)), (8, .bool false), (9, .nilIface), (10, .bool false), (16, .iface 181 (.agg #[.int .i64 a0, .iface 30 (.int .i64 a0_1)])), (17, .iface 148 (.agg #[.pointer (some ⟨2, 181, none⟩)])), (18, .iface 148 (.agg #[.pointer (some ⟨2, 30, none⟩)])), (19, .bool false), (25, .tuple #[.nilIface, .bool false]), (26, .iface 181 (.agg #[.int .i64 a0, .iface 30 (.int .i64 a0_1)])), (27, .tuple #[.nilIface, .bool false]), (28, .nilIface), (29, .bool false), (30, .bool false), (31, .bool false), (32, .tuple #[]), (33, .tuple #[]), (34, .tuple #[]), (35, .bool false), (36, .iface 181 (.agg #[.int .i64 a0, .iface 30 (.int .i64 a0_1)])), (37, .tuple #[.iface 181 (.agg #[.int .i64 a0, .iface 30 (.int .i64 a0_1)]), .bool true]), (38, .bool true), (39, .iface 181 (.agg #[.int .i64 a0, .iface 30 (.int .i64 a0_1)]))]) (fun _ => [(b_0, .cells #[.int .i64 a1] 30 (0, 0)), (b_1, .cells #[.pointer (some ⟨b_0, 0, none⟩)] 175 (0, 0)), (b1, .cells #[.pointer (some ⟨2, 175, none⟩), .pointer (some ⟨b_1, 0, none⟩), .int .u64 150] 106 (0, 0))]) (fun _ => []) (fun _ => by kernel_rfl) (fun _ => ?_)
  refine WP.done ?_
  refine WP.yes rfl rfl ?_
  refine WP.seq ?_
  refine WP.run [] [0, 1, 3, 6, 8, 9, 10, 11, 16, 17, 18, 19, 25, 26, 27, 28, 29, 30, 31, 32, 33, 34, 35, 36, 37, 38, 39] (fun _ => [(0, .iface 181 (.agg #[.int .i64 a0, .iface 30 (.int .i64 a0_1)])), (1, .iface 175 (.pointer (some ⟨b_0, 0, none⟩))), (3, .iface 148 (.agg #[.pointer (some ⟨2, 30, none⟩)])), (6, .pointer (some ⟨b1, 0, none⟩)), (8, .bool false), (9, .nilIface), (10, .bool false), (11, .iface 181 (.agg #[.int .i64 a0, .iface 30 (.int .i64 a0_1)])), (16, .iface 181 (.agg #[.int .i64 a0, .iface 30 (.int .i64 a0_1)])), (17, .iface 148 (.agg #[.pointer (some ⟨2, 181, none⟩)])), (18, .iface 148 (.agg #[.pointer (some ⟨2, 30, none⟩)])), (19, .bool false), (25, .tuple #[.nilIface, .bool false]), (26, .iface 181 (.agg #[.int .i64 a0, .iface 30 (.int .i64 a0_1)])), (27, .tuple #[.nilIface, .bool false]), (28, .nilIface), (29, .bool false), (30, .bool false), (31, .bool false), (32, .tuple #[]), (33, .tuple #[]), (34, .tuple #[]), (35, .bool false), (36, .iface 181 (.agg #[.int .i64 a0, .iface 30 (.int .i64 a0_1)])), (37, .tuple #[.iface 181 (.agg #[.int .i64 a0, .iface 30 (.int .i64 a0_1)]), .bool true]), (38, .bool true), (39, .iface 181 (.agg #[.int .i64 a0, .iface 30 (.int .i64 a0_1)]))]) (fun _ => [(b_0, .cells #[.int .i64 a1] 30 (0, 0)), (b_1, .cells #[.pointer (some ⟨b_0, 0, none⟩)] 175 (0, 0)), (b1, .cells #[.pointer (some ⟨2, 175, none⟩), .pointer (some ⟨b_1, 0, none⟩), .int .u64 150] 106 (0, 0))]) (fun _ => []) (fun _ => by kernel_rfl) (fun _ => ?_)
  refine WP.seq ?_
  refine WP.region ?_
  refine WL.run 1 [] [0, 1, 3, 6, 8, 9, 10, 11, 16, 17, 18, 19, 25, 26, 27, 28, 29, 30, 31, 32, 33, 34, 35, 36, 37, 38, 39, 40] (fun _ => [(0, .iface 181 (.agg #[.int .i64 a0, .iface 30 (.int .i64 a0_1)])), (1, .iface 175 (.pointer (some ⟨b_0, 0, none⟩))), (3, .iface 148 (.agg #[.pointer (some ⟨2, 30, none⟩)])), (6, .pointer (some ⟨b1, 0, none⟩)), (8, .bool false), (9, .nilIface), (10, .bool false), (11, .iface 181 (.agg #[.int .i64 a0, .iface 30 (.int .i64 a0_1)])), (16, .iface 181 (.agg #[.int .i64 a0, .iface 30 (.int .i64 a0_1)])), (17, .iface 148 (.agg #[.pointer (some ⟨2, 181, none⟩)])), (18, .iface 148 (.agg #[.pointer (some ⟨2, 30, none⟩)])), (19, .bool false), (25, .tuple #[.nilIface, .bool false]), (26, .iface 181 (.agg #[.int .i64 a0, .iface 30 (.int .i64 a0_1)])), (27, .tuple #[.nilIface, .bool false]), (28, .nilIface), (29, .bool false), (30, .bool false), (31, .bool false), (32, .tuple #[]), (33, .tuple #[]), (34, .tuple #[]), (35, .bool false), (36, .iface 181 (.agg #[.int .i64 a0, .iface 30 (.int .i64 a0_1)])), (37, .tuple #[.iface 181 (.agg #[.int .i64 a0, .iface 30 (.int .i64 a0_1)]), .bool true]), (38, .bool true), (39, .iface 181 (.agg #[.int .i64 a0, .iface 30 (.int .i64 a0_1)])), (40, .iface 181 (.agg #[.int .i64 a0, .iface 30 (.int .i64 a0_1)]))]) (fun _ => [(b_0, .cells #[.int .i64 a1] 30 (0, 0)), (b_1, .cells #[.pointer (some ⟨b_0, 0, none⟩)] 175 (0, 0)), (b1, .cells #[.pointer (some ⟨2, 175, none⟩), .pointer (some ⟨b_1, 0, none⟩), .int .u64 150] 106 (0, 0))]) (fun _ => []) (fun _ => by kernel_rfl) (fun _ => ?_)
  obtain ⟨r3, h4, hM⟩ := bind_some hM
  refine WL.callP [] [] (octets_at_Unwrap_calls a0 a0_1 _ h4) (fun _ h => h) (by kernel_rfl) (by kernel_rfl) rfl ?_
  refine WL.run 1 [] [0, 1, 3, 6, 8, 9, 10, 11, 16, 17, 18, 19, 25, 26, 27, 28, 29, 30, 31, 32, 33, 34, 35, 36, 37, 38, 39, 40, 41] (fun _ => [(0, .iface 30 (.int .i64 r3)), (1, .iface 175 (.pointer (some ⟨b_0, 0, none⟩))), (3, .iface 148 (.agg #[.pointer (some ⟨2, 30, none⟩)])), (6, .pointer (some ⟨b1, 0, none⟩)), (8, .bool false), (9, .nilIface), (10, .bool false), (11, .iface 181 (.agg #[.int .i64 a0, .iface 30 (.int .i64 a0_1)])), (16, .iface 181 (.agg #[.int .i64 a0, .iface 30 (.int .i64 a0_1)])), (17, .iface 148 (.agg #[.pointer (some ⟨2, 181, none⟩)])), (18, .iface 148 (.agg #[.pointer (some ⟨2, 30, none⟩)])), (19, .bool false), (25, .tuple #[.nilIface, .bool false]), (26, .iface 181 (.agg #[.int .i64 a0, .iface 30 (.int .i64 a0_1)])), (27, .tuple #[.nilIface, .bool false]), (28, .nilIface), (29, .bool false), (30, .bool false), (31, .bool false), (32, .tuple #[]), (33, .tuple #[]), (34, .tuple #[]), (35, .bool false), (36, .iface 181 (.agg #[.int .i64 a0, .iface 30 (.int .i64 a0_1)])), (37, .tuple #[.iface 181 (.agg #[.int .i64 a0, .iface 30 (.int .i64 a0_1)]), .bool true]), (38, .bool true), (39, .iface 181 (.agg #[.int .i64 a0, .iface 30 (.int .i64 a0_1)])), (40, .iface 181 (.agg #[.int .i64 a0, .iface 30 (.int .i64 a0_1)])), (41, .iface 30 (.int .i64 r3))]) (fun _ => [(b_0, .cells #[.int .i64 a1] 30 (0, 0)), (b_1, .cells #[.pointer (some ⟨b_0, 0, none⟩)] 175 (0, 0)), (b1, .cells #[.pointer (some ⟨2, 175, none⟩), .pointer (some ⟨b_1, 0, none⟩), .int .u64 150] 106 (0, 0))]) (fun _ => []) (fun _ => by kernel_rfl) (fun _ => ?_)
  refine WP.done ?_
  refine WP.seq ?_
  refine WP.run [] [0, 1, 3, 6, 8, 9, 10, 11, 16, 17, 18, 19, 25, 26, 27, 28, 29, 30, 31, 32, 33, 34, 35, 36, 37, 38, 39, 40, 41, 42, 43] (fun _ => [(0, .iface 30 (.int .i64 r3)), (1, .iface 175 (.pointer (some ⟨b_0, 0, none⟩))), (3, .iface 148 (.agg #[.pointer (some ⟨2, 30, none⟩)])), (6, .pointer (some ⟨b1, 0, none⟩)), (8, .bool false), (9, .nilIface), (10, .bool false), (11, .iface 181 (.agg #[.int .i64 a0, .iface 30 (.int .i64 a0_1)])), (16, .iface 181 (.agg #[.int .i64 a0, .iface 30 (.int .i64 a0_1)])), (17, .iface 148 (.agg #[.pointer (some ⟨2, 181, none⟩)])), (18, .iface 148 (.agg #[.pointer (some ⟨2, 30, none⟩)])), (19, .bool false), (25, .tuple #[.nilIface, .bool false]), (26, .iface 181 (.agg #[.int .i64 a0, .iface 30 (.int .i64 a0_1)])), (27, .tuple #[.nilIface, .bool false]), (28, .nilIface), (29, .bool false), (30, .bool false), (31, .bool false), (32, .tuple #[]), (33, .tuple #[]), (34, .tuple #[]), (35, .bool false), (36, .iface 181 (.agg #[.int .i64 a0, .iface 30 (.int .i64 a0_1)])), (37, .tuple #[.iface 181 (.agg #[.int .i64 a0, .iface 30 (.int .i64 a0_1)]), .bool true]), (38, .bool true), (39, .iface 181 (.agg #[.int .i64 a0, .iface 30 (.int .i64 a0_1)])), (40, .iface 181 (.agg #[.int .i64 a0, .iface 30 (.int .i64 a0_1)])), (41, .iface 30 (.int .i64 r3)), (42, .iface 30 (.int .i64 r3)), (43, .bool false)]) (fun _ => [(b_0, .cells #[.int .i64 a1] 30 (0, 0)), (b_1, .cells #[.pointer (some ⟨b_0, 0, none⟩)] 175 (0, 0)), (b1, .cells #[.pointer (some ⟨2, 175, none⟩), .pointer (some ⟨b_1, 0, none⟩), .int .u64 150] 106 (0, 0))]) (fun _ => []) (fun _ => by kernel_rfl) (fun _ => ?_)
  refine WP.no rfl rfl ?_
  refine WP.skip ?_
  refine WP.leave ?_
  refine WP.leave ?_
  refine WP.round ?_
  refine WP.block ?_
  refine WP.seq ?_
  refine WP.seq ?_
  refine WP.run [] [0, 1, 3, 6, 8, 9, 10, 11, 16, 17, 18, 19, 25, 26, 27, 28, 29, 30, 31, 32, 33, 34, 35, 36, 37, 38, 39, 40, 41, 42, 43] (fun _ => [(0, .iface 30 (.int .i64 r3)), (1, .iface 175 (.pointer (some ⟨b_0, 0, none⟩))), (3, .iface 148 (.agg #[.pointer (some ⟨2, 30, none⟩)])), (6, .pointer (some ⟨b1, 0, none⟩)), (8, .bool false), (9, .nilIface), (10, .bool false), (11, .iface 181 (.agg #[.int .i64 a0, .iface 30 (.int .i64 a0_1)])), (16, .iface 30 (.int .i64 r3)), (17, .iface 148 (.agg #[.pointer (some ⟨2, 30, none⟩)])), (18, .iface 148 (.agg #[.pointer (some ⟨2, 30, none⟩)])), (19, .bool true), (25, .tuple #[.nilIface, .bool false]), (26, .iface 181 (.agg #[.int .i64 a0, .iface 30 (.int .i64 a0_1)])), (27, .tuple #[.nilIface, .bool false]), (28, .nilIface), (29, .bool false), (30, .bool false), (31, .bool false), (32, .tuple #[]), (33, .tuple #[]), (34, .tuple #[]), (35, .bool false), (36, .iface 181 (.agg #[.int .i64 a0, .iface 30 (.int .i64 a0_1)])), (37, .tuple #[.iface 181 (.agg #[.int .i64 a0, .iface 30 (.int .i64 a0_1)]), .bool true]), (38, .bool true), (39, .iface 181 (.agg #[.int .i64 a0, .iface 30 (.int .i64 a0_1)])), (40, .iface 181 (.agg #[.int .i64 a0, .iface 30 (.int .i64 a0_1)])), (41, .iface 30 (.int .i64 r3)), (42, .iface 30 (.int .i64 r3)), (43, .bool false)]) (fun _ => [(b_0, .cells #[.int .i64 a1] 30 (0, 0)), (b_1, .cells #[.pointer (some ⟨b_0, 0, none⟩)] 175 (0, 0)), (b1, .cells #[.pointer (some ⟨2, 175, none⟩), .pointer (some ⟨b_1, 0, none⟩), .int .u64 150] 106 (0, 0))]) (fun _ => []) (fun _ => by kernel_rfl) (fun _ => ?_)
  refine WP.yes rfl rfl ?_
  refine WP.seq ?_
  refine WP.run [2, 2, 2, 1, 3, 0] [0, 1, 3, 6, 8, 9, 10, 11, 16, 17, 18, 19, 20, 21, 22, 23, 25, 26, 27, 28, 29, 30, 31, 32, 33, 34, 35, 36, 37, 38, 39, 40, 41, 42, 43] (fun b5 => [(0, .iface 30 (.int .i64 r3)), (1, .iface 175 (.pointer (some ⟨b_0, 0, none⟩))), (3, .iface 148 (.agg #[.pointer (some ⟨2, 30, none⟩)])), (6, .pointer (some ⟨b1, 0, none⟩)), (8, .bool false), (9, .nilIface), (10, .bool false), (11, .iface 181 (.agg #[.int .i64 a0, .iface 30 (.int .i64 a0_1)])), (16, .iface 30 (.int .i64 r3)), (17, .iface 148 (.agg #[.pointer (some ⟨2, 30, none⟩)])), (18, .iface 148 (.agg #[.pointer (some ⟨2, 30, none⟩)])), (19, .bool true), (20, .agg #[.pointer (some ⟨2, 175, none⟩), .pointer (some ⟨b_1, 0, none⟩), .int .u64 150]), (21, .agg #[.pointer (some ⟨2, 30, none⟩), .pointer (some ⟨b_0, 0, none⟩), .int .u64 386]), (22, .iface 30 (.int .i64 r3)), (23, .agg #[.pointer (some ⟨2, 30, none⟩), .pointer (some ⟨b5, 0, none⟩), .int .u64 130]), (25, .tuple #[.nilIface, .bool false]), (26, .iface 181 (.agg #[.int .i64 a0, .iface 30 (.int .i64 a0_1)])), (27, .tuple #[.nilIface, .bool false]), (28, .nilIface), (29, .bool false), (30, .bool false), (31, .bool false), (32, .tuple #[]), (33, .tuple #[]), (34, .tuple #[]), (35, .bool false), (36, .iface 181 (.agg #[.int .i64 a0, .iface 30 (.int .i64 a0_1)])), (37, .tuple #[.iface 181 (.agg #[.int .i64 a0, .iface 30 (.int .i64 a0_1)]), .bool true]), (38, .bool true), (39, .iface 181 (.agg #[.int .i64 a0, .iface 30 (.int .i64 a0_1)])), (40, .iface 181 (.agg #[.int .i64 a0, .iface 30 (.int .i64 a0_1)])), (41, .iface 30 (.int .i64 r3)), (42, .iface 30 (.int .i64 r3)), (43, .bool false)]) (fun b5 => [(b_0, .cells #[.int .i64 r3] 30 (0, 0)), (b_1, .cells #[.pointer (some ⟨b_0, 0, none⟩)] 175 (0, 0)), (b1, .cells #[.pointer (some ⟨2, 175, none⟩), .pointer (some ⟨b_1, 0, none⟩), .int .u64 150] 106 (0, 0)), (b5, .cells #[.int .i64 r3] 30 (0, 0))]) (fun b5 => [b_0, b5, b_1, b1, b1, b1]) (fun b5 => by kernel_rfl) (fun b5 => ?_)
  refine WP.seq ?_
  refine WP.run [] [0, 1, 3, 6, 8, 9, 10, 11, 16, 17, 18, 19, 20, 21, 22, 23, 25, 26, 27, 28, 29, 30, 31, 32, 33, 34, 35, 36, 37, 38, 39, 40, 41, 42, 43] (fun _ => [(0, .iface 30 (.int .i64 r3)), (1, .iface 175 (.pointer (some ⟨b_0, 0, none⟩))), (3, .iface 148 (.agg #[.pointer (some ⟨2, 30, none⟩)])), (6, .pointer (some ⟨b1, 0, none⟩)), (8, .bool true), (9, .nilIface), (10, .bool false), (11, .iface 181 (.agg #[.int .i64 a0, .iface 30 (.int .i64 a0_1)])), (16, .iface 30 (.int .i64 r3)), (17, .iface 148 (.agg #[.pointer (some ⟨2, 30, none⟩)])), (18, .iface 148 (.agg #[.pointer (some ⟨2, 30, none⟩)])), (19, .bool true), (20, .agg #[.pointer (some ⟨2, 175, none⟩), .pointer (some ⟨b_1, 0, none⟩), .int .u64 150]), (21, .agg #[.pointer (some ⟨2, 30, none⟩), .pointer (some ⟨b_0, 0, none⟩), .int .u64 386]), (22, .iface 30 (.int .i64 r3)), (23, .agg #[.pointer (some ⟨2, 30, none⟩), .pointer (some ⟨b5, 0, none⟩), .int .u64 130]), (25, .tuple #[.nilIface, .bool false]), (26, .iface 181 (.agg #[.int .i64 a0, .iface 30 (.int .i64 a0_1)])), (27, .tuple #[.nilIface, .bool false]), (28, .nilIface), (29, .bool false), (30, .bool false), (31, .bool false), (32, .tuple #[]), (33, .tuple #[]), (34, .tuple #[]), (35, .bool false), (36, .iface 181 (.agg #[.int .i64 a0, .iface 30 (.int .i64 a0_1)])), (37, .tuple #[.iface 181 (.agg #[.int .i64 a0, .iface 30 (.int .i64 a0_1)]), .bool true]), (38, .bool true), (39, .iface 181 (.agg #[.int .i64 a0, .iface 30 (.int .i64 a0_1)])), (40, .iface 181 (.agg #[.int .i64 a0, .iface 30 (.int .i64 a0_1)])), (41, .iface 30 (.int .i64 r3)), (42, .iface 30 (.int .i64 r3)), (43, .bool false)]) (fun _ => [(b_0, .cells #[.int .i64 r3] 30 (0, 0)), (b_1, .cells #[.pointer (some ⟨b_0, 0, none⟩)] 175 (0, 0)), (b1, .cells #[.pointer (some ⟨2, 175, none⟩), .pointer (some ⟨b_1, 0, none⟩), .int .u64 150] 106 (0, 0)), (b5, .cells #[.int .i64 r3] 30 (0, 0))]) (fun _ => []) (fun _ => by kernel_rfl) (fun _ => ?_)
  obtain rfl := Option.some.inj hM
  exact WP.ret [] [] (.bool true) (by kernel_rfl) (fun w' hw => ⟨(), rfl, hw.pick [0, 1] (by kernel_rfl)⟩)

end Go.Proofs.YtbodofjnfmjbpaaGreatDoor

namespace Go.Proofs.YtbodofjnfmjbpaaGreatDoor
open Go Eng
set_option linter.unusedVariables false
set_option linter.unusedSimpArgs false

/-! ### errors.As: function 34 -/
def errors_As.f (a0 : Int) (a0_1 : Int) (a1 : Int) : Option (Bool × Int) :=
  (errors_as.f a0 a0_1 a1).bind fun (r2, r3) =>
  some (r2, r3)

set_option maxRecDepth 100000 in
theorem errors_As_calls (b_0 : Nat) (a0 : Int) (a0_1 : Int) (a1 : Int) (r : Bool × Int) (h : errors_As.f a0 a0_1 a1 = some r) : Does Tryz.prog 34 #[.iface 181 (.agg #[.int .i64 a0, .iface 30 (.int .i64 a0_1)]), .iface 175 (.pointer (some ⟨b_0, 0, none⟩))] [(b_0, .cells #[.int .i64 a1] 30 (0, 0))] Glob (fun _ : Unit => .bool r.1) (fun _ => [(b_0, .cells #[.int .i64 r.2] 30 (0, 0))]) (fun _ => []) (fun _ => Glob) := by
  intro w Z hS
  refine calls_of (args := [.iface 181 (.agg #[.int .i64 a0, .iface 30 (.int .i64 a0_1)]), .iface 175 (.pointer (some ⟨b_0, 0, none⟩))]) (L := [(0, .iface 181 (.agg #[.int .i64 a0, .iface 30 (.int .i64 a0_1)])), (1, .iface 175 (.pointer (some ⟨b_0, 0, none⟩)))]) (N := 42) (S := Sat w Z [(b_0, .cells #[.int .i64 a1] 30 (0, 0))] [] Glob) Tryz.func34 rfl rfl (Nat.le_of_ble_eq_true rfl) rfl hS ?_
  have hM := h
  clear h hS
  unfold errors_As.f at hM
  refine WP.seq ?_
  refine WP.run [] [0, 1, 4] (fun _ => [(0, .iface 181 (.agg #[.int .i64 a0, .iface 30 (.int .i64 a0_1)])), (1, .iface 175 (.pointer (some ⟨b_0, 0, none⟩))), (4, .bool false)]) (fun _ => [(b_0, .cells #[.int .i64 a1] 30 (0, 0))]) (fun _ => []) (fun _ => by kernel_rfl) (fun _ => ?_)
  refine WP.seq ?_
  refine WP.seq ?_
  refine WP.run [] [0, 1, 4, 9] (fun _ => [(0, .iface 181 (.agg #[.int .i64 a0, .iface 30 (.int .i64 a0_1)])), (1, .iface 175 (.pointer (some ⟨b_0, 0, none⟩))), (4, .bool false), (9, .bool false)]) (fun _ => [(b_0, .cells #[.int .i64 a1] 30 (0, 0))]) (fun _ => []) (fun _ => by kernel_rfl) (fun _ => ?_)
  refine WP.no rfl rfl ?_
  refine WP.skip ?_
  refine WP.seq ?_
  refine WP.seq ?_
  refine WP.run [] [0, 1, 4, 11] (fun _ => [(0, .iface 181 (.agg #[.int .i64 a0, .iface 30 (.int .i64 a0_1)])), (1, .iface 175 (.pointer (some ⟨b_0, 0, none⟩))), (4, .bool false), (11, .bool false)]) (fun _ => [(b_0, .cells #[.int .i64 a1] 30 (0, 0))]) (fun _ => []) (fun _ => by kernel_rfl) (fun _ => ?_)
  refine WP.no rfl rfl ?_
  refine WP.skip ?_
  refine WP.seq ?_
  refine WP.run [2, 2, 2] [0, 1, 4, 5] (fun b1 => [(0, .iface 181 (.agg #[.int .i64 a0, .iface 30 (.int .i64 a0_1)])), (1, .iface 175 (.pointer (some ⟨b_0, 0, none⟩))), (4, .bool false), (5, .pointer (some ⟨(b1 + 1), 0, none⟩))]) (fun b1 => [(b_0, .cells #[.int .i64 a1] 30 (0, 0)), (b1, .cells #[.pointer (some ⟨b_0, 0, none⟩)] 175 (0, 0)), ((b1 + 1), .cells #[.pointer (some ⟨2, 175, none⟩), .pointer (some ⟨b1, 0, none⟩), .int .u64 150] 106 (0, 0))]) (fun b1 => [(b1 + 1), (b1 + 1), (b1 + 1)]) (fun b1 => by kernel_rfl) (fun b1 => ?_)
  refine WP.seq ?_
  refine WP.run [2, 2, 2] [0, 1, 4, 5, 6] (fun _ => [(0, .iface 181 (.agg #[.int .i64 a0, .iface 30 (.int .i64 a0_1)])), (1, .iface 175 (.pointer (some ⟨b_0, 0, none⟩))), (4, .bool false), (5, .pointer (some ⟨(b1 + 1), 0, none⟩)), (6, .iface 148 (.agg #[.pointer (some ⟨2, 175, none⟩)]))]) (fun _ => [(b_0, .cells #[.int .i64 a1] 30 (0, 0)), (b1, .cells #[.pointer (some ⟨b_0, 0, none⟩)] 175 (0, 0)), ((b1 + 1), .cells #[.pointer (some ⟨2, 175, none⟩), .pointer (some ⟨b1, 0, none⟩), .int .u64 150] 106 (0, 0))]) (fun _ => [(b1 + 1), (b1 + 1), (b1 + 1)]) (fun _ => by kernel_rfl) (fun _ => ?_)
  refine WP.seq ?_
  refine WP.seq ?_
  refine WP.run [2, 2, 2, 1] [0, 1, 4, 5, 6, 23] (fun _ => [(0, .iface 181 (.agg #[.int .i64 a0, .iface 30 (.int .i64 a0_1)])), (1, .iface 175 (.pointer (some ⟨b_0, 0, none⟩))), (4, .bool false), (5, .pointer (some ⟨(b1 + 1), 0, none⟩)), (6, .iface 148 (.agg #[.pointer (some ⟨2, 175, none⟩)])), (23, .bool false)]) (fun _ => [(b_0, .cells #[.int .i64 a1] 30 (0, 0)), (b1, .cells #[.pointer (some ⟨b_0, 0, none⟩)] 175 (0, 0)), ((b1 + 1), .cells #[.pointer (some ⟨2, 175, none⟩), .pointer (some ⟨b1, 0, none⟩), .int .u64 150] 106 (0, 0))]) (fun _ => [b1, (b1 + 1), (b1 + 1), (b1 + 1)]) (fun _ => by kernel_rfl) (fun _ => ?_)
  refine WP.no rfl rfl ?_
  refine WP.skip ?_
  refine WP.seq ?_
  refine WP.run [] [0, 1, 4, 5, 7] (fun _ => [(0, .iface 181 (.agg #[.int .i64 a0, .iface 30 (.int .i64 a0_1)])), (1, .iface 175 (.pointer (some ⟨b_0, 0, none⟩))), (4, .bool false), (5, .pointer (some ⟨(b1 + 1), 0, none⟩)), (7, .iface 148 (.agg #[.pointer (some ⟨2, 30, none⟩)]))]) (fun _ => [(b_0, .cells #[.int .i64 a1] 30 (0, 0)), (b1, .cells #[.pointer (some ⟨b_0, 0, none⟩)] 175 (0, 0)), ((b1 + 1), .cells #[.pointer (some ⟨2, 175, none⟩), .pointer (some ⟨b1, 0, none⟩), .int .u64 150] 106 (0, 0))]) (fun _ => []) (fun _ => by kernel_rfl) (fun _ => ?_)
  refine WP.seq ?_
  refine WP.seq ?_
  refine WP.region ?_
  refine WL.run 5 [] [0, 1, 4, 5, 7, 30, 31] (fun _ => [(0, .iface 181 (.agg #[.int .i64 a0, .iface 30 (.int .i64 a0_1)])), (1, .iface 175 (.pointer (some ⟨b_0, 0, none⟩))), (4, .bool false), (5, .pointer (some ⟨(b1 + 1), 0, none⟩)), (7, .iface 148 (.agg #[.pointer (some ⟨2, 30, none⟩)])), (30, .bool true), (31, .iface 148 (.agg #[.pointer (some ⟨2, 30, none⟩)]))]) (fun _ => [(b_0, .cells #[.int .i64 a1] 30 (0, 0)), (b1, .cells #[.pointer (some ⟨b_0, 0, none⟩)] 175 (0, 0)), ((b1 + 1), .cells #[.pointer (some ⟨2, 175, none⟩), .pointer (some ⟨b1, 0, none⟩), .int .u64 150] 106 (0, 0))]) (fun _ => []) (fun _ => by kernel_rfl) (fun _ => ?_)
  refine WL.loadGlob (v := .iface 148 (.agg #[.pointer (some ⟨2, 73, none⟩)])) (by simp [Glob]) (fun _ => by kernel_rfl) (by kernel_rfl) rfl ?_
  refine WL.run 3 [] [0, 1, 4, 5, 7, 35] (fun _ => [(0, .iface 181 (.agg #[.int .i64 a0, .iface 30 (.int .i64 a0_1)])), (1, .iface 175 (.pointer (some ⟨b_0, 0, none⟩))), (4, .bool false), (5, .pointer (some ⟨(b1 + 1), 0, none⟩)), (7, .iface 148 (.agg #[.pointer (some ⟨2, 30, none⟩)])), (35, .bool false)]) (fun _ => [(b_0, .cells #[.int .i64 a1] 30 (0, 0)), (b1, .cells #[.pointer (some ⟨b_0, 0, none⟩)] 175 (0, 0)), ((b1 + 1), .cells #[.pointer (some ⟨2, 175, none⟩), .pointer (some ⟨b1, 0, none⟩), .int .u64 150] 106 (0, 0))]) (fun _ => []) (fun _ => by kernel_rfl) (fun _ => ?_)
  refine WP.done ?_
  refine WP.no rfl rfl ?_
  refine WP.skip ?_
  refine WP.seq ?_
  refine WP.region ?_
  refine WL.run 4 [2, 2, 2] [4, 37, 38, 39, 40] (fun _ => [(4, .bool false), (37, .iface 181 (.agg #[.int .i64 a0, .iface 30 (.int .i64 a0_1)])), (38, .iface 175 (.pointer (some ⟨b_0, 0, none⟩))), (39, .agg #[.pointer (some ⟨2, 175, none⟩), .pointer (some ⟨b1, 0, none⟩), .int .u64 150]), (40, .iface 148 (.agg #[.pointer (some ⟨2, 30, none⟩)]))]) (fun _ => [(b_0, .cells #[.int .i64 a1] 30 (0, 0)), (b1, .cells #[.pointer (some ⟨b_0, 0, none⟩)] 175 (0, 0)), ((b1 + 1), .cells #[.pointer (some ⟨2, 175, none⟩), .pointer (some ⟨b1, 0, none⟩), .int .u64 150] 106 (0, 0))]) (fun _ => [(b1 + 1), (b1 + 1), (b1 + 1)]) (fun _ => by kernel_rfl) (fun _ => ?_)
  obtain ⟨⟨r2, r3⟩, h4, hM⟩ := bind_some hM
  dsimp only at hM
  refine WL.callE (X := Unit) [] [] [true, true, false] (fun _ => _) (errors_as_calls b_0 b1 a0 a0_1 a1 _ h4) rfl rfl (fun _ h => h) (by kernel_rfl) (by kernel_rfl) (fun _ => rfl) (fun _ => ?_)
  refine WL.run 1 [] [4] (fun _ => [(4, .bool r2)]) (fun _ => [(b_0, .cells #[.int .i64 r3] 30 (0, 0)), (b1, .cells #[.pointer (some ⟨b_0, 0, none⟩)] 175 (0, 0)), ((b1 + 1), .cells #[.pointer (some ⟨2, 175, none⟩), .pointer (some ⟨b1, 0, none⟩), .int .u64 150] 106 (0, 0))]) (fun _ => []) (fun _ => by kernel_rfl) (fun _ => ?_)
  refine WP.done ?_
  refine WP.keep [true, false, false] (by kernel_rfl : _ = [(b_0, .cells #[.int .i64 r3] 30 (0, 0))]) ?_
  obtain rfl := Option.some.inj hM
  exact WP.ret [] [] (.bool r2) (by kernel_rfl) (fun w' hw => ⟨(), rfl, hw.pick [0] (by kernel_rfl)⟩)

end Go.Proofs.YtbodofjnfmjbpaaGreatDoor

namespace Go.Proofs.YtbodofjnfmjbpaaGreatDoor
open Go Eng
set_option linter.unusedVariables false
set_option linter.unusedSimpArgs false

/-! ### gangway/octets.number: function 102 -/
def octets_number.f (a0 : Int) (a0_1 : Int) : Option (Int) :=
  (errors_As.f a0 a0_1 0).bind fun (r2, r3) =>
  bif r2 then
    some r3
  else
    some 0

set_option maxRecDepth 100000 in
theorem octets_number_calls (a0 : Int) (a0_1 : Int) (r : Int) (h : octets_number.f a0 a0_1 = some r) : Pure Tryz.prog Glob 102 #[.iface 181 (.agg #[.int .i64 a0, .iface 30 (.int .i64 a0_1)])] (.int .i64 r) := by
  intro w Z hS
  refine calls_of (args := [.iface 181 (.agg #[.int .i64 a0, .iface 30 (.int .i64 a0_1)])]) (L := [(0, .iface 181 (.agg #[.int .i64 a0, .iface 30 (.int .i64 a0_1)]))]) (N := 12) (S := Sat w Z [] [] Glob) Tryz.func102 rfl rfl (Nat.le_of_ble_eq_true rfl) rfl hS ?_
  have hM := h
  clear h hS
  unfold octets_number.f at hM
  refine WP.seq ?_
  refine WP.run [] [0, 2] (fun _ => [(0, .iface 181 (.agg #[.int .i64 a0, .iface 30 (.int .i64 a0_1)])), (2, .int .i64 0)]) (fun _ => []) (fun _ => []) (fun _ => by kernel_rfl) (fun _ => ?_)
  refine WP.seq ?_
  refine WP.run [] [0, 2, 3] (fun b1 => [(0, .iface 181 (.agg #[.int .i64 a0, .iface 30 (.int .i64 a0_1)])), (2, .int .i64 0), (3, .pointer (some ⟨b1, 0, none⟩))]) (fun b1 => [(b1, .cells #[.int .i64 0] 30 (0, 0))]) (fun b1 => []) (fun b1 => by kernel_rfl) (fun b1 => ?_)
  refine WP.seq ?_
  refine WP.seq ?_
  refine WP.region ?_
  refine WL.run 5 [] [2, 3, 6, 7, 8] (fun _ => [(2, .int .i64 0), (3, .pointer (some ⟨b1, 0, none⟩)), (6, .bool true), (7, .iface 181 (.agg #[.int .i64 a0, .iface 30 (.int .i64 a0_1)])), (8, .iface 175 (.pointer (some ⟨b1, 0, none⟩)))]) (fun _ => [(b1, .cells #[.int .i64 0] 30 (0, 0))]) (fun _ => []) (fun _ => by kernel_rfl) (fun _ => ?_)
  obtain ⟨⟨r2, r3⟩, h4, hM⟩ := bind_some hM
  dsimp only at hM
  refine WL.callE (X := Unit) [] [] [true] (fun _ => _) (errors_As_calls b1 a0 a0_1 0 _ h4) rfl rfl (fun _ h => h) (by kernel_rfl) (by kernel_rfl) (fun _ => rfl) (fun _ => ?_)
  refine WL.run 1 [] [2, 3, 10] (fun _ => [(2, .int .i64 0), (3, .pointer (some ⟨b1, 0, none⟩)), (10, .bool r2)]) (fun _ => [(b1, .cells #[.int .i64 r3] 30 (0, 0))]) (fun _ => []) (fun _ => by kernel_rfl) (fun _ => ?_)
  refine WP.done ?_
  refine WP.cond r2 rfl rfl (fun c5 => ?_) (fun c5 => ?_)
  · replace hM := cond_t hM c5
    refine WP.seq ?_
    refine WP.run [0] [2] (fun _ => [(2, .int .i64 r3)]) (fun _ => [(b1, .cells #[.int .i64 r3] 30 (0, 0))]) (fun _ => [b1]) (fun _ => by kernel_rfl) (fun _ => ?_)
    refine WP.keep [false] (by kernel_rfl : _ = []) ?_
    obtain rfl := Option.some.inj hM
    exact WP.ret [] [] (.int .i64 r3) (by kernel_rfl) (fun w' hw => ⟨rfl, hw.pick [] rfl⟩)
  · replace hM := cond_f hM c5
    refine WP.skip ?_
    refine WP.seq ?_
    refine WP.run [] [2] (fun _ => [(2, .int .i64 0)]) (fun _ => [(b1, .cells #[.int .i64 r3] 30 (0, 0))]) (fun _ => []) (fun _ => by kernel_rfl) (fun _ => ?_)
    refine WP.keep [false] (by kernel_rfl : _ = []) ?_
    obtain rfl := Option.some.inj hM
    exact WP.ret [] [] (.int .i64 0) (by kernel_rfl) (fun w' hw => ⟨rfl, hw.pick [] rfl⟩)

end Go.Proofs.YtbodofjnfmjbpaaGreatDoor

namespace Go.Proofs.YtbodofjnfmjbpaaGreatDoor
open Go Eng
set_option linter.unusedVariables false
set_option linter.unusedSimpArgs false

/-! ### gangway/octets.Get: function 78 -/
def octets_Get.l1 (a2 : Int) (r2 : ByteArray) : Nat → Int → Int → Option (Int × Int)
  | 0, _, _ => none
  | n + 1, x9, x10 =>
    bif decide (x10 < a2) then
      (idxS r2 x10).bind fun t12 =>
      octets_Get.l1 a2 r2 n (bOr .u64 (u64 (x9 * 256)) (u64 t12)) (i64 (x10 + 1))
    else
      some (x9, 0)

def octets_Get.f (k : Nat) (a0 : ByteArray) (a1 : Int) (a2 : Int) : Option (Int × Int) :=
  bif ((decide (a2 < 1)) || (decide (a2 > 8))) then
    some (0, 1)
  else
    (octets_part.f a0 a1 a2).bind fun (r2, r3) =>
    match r3 with
    | none =>
      octets_Get.l1 a2 r2 k 0 0
    | some (q5, q6) =>
      (octets_number.f q5 q6).bind fun r7 =>
      some (0, r7)

set_option maxRecDepth 100000 in
theorem octets_Get_calls (k : Nat) (a0 : ByteArray) (a1 : Int) (a2 : Int) (r : Int × Int) (h : octets_Get.f k a0 a1 a2 = some r) : Pure Tryz.prog Glob 78 #[.string a0, .int .i64 a1, .int .i64 a2] (.tuple #[.int .u64 r.1, .int .i64 r.2]) := by
  intro w Z hS
  refine calls_of (args := [.string a0, .int .i64 a1, .int .i64 a2]) (L := [(0, .string a0), (1, .int .i64 a1), (2, .int .i64 a2)]) (N := 42) (S := Sat w Z [] [] Glob) Tryz.func78 rfl rfl (Nat.le_of_ble_eq_true rfl) rfl hS ?_
  have hM := h
  clear h hS
  unfold octets_Get.f at hM
  refine WP.seq ?_
  refine WP.run [] [0, 1, 2, 6, 7] (fun _ => [(0, .string a0), (1, .int .i64 a1), (2, .int .i64 a2), (6, .int .u64 0), (7, .int .i64 0)]) (fun _ => []) (fun _ => []) (fun _ => by kernel_rfl) (fun _ => ?_)
  refine WP.seq ?_
  refine WP.seq ?_
  refine WP.region ?_
  refine WL.run 3 [] [0, 1, 2, 6, 7, 14] (fun _ => [(0, .string a0), (1, .int .i64 a1), (2, .int .i64 a2), (6, .int .u64 0), (7, .int .i64 0), (14, .bool (decide (a2 < 1)))]) (fun _ => []) (fun _ => []) (fun _ => by kernel_rfl) (fun _ => ?_)
  refine WL.sub [0, 1, 2, 6, 7, 14] (L' := [(0, .string a0), (1, .int .i64 a1), (2, .int .i64 a2), (6, .int .u64 0), (7, .int .i64 0), (14, .bool (decide (a2 < 1)))]) (by kernel_rfl) ?_
  refine WL.both (fun b' => [(0, .string a0), (1, .int .i64 a1), (2, .int .i64 a2), (6, .int .u64 0), (7, .int .i64 0), (14, .bool b')]) (decide (a2 < 1)) 3 [] [] [0, 1, 2, 6, 7, 17] (fun b' => [(0, .string a0), (1, .int .i64 a1), (2, .int .i64 a2), (6, .int .u64 0), (7, .int .i64 0), (17, .bool (b' || (decide (a2 > 8))))]) [] [] (fun _ => by kernel_rfl) (fun _ => by kernel_rfl) ?_
  refine WP.done ?_
  refine WP.cond ((decide (a2 < 1)) || (decide (a2 > 8))) rfl rfl (fun c1 => ?_) (fun c1 => ?_)
  · replace hM := cond_t hM c1
    refine WP.seq ?_
    refine WP.run [] [0, 1, 2, 6, 7] (fun _ => [(0, .string a0), (1, .int .i64 a1), (2, .int .i64 a2), (6, .int .u64 0), (7, .int .i64 1)]) (fun _ => []) (fun _ => []) (fun _ => by kernel_rfl) (fun _ => ?_)
    obtain rfl := Option.some.inj hM
    exact WP.ret [] [] (.tuple #[.int .u64 0, .int .i64 1]) (by kernel_rfl) (fun w' hw => ⟨rfl, hw.pick [] rfl⟩)
  · replace hM := cond_f hM c1
    refine WP.skip ?_
    refine WP.seq ?_
    refine WP.region ?_
    refine WL.run 3 [] [2, 6, 7, 19, 20, 21] (fun _ => [(2, .int .i64 a2), (6, .int .u64 0), (7, .int .i64 0), (19, .string a0), (20, .int .i64 a1), (21, .int .i64 a2)]) (fun _ => []) (fun _ => []) (fun _ => by kernel_rfl) (fun _ => ?_)
    obtain ⟨⟨r2, r3⟩, h4, hM⟩ := bind_some hM
    dsimp only at hM
    refine WL.callP [] [] (octets_part_calls a0 a1 a2 _ h4) (fun _ h => h) (by kernel_rfl) (by kernel_rfl) rfl ?_
    refine WL.run 5 [] [2, 6, 7, 8, 9] (fun _ => [(2, .int .i64 a2), (6, .int .u64 0), (7, .int .i64 0), (8, .string r2), (9, Un0.v r3)]) (fun _ => []) (fun _ => []) (fun _ => by kernel_rfl) (fun _ => ?_)
    refine WP.done ?_
    refine WP.seq ?_
    refine WP.seq ?_
    refine WP.region ?_
    refine WL.run 1 [] [2, 6, 7, 8, 9, 25] (fun _ => [(2, .int .i64 a2), (6, .int .u64 0), (7, .int .i64 0), (8, .string r2), (9, Un0.v r3), (25, Un0.v r3)]) (fun _ => []) (fun _ => []) (fun _ => by kernel_rfl) (fun _ => ?_)
    rcases r3 with _ | ⟨q5, q6⟩
    · dsimp only at hM
      refine WL.run 1 [] [2, 6, 7, 8, 9, 26] (fun _ => [(2, .int .i64 a2), (6, .int .u64 0), (7, .int .i64 0), (8, .string r2), (9, .nilIface), (26, .bool false)]) (fun _ => []) (fun _ => []) (fun _ => by kernel_rfl) (fun _ => ?_)
      refine WP.done ?_
      refine WP.no rfl rfl ?_
      refine WP.skip ?_
      refine WP.seq ?_
      refine WP.run [] [2, 6, 7, 8, 10] (fun _ => [(2, .int .i64 a2), (6, .int .u64 0), (7, .int .i64 0), (8, .string r2), (10, .int .u64 0)]) (fun _ => []) (fun _ => []) (fun _ => by kernel_rfl) (fun _ => ?_)
      refine WP.seq ?_
      refine WP.seq ?_
      refine WP.run [] [6, 7, 8, 10, 29, 30] (fun _ => [(6, .int .u64 0), (7, .int .i64 0), (8, .string r2), (10, .int .u64 0), (29, .int .i64 a2), (30, .int .i64 0)]) (fun _ => []) (fun _ => []) (fun _ => by kernel_rfl) (fun _ => ?_)
      refine WP.block ?_
      refine WP.sub [6, 7, 8, 10, 29, 30] (L' := [(6, .int .u64 0), (7, .int .i64 0), (8, .string r2), (10, .int .u64 0), (29, .int .i64 a2), (30, .int .i64 0)]) (by kernel_rfl) ?_
      refine WP.loop (σ := Int × Int) (fun n st => octets_Get.l1 a2 r2 n st.1 st.2) r (fun st => [(6, .int .u64 0), (7, .int .i64 0), (8, .string r2), (10, .int .u64 st.1), (29, .int .i64 a2), (30, .int .i64 st.2)]) (fun st => Sat w Z [] [] Glob) (st := (0, 0)) (fun n st hM => ?_) hM
      rcases n with _ | n
      · exact nomatch (show (none : Option _) = some r from hM)
      obtain ⟨x9, x10⟩ := st
      replace hM : octets_Get.l1 a2 r2 (n + 1) x9 x10 = some r := hM
      rw [octets_Get.l1] at hM
      show WP _ _ _ _ _ [(6, .int .u64 0), (7, .int .i64 0), (8, .string r2), (10, .int .u64 x9), (29, .int .i64 a2), (30, .int .i64 x10)] (Sat w Z [] [] Glob)
      refine WP.seq ?_
      refine WP.run [] [6, 7, 8, 10, 29, 30, 31] (fun _ => [(6, .int .u64 0), (7, .int .i64 0), (8, .string r2), (10, .int .u64 x9), (29, .int .i64 a2), (30, .int .i64 x10), (31, .bool (decide (x10 < a2)))]) (fun _ => []) (fun _ => []) (fun _ => by kernel_rfl) (fun _ => ?_)
      refine WP.seq ?_
      refine WP.cond (decide (x10 < a2)) rfl rfl (fun c11 => ?_) (fun c11 => ?_)
      · replace hM := cond_t hM c11
        refine WP.skip ?_
        refine WP.seq ?_
        refine WP.block ?_
        refine WP.seq ?_
        refine WP.run [] [6, 7, 8, 10, 11, 29, 30, 31, 32] (fun _ => [(6, .int .u64 0), (7, .int .i64 0), (8, .string r2), (10, .int .u64 x9), (11, .int .i64 x10), (29, .int .i64 a2), (30, .int .i64 x10), (31, .bool (decide (x10 < a2))), (32, .int .i64 x10)]) (fun _ => []) (fun _ => []) (fun _ => by kernel_rfl) (fun _ => ?_)
        refine WP.region ?_
        refine WL.run 4 [] [6, 7, 8, 10, 11, 29, 30, 31, 32, 33, 34, 35, 36] (fun _ => [(6, .int .u64 0), (7, .int .i64 0), (8, .string r2), (10, .int .u64 x9), (11, .int .i64 x10), (29, .int .i64 a2), (30, .int .i64 x10), (31, .bool (decide (x10 < a2))), (32, .int .i64 x10), (33, .int .u64 x9), (34, .int .u64 (u64 (x9 * 256))), (35, .string r2), (36, .int .i64 x10)]) (fun _ => []) (fun _ => []) (fun _ => by kernel_rfl) (fun _ => ?_)
        obtain ⟨t12, h13, hM⟩ := bind_some hM
        refine WL.val (fun _ => run_idxS (s := r2) (k := .i64) (i := x10) (by kernel_rfl) (by kernel_rfl) (by kernel_rfl) h13) (by kernel_rfl) (by kernel_rfl) rfl ?_
        refine WL.run 3 [] [6, 7, 8, 10, 11, 29, 30, 31, 32, 33, 34, 35, 36, 37, 38, 39] (fun _ => [(6, .int .u64 0), (7, .int .i64 0), (8, .string r2), (10, .int .u64 (bOr .u64 (u64 (x9 * 256)) (u64 t12))), (11, .int .i64 x10), (29, .int .i64 a2), (30, .int .i64 x10), (31, .bool (decide (x10 < a2))), (32, .int .i64 x10), (33, .int .u64 x9), (34, .int .u64 (u64 (x9 * 256))), (35, .string r2), (36, .int .i64 x10), (37, .int .u8 t12), (38, .int .u64 (u64 t12)), (39, .int .u64 (bOr .u64 (u64 (x9 * 256)) (u64 t12)))]) (fun _ => []) (fun _ => []) (fun _ => by kernel_rfl) (fun _ => ?_)
        refine WP.done ?_
        refine WP.leave ?_
        refine WP.run [] [6, 7, 8, 10, 11, 29, 30, 31, 32, 33, 34, 35, 36, 37, 38, 39, 40] (fun _ => [(6, .int .u64 0), (7, .int .i64 0), (8, .string r2), (10, .int .u64 (bOr .u64 (u64 (x9 * 256)) (u64 t12))), (11, .int .i64 x10), (29, .int .i64 a2), (30, .int .i64 (i64 (x10 + 1))), (31, .bool (decide (x10 < a2))), (32, .int .i64 x10), (33, .int .u64 x9), (34, .int .u64 (u64 (x9 * 256))), (35, .string r2), (36, .int .i64 x10), (37, .int .u8 t12), (38, .int .u64 (u64 t12)), (39, .int .u64 (bOr .u64 (u64 (x9 * 256)) (u64 t12))), (40, .int .i64 (i64 (x10 + 1)))]) (fun _ => []) (fun _ => []) (fun _ => by kernel_rfl) (fun _ => ?_)
        exact WP.again' [6, 7, 8, 10, 29, 30] (bOr .u64 (u64 (x9 * 256)) (u64 t12), i64 (x10 + 1)) hM (by kernel_rfl) (fun _ h => h.pick [] (by kernel_rfl))
      · replace hM := cond_f hM c11
        refine WP.exit rfl ?_
        refine WP.seq ?_
        refine WP.run [] [6, 7] (fun _ => [(6, .int .u64 x9), (7, .int .i64 0)]) (fun _ => []) (fun _ => []) (fun _ => by kernel_rfl) (fun _ => ?_)
        obtain rfl := Option.some.inj hM
        exact WP.ret [] [] (.tuple #[.int .u64 x9, .int .i64 0]) (by kernel_rfl) (fun w' hw => ⟨rfl, hw.pick [] rfl⟩)
    · dsimp only at hM
      refine WL.run 1 [] [2, 6, 7, 8, 9, 26] (fun _ => [(2, .int .i64 a2), (6, .int .u64 0), (7, .int .i64 0), (8, .string r2), (9, .iface 181 (.agg #[.int .i64 q5, .iface 30 (.int .i64 q6)])), (26, .bool true)]) (fun _ => []) (fun _ => []) (fun _ => by kernel_rfl) (fun _ => ?_)
      refine WP.done ?_
      refine WP.yes rfl rfl ?_
      refine WP.seq ?_
      refine WP.region ?_
      refine WL.run 1 [] [2, 6, 7, 8, 27] (fun _ => [(2, .int .i64 a2), (6, .int .u64 0), (7, .int .i64 0), (8, .string r2), (27, .iface 181 (.agg #[.int .i64 q5, .iface 30 (.int .i64 q6)]))]) (fun _ => []) (fun _ => []) (fun _ => by kernel_rfl) (fun _ => ?_)
      obtain ⟨r7, h8, hM⟩ := bind_some hM
      refine WL.callP [] [] (octets_number_calls q5 q6 _ h8) (fun _ h => h) (by kernel_rfl) (by kernel_rfl) rfl ?_
      refine WL.run 2 [] [2, 6, 7, 8] (fun _ => [(2, .int .i64 a2), (6, .int .u64 0), (7, .int .i64 r7), (8, .string r2)]) (fun _ => []) (fun _ => []) (fun _ => by kernel_rfl) (fun _ => ?_)
      refine WP.done ?_
      obtain rfl := Option.some.inj hM
      exact WP.ret [] [] (.tuple #[.int .u64 0, .int .i64 r7]) (by kernel_rfl) (fun w' hw => ⟨rfl, hw.pick [] rfl⟩)

end Go.Proofs.YtbodofjnfmjbpaaGreatDoor

namespace Go.Proofs.YtbodofjnfmjbpaaGreatDoor
open Go Eng
set_option linter.unusedVariables false
set_option linter.unusedSimpArgs false

/-! ### gangway/vxlan.Parse: function 47 -/
def vxlan_Parse.f (k : Nat) (a0 : ByteArray) : Option (Int × ByteArray × Int) :=
  bif decide ((a0.size : Int) < 8) then
    some (0, (⟨#[]⟩ : ByteArray), 80)
  else
    (idxS a0 0).bind fun t2 =>
    bif ((bAnd .u8 t2 8) == 0) then
      some (0, (⟨#[]⟩ : ByteArray), 81)
    else
      (octets_Get.f k a0 4 3).bind fun (r5, r6) =>
      (sliceS a0 8 (a0.size : Int)).bind fun t8 =>
      some (i64 r5, t8, 0)

set_option maxRecDepth 100000 in
theorem vxlan_Parse_calls (k : Nat) (a0 : ByteArray) (r : Int × ByteArray × Int) (h : vxlan_Parse.f k a0 = some r) : Pure Tryz.prog Glob 47 #[.string a0] (.tuple #[.int .i64 r.1, .string r.2.1, .int .i64 r.2.2]) := by
  intro w Z hS
  refine calls_of (args := [.string a0]) (L := [(0, .string a0)]) (N := 25) (S := Sat w Z [] [] Glob) Tryz.func47 rfl rfl (Nat.le_of_ble_eq_true rfl) rfl hS ?_
  have hM := h
  clear h hS
  unfold vxlan_Parse.f at hM
  refine WP.seq ?_
  refine WP.run [] [0, 2, 3, 4] (fun _ => [(0, .string a0), (2, .int .i64 0), (3, .string (⟨#[]⟩ : ByteArray)), (4, .int .i64 0)]) (fun _ => []) (fun _ => []) (fun _ => by kernel_rfl) (fun _ => ?_)
  refine WP.seq ?_
  refine WP.block ?_
  refine WP.seq ?_
  refine WP.run [] [0, 2, 3, 4, 7] (fun _ => [(0, .string a0), (2, .int .i64 0), (3, .string (⟨#[]⟩ : ByteArray)), (4, .int .i64 0), (7, .bool (decide ((a0.size : Int) < 8)))]) (fun _ => []) (fun _ => []) (fun _ => by kernel_rfl) (fun _ => ?_)
  refine WP.cond (decide ((a0.size : Int) < 8)) rfl rfl (fun c1 => ?_) (fun c1 => ?_)
  · replace hM := cond_t hM c1
    refine WP.seq ?_
    refine WP.run [] [0, 2, 3, 4] (fun _ => [(0, .string a0), (2, .int .i64 0), (3, .string (⟨#[]⟩ : ByteArray)), (4, .int .i64 80)]) (fun _ => []) (fun _ => []) (fun _ => by kernel_rfl) (fun _ => ?_)
    obtain rfl := Option.some.inj hM
    exact WP.ret [] [] (.tuple #[.int .i64 0, .string (⟨#[]⟩ : ByteArray), .int .i64 80]) (by kernel_rfl) (fun w' hw => ⟨rfl, hw.pick [] rfl⟩)
  · replace hM := cond_f hM c1
    refine WP.seq ?_
    refine WP.region ?_
    refine WL.run 1 [] [0, 2, 3, 4, 12] (fun _ => [(0, .string a0), (2, .int .i64 0), (3, .string (⟨#[]⟩ : ByteArray)), (4, .int .i64 0), (12, .string a0)]) (fun _ => []) (fun _ => []) (fun _ => by kernel_rfl) (fun _ => ?_)
    obtain ⟨t2, h3, hM⟩ := bind_some hM
    refine WL.val (fun _ => run_idxS (s := a0) (k := .i64) (i := 0) (by kernel_rfl) (by kernel_rfl) (by kernel_rfl) h3) (by kernel_rfl) (by kernel_rfl) rfl ?_
    refine WL.run 3 [] [0, 2, 3, 4, 11] (fun _ => [(0, .string a0), (2, .int .i64 0), (3, .string (⟨#[]⟩ : ByteArray)), (4, .int .i64 0), (11, .bool ((bAnd .u8 t2 8) == 0))]) (fun _ => []) (fun _ => []) (fun _ => by kernel_rfl) (fun _ => ?_)
    refine WP.done ?_
    refine WP.cond ((bAnd .u8 t2 8) == 0) rfl rfl (fun c4 => ?_) (fun c4 => ?_)
    · replace hM := cond_t hM c4
      refine WP.seq ?_
      refine WP.run [] [0, 2, 3, 4] (fun _ => [(0, .string a0), (2, .int .i64 0), (3, .string (⟨#[]⟩ : ByteArray)), (4, .int .i64 81)]) (fun _ => []) (fun _ => []) (fun _ => by kernel_rfl) (fun _ => ?_)
      obtain rfl := Option.some.inj hM
      exact WP.ret [] [] (.tuple #[.int .i64 0, .string (⟨#[]⟩ : ByteArray), .int .i64 81]) (by kernel_rfl) (fun w' hw => ⟨rfl, hw.pick [] rfl⟩)
    · replace hM := cond_f hM c4
      refine WP.skip ?_
      refine WP.leave ?_
      refine WP.seq ?_
      refine WP.region ?_
      refine WL.run 1 [] [0, 2, 3, 4, 17] (fun _ => [(0, .string a0), (2, .int .i64 0), (3, .string (⟨#[]⟩ : ByteArray)), (4, .int .i64 0), (17, .string a0)]) (fun _ => []) (fun _ => []) (fun _ => by kernel_rfl) (fun _ => ?_)
      obtain ⟨⟨r5, r6⟩, h7, hM⟩ := bind_some hM
      dsimp only at hM
      refine WL.callP [] [] (octets_Get_calls k a0 4 3 _ h7) (fun _ h => h) (by kernel_rfl) (by kernel_rfl) rfl ?_
      refine WL.run 5 [] [0, 2, 3, 4, 5] (fun _ => [(0, .string a0), (2, .int .i64 0), (3, .string (⟨#[]⟩ : ByteArray)), (4, .int .i64 0), (5, .int .u64 r5)]) (fun _ => []) (fun _ => []) (fun _ => by kernel_rfl) (fun _ => ?_)
      refine WP.done ?_
      refine WP.seq ?_
      refine WP.quiet (by kernel_rfl) (by kernel_rfl) ?_
      refine QL.run 3 [] [2, 3, 4, 22, 23] [] [(2, .int .i64 0), (3, .string (⟨#[]⟩ : ByteArray)), (4, .int .i64 0), (22, .int .i64 (i64 r5)), (23, .string a0)] (by kernel_rfl) ?_
      obtain ⟨t8, h9, hM⟩ := bind_some hM
      refine QL.val (fun _ => run_sliceS_lo (s := a0) (kl := .i64) (l := 8) (by kernel_rfl) (by kernel_rfl) (by kernel_rfl) h9) (by kernel_rfl) (by kernel_rfl) rfl ?_
      refine QL.run 3 [] [2, 3, 4] [] [(2, .int .i64 (i64 r5)), (3, .string t8), (4, .int .i64 0)] (by kernel_rfl) ?_
      refine QL.done ?_
      obtain rfl := Option.some.inj hM
      exact WP.ret [] [] (.tuple #[.int .i64 (i64 r5), .string t8, .int .i64 0]) (by kernel_rfl) (fun w' hw => ⟨rfl, hw.pick [] rfl⟩)

end Go.Proofs.YtbodofjnfmjbpaaGreatDoor

namespace Go.Proofs.YtbodofjnfmjbpaaGreatDoor
open Go Eng
set_option linter.unusedVariables false
set_option linter.unusedSimpArgs false

/-! ### gangway/vni.By$1: function 80 -/
def vni_By_1.f (a0 : Int) (a0_1 : Int) (a0_2 : (List Int)) (a1 : Int) : Option (Bool) :=
  some (a0_1 == a1)

set_option maxRecDepth 100000 in
theorem vni_By_1_calls (b_0 : Nat) (A00 : SkL Unit) (a0 : Int) (a0_1 : Int) (a0_2 : (List Int)) (a1 : Int) (r : Bool) (h : vni_By_1.f a0 a0_1 a0_2 a1 = some r) : Does Tryz.prog 80 #[.agg #[.int .i64 a0, .int .i64 a0_1, slcV A00 a0_2.length], .pointer (some ⟨b_0, 0, none⟩)] [(b_0, .cells #[.int .i64 a1] 3 (0, 0))] ([Row 1 (pl (encI .u32)) noK A00 a0_2] ++ Glob) (fun _ : Unit => .bool r) (fun _ => [(b_0, .cells #[.int .i64 a1] 3 (0, 0))]) (fun _ => []) (fun _ => ([Row 1 (pl (encI .u32)) noK A00 a0_2] ++ Glob)) := by
  intro w Z hS
  refine calls_of (args := [.agg #[.int .i64 a0, .int .i64 a0_1, slcV A00 a0_2.length], .pointer (some ⟨b_0, 0, none⟩)]) (L := [(0, .agg #[.int .i64 a0, .int .i64 a0_1, slcV A00 a0_2.length]), (1, .pointer (some ⟨b_0, 0, none⟩))]) (N := 8) (S := Sat w Z [(b_0, .cells #[.int .i64 a1] 3 (0, 0))] [] ([Row 1 (pl (encI .u32)) noK A00 a0_2] ++ Glob)) Tryz.func80 rfl rfl (Nat.le_of_ble_eq_true rfl) rfl hS ?_
  have hM := h
  clear h hS
  unfold vni_By_1.f at hM
  refine WP.seq ?_
  refine WP.run [] [1, 2, 3] (fun b1 => [(1, .pointer (some ⟨b_0, 0, none⟩)), (2, .pointer (some ⟨b1, 0, none⟩)), (3, .bool false)]) (fun b1 => [(b_0, .cells #[.int .i64 a1] 3 (0, 0)), (b1, .cells #[.int .i64 a0, .int .i64 a0_1, slcV A00 a0_2.length] 35 (0, 0))]) (fun b1 => []) (fun b1 => by kernel_rfl) (fun b1 => ?_)
  refine WP.seq ?_
  refine WP.run [1, 0] [3] (fun _ => [(3, .bool (a0_1 == a1))]) (fun _ => [(b_0, .cells #[.int .i64 a1] 3 (0, 0)), (b1, .cells #[.int .i64 a0, .int .i64 a0_1, slcV A00 a0_2.length] 35 (0, 0))]) (fun _ => [b_0, b1]) (fun _ => by kernel_rfl) (fun _ => ?_)
  refine WP.keep [true, false] (by kernel_rfl : _ = [(b_0, .cells #[.int .i64 a1] 3 (0, 0))]) ?_
  obtain rfl := Option.some.inj hM
  exact WP.ret [] [] (.bool (a0_1 == a1)) (by kernel_rfl) (fun w' hw => ⟨(), rfl, (hw.pick [0] (by kernel_rfl)).lessF [0] (by kernel_rfl)⟩)

end Go.Proofs.YtbodofjnfmjbpaaGreatDoor

namespace Go.Proofs.YtbodofjnfmjbpaaGreatDoor
open Go Eng
set_option linter.unusedVariables false
set_option linter.unusedSimpArgs false

/-! ### slices.IndexFunc[[]gangway/api.Seg,gangway/api.Seg]: function 103 -/
def api_Seg.l1 (a0 : (List api_Seg)) (a1 : Int) : Nat → Int → Int → Option (Int)
  | 0, _, _ => none
  | n + 1, x1, x2 =>
    bif decide (x2 < (a0.length : Int)) then
      (getL a0.length a0 x2).bind fun t4 =>
      (vni_By_1.f t4.Vid t4.Vni t4.Peers a1).bind fun r6 =>
      bif r6 then
        some x2
      else
        api_Seg.l1 a0 a1 n x1 (i64 (x2 + 1))
    else
      some (-1)

def api_Seg.f (k : Nat) (a0 : (List api_Seg)) (a1 : Int) : Option (Int) :=
  api_Seg.l1 a0 a1 k 0 0

set_option maxRecDepth 100000 in
theorem api_Seg_calls (k : Nat) (b_0 : Nat) (A00 : SkL (SkL Unit)) (a0 : (List api_Seg)) (a1 : Int) (r : Int) (h : api_Seg.f k a0 a1 = some r) : Does Tryz.prog 103 #[slcV A00 a0.length, .func (.func 80) #[] #[.pointer (some ⟨b_0, 0, none⟩)]] [(b_0, .cells #[.int .i64 a1] 3 (0, 0))] ([Row 3 api_Seg.encS api_Seg.inK A00 a0] ++ Glob) (fun _ : Unit => .int .i64 r) (fun _ => [(b_0, .cells #[.int .i64 a1] 3 (0, 0))]) (fun _ => []) (fun _ => ([Row 3 api_Seg.encS api_Seg.inK A00 a0] ++ Glob)) := by
  intro w Z hS
  refine calls_of (args := [slcV A00 a0.length, .func (.func 80) #[] #[.pointer (some ⟨b_0, 0, none⟩)]]) (L := [(0, slcV A00 a0.length), (1, .func (.func 80) #[] #[.pointer (some ⟨b_0, 0, none⟩)])]) (N := 19) (S := Sat w Z [(b_0, .cells #[.int .i64 a1] 3 (0, 0))] [] ([Row 3 api_Seg.encS api_Seg.inK A00 a0] ++ Glob)) Tryz.func103 rfl rfl (Nat.le_of_ble_eq_true rfl) rfl hS ?_
  have hM := h
  clear h hS
  unfold api_Seg.f at hM
  refine WP.seq ?_
  refine WP.run [] [0, 1, 4] (fun _ => [(0, slcV A00 a0.length), (1, .func (.func 80) #[] #[.pointer (some ⟨b_0, 0, none⟩)]), (4, .int .i64 0)]) (fun _ => [(b_0, .cells #[.int .i64 a1] 3 (0, 0))]) (fun _ => []) (fun _ => by kernel_rfl) (fun _ => ?_)
  refine WP.seq ?_
  refine WP.seq ?_
  refine WP.run [] [0, 1, 4, 7, 8] (fun _ => [(0, slcV A00 a0.length), (1, .func (.func 80) #[] #[.pointer (some ⟨b_0, 0, none⟩)]), (4, .int .i64 0), (7, .int .i64 (a0.length : Int)), (8, .int .i64 0)]) (fun _ => [(b_0, .cells #[.int .i64 a1] 3 (0, 0))]) (fun _ => []) (fun _ => by kernel_rfl) (fun _ => ?_)
  refine WP.block ?_
  refine WP.sub [0, 1, 4, 7, 8] (L' := [(0, slcV A00 a0.length), (1, .func (.func 80) #[] #[.pointer (some ⟨b_0, 0, none⟩)]), (4, .int .i64 0), (7, .int .i64 (a0.length : Int)), (8, .int .i64 0)]) (by kernel_rfl) ?_
  refine WP.lessF [0] (F' := [Row 3 api_Seg.encS api_Seg.inK A00 a0]) (by kernel_rfl) ?_
  refine WP.loop (σ := Int × Int) (fun n st => api_Seg.l1 a0 a1 n st.1 st.2) r (fun st => [(0, slcV A00 a0.length), (1, .func (.func 80) #[] #[.pointer (some ⟨b_0, 0, none⟩)]), (4, .int .i64 st.1), (7, .int .i64 (a0.length : Int)), (8, .int .i64 st.2)]) (fun st => Sat w Z [(b_0, .cells #[.int .i64 a1] 3 (0, 0))] [] ([Row 3 api_Seg.encS api_Seg.inK A00 a0] ++ Glob)) (st := (0, 0)) (fun n st hM => ?_) hM
  rcases n with _ | n
  · exact nomatch (show (none : Option _) = some r from hM)
  obtain ⟨x1, x2⟩ := st
  replace hM : api_Seg.l1 a0 a1 (n + 1) x1 x2 = some r := hM
  rw [api_Seg.l1] at hM
  show WP _ _ _ _ _ [(0, slcV A00 a0.length), (1, .func (.func 80) #[] #[.pointer (some ⟨b_0, 0, none⟩)]), (4, .int .i64 x1), (7, .int .i64 (a0.length : Int)), (8, .int .i64 x2)] (Sat w Z [(b_0, .cells #[.int .i64 a1] 3 (0, 0))] [] ([Row 3 api_Seg.encS api_Seg.inK A00 a0] ++ Glob))
  refine WP.seq ?_
  refine WP.run [] [0, 1, 4, 7, 8, 9] (fun _ => [(0, slcV A00 a0.length), (1, .func (.func 80) #[] #[.pointer (some ⟨b_0, 0, none⟩)]), (4, .int .i64 x1), (7, .int .i64 (a0.length : Int)), (8, .int .i64 x2), (9, .bool (decide (x2 < (a0.length : Int))))]) (fun _ => [(b_0, .cells #[.int .i64 a1] 3 (0, 0))]) (fun _ => []) (fun _ => by kernel_rfl) (fun _ => ?_)
  refine WP.seq ?_
  refine WP.cond (decide (x2 < (a0.length : Int))) rfl rfl (fun c3 => ?_) (fun c3 => ?_)
  · replace hM := cond_t hM c3
    refine WP.skip ?_
    refine WP.seq ?_
    refine WP.block ?_
    refine WP.seq ?_
    refine WP.run [] [0, 1, 4, 5, 7, 8, 9, 10] (fun _ => [(0, slcV A00 a0.length), (1, .func (.func 80) #[] #[.pointer (some ⟨b_0, 0, none⟩)]), (4, .int .i64 x1), (5, .int .i64 x2), (7, .int .i64 (a0.length : Int)), (8, .int .i64 x2), (9, .bool (decide (x2 < (a0.length : Int)))), (10, .int .i64 x2)]) (fun _ => [(b_0, .cells #[.int .i64 a1] 3 (0, 0))]) (fun _ => []) (fun _ => by kernel_rfl) (fun _ => ?_)
    refine WP.seq ?_
    refine WP.region ?_
    refine WL.run 3 [] [0, 1, 4, 5, 7, 8, 9, 10, 11, 12, 13] (fun _ => [(0, slcV A00 a0.length), (1, .func (.func 80) #[] #[.pointer (some ⟨b_0, 0, none⟩)]), (4, .int .i64 x1), (5, .int .i64 x2), (7, .int .i64 (a0.length : Int)), (8, .int .i64 x2), (9, .bool (decide (x2 < (a0.length : Int)))), (10, .int .i64 x2), (11, .func (.func 80) #[] #[.pointer (some ⟨b_0, 0, none⟩)]), (12, slcV A00 a0.length), (13, .int .i64 x2)]) (fun _ => [(b_0, .cells #[.int .i64 a1] 3 (0, 0))]) (fun _ => []) (fun _ => by kernel_rfl) (fun _ => ?_)
    obtain ⟨t4, h5, hM⟩ := bind_some hM
    refine WL.valF (φ := Row 3 api_Seg.encS api_Seg.inK A00 a0) (fact_at 0 rfl) (fun w hR => run_indexRowF (A := A00) (xs := a0) (i := x2) (k := .i64) (e := 35) (m := 3) (by kernel_rfl) (by kernel_rfl) h5 (by kernel_rfl) (by kernel_rfl) hR) (by kernel_rfl) (by kernel_rfl) rfl ?_
    refine WL.valF (φ := Row 3 api_Seg.encS api_Seg.inK A00 a0) (fact_at 0 rfl) (fun w hR => run_loadRowFA (A := A00) (xs := a0) (i := x2) (j := 0) (n := 3) (vs := [.int .i64 t4.Vid, .int .i64 t4.Vni, slcV (A00.s (Int.toNat x2)) t4.Peers.length]) h5 (fun _ => by kernel_rfl) (by kernel_rfl) (by kernel_rfl) (by kernel_rfl) rfl hR) (by kernel_rfl) (by kernel_rfl) rfl ?_
    refine WL.know (Row 1 (pl (encI .u32)) noK (A00.s (Int.toNat x2)) t4.Peers) [0] [Row 3 api_Seg.encS api_Seg.inK A00 a0] (by kernel_rfl) (fun w hψ => ((hψ _ (List.mem_singleton.2 rfl)).inner _ _ (getL_parts h5).2)) ?_
    obtain ⟨r6, h7, hM⟩ := bind_some hM
    refine WL.callE (X := Unit) [] [] [true] (fun _ => _) (vni_By_1_calls b_0 (A00.s (Int.toNat x2)) t4.Vid t4.Vni t4.Peers a1 _ h7) rfl rfl (sub_pick [0] (by kernel_rfl)) (by kernel_rfl) (by kernel_rfl) (fun _ => rfl) (fun _ => ?_)
    refine WP.done ?_
    refine WP.cond r6 rfl rfl (fun c8 => ?_) (fun c8 => ?_)
    · replace hM := cond_t hM c8
      refine WP.seq ?_
      refine WP.run [] [0, 1, 4, 5, 7, 8, 9, 10, 11, 12, 13, 14, 15, 16, 17] (fun _ => [(0, slcV A00 a0.length), (1, .func (.func 80) #[] #[.pointer (some ⟨b_0, 0, none⟩)]), (4, .int .i64 x2), (5, .int .i64 x2), (7, .int .i64 (a0.length : Int)), (8, .int .i64 x2), (9, .bool (decide (x2 < (a0.length : Int)))), (10, .int .i64 x2), (11, .func (.func 80) #[] #[.pointer (some ⟨b_0, 0, none⟩)]), (12, slcV A00 a0.length), (13, .int .i64 x2), (14, ptrV A00 (Int.toNat x2 * 3 + 0)), (15, .agg #[.int .i64 t4.Vid, .int .i64 t4.Vni, slcV (A00.s (Int.toNat x2)) t4.Peers.length]), (16, .bool r6), (17, .int .i64 x2)]) (fun _ => [(b_0, .cells #[.int .i64 a1] 3 (0, 0))]) (fun _ => []) (fun _ => by kernel_rfl) (fun _ => ?_)
      obtain rfl := Option.some.inj hM
      exact WP.ret [] [] (.int .i64 x2) (by kernel_rfl) (fun w' hw => ⟨(), rfl, (hw.pick [0] (by kernel_rfl)).lessF [1] (by kernel_rfl)⟩)
    · replace hM := cond_f hM c8
      refine WP.skip ?_
      refine WP.leave ?_
      refine WP.run [] [0, 1, 4, 5, 7, 8, 9, 10, 11, 12, 13, 14, 15, 16, 18] (fun _ => [(0, slcV A00 a0.length), (1, .func (.func 80) #[] #[.pointer (some ⟨b_0, 0, none⟩)]), (4, .int .i64 x1), (5, .int .i64 x2), (7, .int .i64 (a0.length : Int)), (8, .int .i64 (i64 (x2 + 1))), (9, .bool (decide (x2 < (a0.length : Int)))), (10, .int .i64 x2), (11, .func (.func 80) #[] #[.pointer (some ⟨b_0, 0, none⟩)]), (12, slcV A00 a0.length), (13, .int .i64 x2), (14, ptrV A00 (Int.toNat x2 * 3 + 0)), (15, .agg #[.int .i64 t4.Vid, .int .i64 t4.Vni, slcV (A00.s (Int.toNat x2)) t4.Peers.length]), (16, .bool r6), (18, .int .i64 (i64 (x2 + 1)))]) (fun _ => [(b_0, .cells #[.int .i64 a1] 3 (0, 0))]) (fun _ => []) (fun _ => by kernel_rfl) (fun _ => ?_)
      exact WP.again' [0, 1, 4, 7, 8] (x1, i64 (x2 + 1)) hM (by kernel_rfl) (fun _ h => (h.pick [0] (by kernel_rfl)).lessF [1] (by kernel_rfl))
  · replace hM := cond_f hM c3
    refine WP.exit rfl ?_
    refine WP.seq ?_
    refine WP.run [] [4] (fun _ => [(4, .int .i64 (-1))]) (fun _ => [(b_0, .cells #[.int .i64 a1] 3 (0, 0))]) (fun _ => []) (fun _ => by kernel_rfl) (fun _ => ?_)
    obtain rfl := Option.some.inj hM
    exact WP.ret [] [] (.int .i64 (-1)) (by kernel_rfl) (fun w' hw => ⟨(), rfl, (hw.pick [0] (by kernel_rfl)).lessF [0] (by kernel_rfl)⟩)

end Go.Proofs.YtbodofjnfmjbpaaGreatDoor

namespace Go.Proofs.YtbodofjnfmjbpaaGreatDoor
open Go Eng
set_option linter.unusedVariables false
set_option linter.unusedSimpArgs false

/-! ### slices.Clone[[]uint32,uint32]: function 104 -/
def slices_Clone_uint32_uint32.f (a0 : (List Int)) : Option (List Int) := (roomL 4 a0.length).bind fun _ => some a0

set_option maxRecDepth 100000 in
theorem slices_Clone_uint32_uint32_calls (A00 : SkL Unit) (a0 : (List Int)) (r : (List Int)) (h : slices_Clone_uint32_uint32.f a0 = some r) : Does Tryz.prog 104 #[slcV A00 a0.length] [] ([Row 1 (pl (encI .u32)) noK A00 a0] ++ Glob) (fun x : SkL Unit => slcV x r.length) (fun _ => []) (fun _ => []) (fun x => [Row 1 (pl (encI .u32)) noK x r] ++ ([Row 1 (pl (encI .u32)) noK A00 a0] ++ Glob)) := by
  intro w Z hS
  refine calls_of (args := [slcV A00 a0.length]) (L := [(0, slcV A00 a0.length)]) (N := 8) (S := Sat w Z [] [] ([Row 1 (pl (encI .u32)) noK A00 a0] ++ Glob)) Tryz.func104 rfl rfl (Nat.le_of_ble_eq_true rfl) rfl hS ?_
  have hM := h
  clear h hS
  unfold slices_Clone_uint32_uint32.f at hM
  refine WP.fact (Row 1 (pl (encI .u32)) noK A00 a0) (fact_at 0 rfl) (fun w hw => hw.nil) (fun hn => ?_)
  obtain ⟨a, c, s, z⟩ := A00
  cases a with
  | none =>
    obtain ⟨h1, h2⟩ := hn rfl
    dsimp only at h1 h2
    subst h1; subst h2
    cases z with
    | none =>
      obtain ⟨u0, hu0, hM⟩ := bind_some hM
      obtain rfl := Option.some.inj hM
      show WP _ _ _ _ _ [(0, .slice none 0 0)] (Sat _ _ _ _ ([Row 1 (pl (encI .u32)) noK (⟨none, 0, s, none⟩ : SkL Unit) ([] : List Int)] ++ Glob))
      refine WP.seq ?_
      refine WP.run [] [0, 2] (fun _ => [(0, .slice none 0 0), (2, .slice none 0 0)]) (fun _ => []) (fun _ => []) (fun _ => by kernel_rfl) (fun _ => ?_)
      refine WP.seq ?_
      refine WP.seq ?_
      refine WP.run [] [0, 2, 4] (fun _ => [(0, .slice none 0 0), (2, .slice none 0 0), (4, .bool true)]) (fun _ => []) (fun _ => []) (fun _ => by kernel_rfl) (fun _ => ?_)
      refine WP.yes rfl rfl ?_
      refine WP.seq ?_
      refine WP.run [] [0, 2] (fun _ => [(0, .slice none 0 0), (2, .slice none 0 0)]) (fun _ => []) (fun _ => []) (fun _ => by kernel_rfl) (fun _ => ?_)
      refine WP.know (Row 1 (pl (encI .u32)) noK (SkL.nil (fun _ => ())) ([] : List Int)) [] [] (by kernel_rfl) (fun w _ => RowP.empty (fun _ => rfl)) ?_
      exact WP.ret [] [] (slcV (SkL.nil (fun _ => ())) ([] : List Int).length) (by kernel_rfl) (fun w' hw => ⟨(SkL.nil (fun _ => ())), rfl, (hw.pick [] (by kernel_rfl)).less (sub_ret [0] [1] (by kernel_rfl) (by kernel_rfl))⟩)
    | some ad =>
      refine WP.seq ?_
      refine WP.run [] [0, 2] (fun _ => [(0, slcV (⟨none, 0, s, some ad⟩ : SkL Unit) ([] : List Int).length), (2, .slice none 0 0)]) (fun _ => []) (fun _ => []) (fun _ => by kernel_rfl) (fun _ => ?_)
      refine WP.seq ?_
      refine WP.seq ?_
      refine WP.run [] [0, 2, 4] (fun _ => [(0, slcV (⟨none, 0, s, some ad⟩ : SkL Unit) ([] : List Int).length), (2, .slice none 0 0), (4, .bool false)]) (fun _ => []) (fun _ => []) (fun _ => by kernel_rfl) (fun _ => ?_)
      refine WP.no rfl rfl ?_
      refine WP.skip ?_
      refine WP.seq ?_
      refine WP.region ?_
      refine WL.run 2 [] [2, 5, 6] (fun b1 => [(2, .slice none 0 0), (5, .slice (some ⟨b1, 0, none⟩) 0 0), (6, slcV (⟨none, 0, s, some ad⟩ : SkL Unit) ([] : List Int).length)]) (fun b1 => [(b1, .cells #[] 22 (0, 0))]) (fun b1 => []) (fun b1 => by kernel_rfl) (fun b1 => ?_)
      obtain ⟨u3, h2, hM⟩ := bind_some hM
      refine WL.appendCopy (A := (SkL.at b1 0 (fun _ => ()))) (B := (⟨none, 0, s, some ad⟩ : SkL Unit)) (ys := ([] : List Int)) (n := 0) (m := 1) (by_ := 4) (e := 22) (z := .int .u32 0) (f := (pl (encI .u32))) (K := noK) (d := 7) rfl rfl (by kernel_rfl) (by kernel_rfl) (by kernel_rfl) (fun _ _ => rfl) (by kernel_rfl) (by kernel_rfl) rfl rfl (by kernel_rfl) (fact_at 0 rfl) h2 (by kernel_rfl) (fun A4 => ?_)
      refine WL.less (Φ' := [Row 1 (pl (encI .u32)) noK A4 ([] : List Int), Row 1 (pl (encI .u32)) noK (⟨none, 0, s, some ad⟩ : SkL Unit) ([] : List Int)] ++ Glob) (fun _ h => h) ?_
      refine WL.run 1 [] [2] (fun _ => [(2, slcV A4 ([] : List Int).length)]) (fun _ => [(b1, .cells #[] 22 (0, 0))]) (fun _ => []) (fun _ => by kernel_rfl) (fun _ => ?_)
      refine WP.done ?_
      refine WP.keep [false] (by kernel_rfl : _ = []) ?_
      obtain rfl := Option.some.inj hM
      exact WP.ret [] [] (slcV A4 ([] : List Int).length) (by kernel_rfl) (fun w' hw => ⟨A4, rfl, (hw.pick [] (by kernel_rfl)).less (sub_ret [0] [1] (by kernel_rfl) (by kernel_rfl))⟩)
  | some p =>
    obtain ⟨b, o⟩ := p
    refine WP.seq ?_
    refine WP.run [] [0, 2] (fun _ => [(0, slcV (⟨some (b, o), c, s, z⟩ : SkL Unit) a0.length), (2, .slice none 0 0)]) (fun _ => []) (fun _ => []) (fun _ => by kernel_rfl) (fun _ => ?_)
    refine WP.seq ?_
    refine WP.seq ?_
    refine WP.run [] [0, 2, 4] (fun _ => [(0, slcV (⟨some (b, o), c, s, z⟩ : SkL Unit) a0.length), (2, .slice none 0 0), (4, .bool false)]) (fun _ => []) (fun _ => []) (fun _ => by kernel_rfl) (fun _ => ?_)
    refine WP.no rfl rfl ?_
    refine WP.skip ?_
    refine WP.seq ?_
    refine WP.region ?_
    refine WL.run 2 [] [2, 5, 6] (fun b1 => [(2, .slice none 0 0), (5, .slice (some ⟨b1, 0, none⟩) 0 0), (6, slcV (⟨some (b, o), c, s, z⟩ : SkL Unit) a0.length)]) (fun b1 => [(b1, .cells #[] 22 (0, 0))]) (fun b1 => []) (fun b1 => by kernel_rfl) (fun b1 => ?_)
    obtain ⟨u3, h2, hM⟩ := bind_some hM
    refine WL.appendCopy (A := (SkL.at b1 0 (fun _ => ()))) (B := (⟨some (b, o), c, s, z⟩ : SkL Unit)) (ys := a0) (n := 0) (m := 1) (by_ := 4) (e := 22) (z := .int .u32 0) (f := (pl (encI .u32))) (K := noK) (d := 7) rfl rfl (by kernel_rfl) (by kernel_rfl) (by kernel_rfl) (fun _ _ => rfl) (by kernel_rfl) (by kernel_rfl) rfl rfl (by kernel_rfl) (fact_at 0 rfl) h2 (by kernel_rfl) (fun A4 => ?_)
    refine WL.less (Φ' := [Row 1 (pl (encI .u32)) noK A4 a0, Row 1 (pl (encI .u32)) noK (⟨some (b, o), c, s, z⟩ : SkL Unit) a0] ++ Glob) (fun _ h => h) ?_
    refine WL.run 1 [] [2] (fun _ => [(2, slcV A4 a0.length)]) (fun _ => [(b1, .cells #[] 22 (0, 0))]) (fun _ => []) (fun _ => by kernel_rfl) (fun _ => ?_)
    refine WP.done ?_
    refine WP.keep [false] (by kernel_rfl : _ = []) ?_
    obtain rfl := Option.some.inj hM
    exact WP.ret [] [] (slcV A4 a0.length) (by kernel_rfl) (fun w' hw => ⟨A4, rfl, (hw.pick [] (by kernel_rfl)).less (sub_ret [0] [1] (by kernel_rfl) (by kernel_rfl))⟩)

end Go.Proofs.YtbodofjnfmjbpaaGreatDoor

namespace Go.Proofs.YtbodofjnfmjbpaaGreatDoor
open Go Eng
set_option linter.unusedVariables false
set_option linter.unusedSimpArgs false

/-! ### gangway/vni.first: function 79 -/
def vni_first.f (k : Nat) (a0 : (List api_Seg)) (a1 : Int) : Option (api_Seg × Bool) :=
  (api_Seg.f k a0 a1).bind fun r2 =>
  bif decide (r2 < 0) then
    some ((api_Seg.mk 0 0 ([] : List Int)), false)
  else
    (getL a0.length a0 r2).bind fun t5 =>
    (slices_Clone_uint32_uint32.f t5.Peers).bind fun r8 =>
    some ((api_Seg.mk t5.Vid t5.Vni r8), true)

set_option maxRecDepth 100000 in
theorem vni_first_calls (k : Nat) (b_0 : Nat) (A00 : SkL (SkL Unit)) (a0 : (List api_Seg)) (a1 : Int) (r : api_Seg × Bool) (h : vni_first.f k a0 a1 = some r) : Does Tryz.prog 79 #[slcV A00 a0.length, .func (.func 80) #[] #[.pointer (some ⟨b_0, 0, none⟩)]] [(b_0, .cells #[.int .i64 a1] 3 (0, 0))] ([Row 3 api_Seg.encS api_Seg.inK A00 a0] ++ Glob) (fun x : (SkL Unit) => .tuple #[.agg #[.int .i64 r.1.Vid, .int .i64 r.1.Vni, slcV x r.1.Peers.length], .bool r.2]) (fun x => [(b_0, .cells #[.int .i64 a1] 3 (0, 0))]) (fun _ => []) (fun x => [Row 1 (pl (encI .u32)) noK x r.1.Peers] ++ ([Row 3 api_Seg.encS api_Seg.inK A00 a0] ++ Glob)) := by
  intro w Z hS
  refine calls_of (args := [slcV A00 a0.length, .func (.func 80) #[] #[.pointer (some ⟨b_0, 0, none⟩)]]) (L := [(0, slcV A00 a0.length), (1, .func (.func 80) #[] #[.pointer (some ⟨b_0, 0, none⟩)])]) (N := 23) (S := Sat w Z [(b_0, .cells #[.int .i64 a1] 3 (0, 0))] [] ([Row 3 api_Seg.encS api_Seg.inK A00 a0] ++ Glob)) Tryz.func79 rfl rfl (Nat.le_of_ble_eq_true rfl) rfl hS ?_
  have hM := h
  clear h hS
  unfold vni_first.f at hM
  refine WP.seq ?_
  refine WP.run [] [0, 1, 4, 5] (fun b1 => [(0, slcV A00 a0.length), (1, .func (.func 80) #[] #[.pointer (some ⟨b_0, 0, none⟩)]), (4, .pointer (some ⟨b1, 0, none⟩)), (5, .bool false)]) (fun b1 => [(b_0, .cells #[.int .i64 a1] 3 (0, 0)), (b1, .cells #[.int .i64 0, .int .i64 0, .slice none 0 0] 35 (0, 0))]) (fun b1 => []) (fun b1 => by kernel_rfl) (fun b1 => ?_)
  refine WP.seq ?_
  refine WP.region ?_
  refine WL.run 2 [] [0, 4, 5, 8, 9] (fun _ => [(0, slcV A00 a0.length), (4, .pointer (some ⟨b1, 0, none⟩)), (5, .bool false), (8, slcV A00 a0.length), (9, .func (.func 80) #[] #[.pointer (some ⟨b_0, 0, none⟩)])]) (fun _ => [(b_0, .cells #[.int .i64 a1] 3 (0, 0)), (b1, .cells #[.int .i64 0, .int .i64 0, .slice none 0 0] 35 (0, 0))]) (fun _ => []) (fun _ => by kernel_rfl) (fun _ => ?_)
  obtain ⟨r2, h3, hM⟩ := bind_some hM
  refine WL.callE (X := Unit) [] [] [true, false] (fun _ => _) (api_Seg_calls k b_0 A00 a0 a1 _ h3) rfl rfl (sub_pick [0] (by kernel_rfl)) (by kernel_rfl) (by kernel_rfl) (fun _ => rfl) (fun _ => ?_)
  refine WL.run 1 [] [0, 4, 5, 6] (fun _ => [(0, slcV A00 a0.length), (4, .pointer (some ⟨b1, 0, none⟩)), (5, .bool false), (6, .int .i64 r2)]) (fun _ => [(b_0, .cells #[.int .i64 a1] 3 (0, 0)), (b1, .cells #[.int .i64 0, .int .i64 0, .slice none 0 0] 35 (0, 0))]) (fun _ => []) (fun _ => by kernel_rfl) (fun _ => ?_)
  refine WP.done ?_
  refine WP.seq ?_
  refine WP.seq ?_
  refine WP.run [] [0, 4, 5, 6, 12] (fun _ => [(0, slcV A00 a0.length), (4, .pointer (some ⟨b1, 0, none⟩)), (5, .bool false), (6, .int .i64 r2), (12, .bool (decide (r2 < 0)))]) (fun _ => [(b_0, .cells #[.int .i64 a1] 3 (0, 0)), (b1, .cells #[.int .i64 0, .int .i64 0, .slice none 0 0] 35 (0, 0))]) (fun _ => []) (fun _ => by kernel_rfl) (fun _ => ?_)
  refine WP.cond (decide (r2 < 0)) rfl rfl (fun c4 => ?_) (fun c4 => ?_)
  · replace hM := cond_t hM c4
    refine WP.seq ?_
    refine WP.run [1, 1, 1] [0, 4, 5, 6] (fun _ => [(0, slcV A00 a0.length), (4, .pointer (some ⟨b1, 0, none⟩)), (5, .bool false), (6, .int .i64 r2)]) (fun _ => [(b_0, .cells #[.int .i64 a1] 3 (0, 0)), (b1, .cells #[.int .i64 0, .int .i64 0, .slice none 0 0] 35 (0, 0))]) (fun _ => [b1, b1, b1]) (fun _ => by kernel_rfl) (fun _ => ?_)
    refine WP.know (Row 1 (pl (encI .u32)) noK (SkL.nil (fun _ => ())) ([] : List Int)) [] [] (by kernel_rfl) (fun w _ => RowP.empty (fun _ => rfl)) ?_
    obtain rfl := Option.some.inj hM
    exact WP.ret [1, 1, 1] [b1, b1, b1] (.tuple #[.agg #[.int .i64 0, .int .i64 0, slcV (SkL.nil (fun _ => ())) ([] : List Int).length], .bool false]) (by kernel_rfl) (fun w' hw => ⟨(SkL.nil (fun _ => ())), rfl, (hw.pick [0] (by kernel_rfl)).less (sub_ret [0] [1] (by kernel_rfl) (by kernel_rfl))⟩)
  · replace hM := cond_f hM c4
    refine WP.skip ?_
    refine WP.seq ?_
    refine WP.region ?_
    refine WL.run 2 [] [4, 5, 14, 15] (fun _ => [(4, .pointer (some ⟨b1, 0, none⟩)), (5, .bool false), (14, slcV A00 a0.length), (15, .int .i64 r2)]) (fun _ => [(b_0, .cells #[.int .i64 a1] 3 (0, 0)), (b1, .cells #[.int .i64 0, .int .i64 0, .slice none 0 0] 35 (0, 0))]) (fun _ => []) (fun _ => by kernel_rfl) (fun _ => ?_)
    obtain ⟨t5, h6, hM⟩ := bind_some hM
    refine WL.valF (φ := Row 3 api_Seg.encS api_Seg.inK A00 a0) (fact_at 0 rfl) (fun w hR => run_indexRowF (A := A00) (xs := a0) (i := r2) (k := .i64) (e := 35) (m := 3) (by kernel_rfl) (by kernel_rfl) h6 (by kernel_rfl) (by kernel_rfl) hR) (by kernel_rfl) (by kernel_rfl) rfl ?_
    refine WL.valF (φ := Row 3 api_Seg.encS api_Seg.inK A00 a0) (fact_at 0 rfl) (fun w hR => run_loadRowFA (A := A00) (xs := a0) (i := r2) (j := 0) (n := 3) (vs := [.int .i64 t5.Vid, .int .i64 t5.Vni, slcV (A00.s (Int.toNat r2)) t5.Peers.length]) h6 (fun _ => by kernel_rfl) (by kernel_rfl) (by kernel_rfl) (by kernel_rfl) rfl hR) (by kernel_rfl) (by kernel_rfl) rfl ?_
    refine WL.know (Row 1 (pl (encI .u32)) noK (A00.s (Int.toNat r2)) t5.Peers) [0] [Row 3 api_Seg.encS api_Seg.inK A00 a0] (by kernel_rfl) (fun w hψ => ((hψ _ (List.mem_singleton.2 rfl)).inner _ _ (getL_parts h6).2)) ?_
    refine WL.run 2 [2, 2, 2] [4, 5, 7] (fun b7 => [(4, .pointer (some ⟨b1, 0, none⟩)), (5, .bool false), (7, .pointer (some ⟨b7, 0, none⟩))]) (fun b7 => [(b_0, .cells #[.int .i64 a1] 3 (0, 0)), (b1, .cells #[.int .i64 0, .int .i64 0, .slice none 0 0] 35 (0, 0)), (b7, .cells #[.int .i64 t5.Vid, .int .i64 t5.Vni, slcV (A00.s (Int.toNat r2)) t5.Peers.length] 35 (0, 0))]) (fun b7 => [b7, b7, b7]) (fun b7 => by kernel_rfl) (fun b7 => ?_)
    refine WP.done ?_
    refine WP.seq ?_
    refine WP.region ?_
    refine WL.run 2 [2] [4, 5, 7, 19] (fun _ => [(4, .pointer (some ⟨b1, 0, none⟩)), (5, .bool false), (7, .pointer (some ⟨b7, 0, none⟩)), (19, slcV (A00.s (Int.toNat r2)) t5.Peers.length)]) (fun _ => [(b_0, .cells #[.int .i64 a1] 3 (0, 0)), (b1, .cells #[.int .i64 0, .int .i64 0, .slice none 0 0] 35 (0, 0)), (b7, .cells #[.int .i64 t5.Vid, .int .i64 t5.Vni, slcV (A00.s (Int.toNat r2)) t5.Peers.length] 35 (0, 0))]) (fun _ => [b7]) (fun _ => by kernel_rfl) (fun _ => ?_)
    obtain ⟨r8, h9, hM⟩ := bind_some hM
    refine WL.callX (F0 := [Row 1 (pl (encI .u32)) noK (A00.s (Int.toNat r2)) t5.Peers]) [] [] [false, false, false] (fun _ => _) [0] (by kernel_rfl) (slices_Clone_uint32_uint32_calls (A00.s (Int.toNat r2)) t5.Peers _ h9) rfl rfl (by kernel_rfl) (by kernel_rfl) (fun _ => rfl) (fun A10 => ?_)
    refine WL.run 2 [2] [4, 5, 7] (fun _ => [(4, .pointer (some ⟨b1, 0, none⟩)), (5, .bool false), (7, .pointer (some ⟨b7, 0, none⟩))]) (fun _ => [(b_0, .cells #[.int .i64 a1] 3 (0, 0)), (b1, .cells #[.int .i64 0, .int .i64 0, .slice none 0 0] 35 (0, 0)), (b7, .cells #[.int .i64 t5.Vid, .int .i64 t5.Vni, slcV A10 r8.length] 35 (0, 0))]) (fun _ => [b7]) (fun _ => by kernel_rfl) (fun _ => ?_)
    refine WP.done ?_
    refine WP.seq ?_
    refine WP.run [2, 2, 2, 1, 1, 1] [4, 5] (fun _ => [(4, .pointer (some ⟨b1, 0, none⟩)), (5, .bool true)]) (fun _ => [(b_0, .cells #[.int .i64 a1] 3 (0, 0)), (b1, .cells #[.int .i64 t5.Vid, .int .i64 t5.Vni, slcV A10 r8.length] 35 (0, 0)), (b7, .cells #[.int .i64 t5.Vid, .int .i64 t5.Vni, slcV A10 r8.length] 35 (0, 0))]) (fun _ => [b1, b1, b1, b7, b7, b7]) (fun _ => by kernel_rfl) (fun _ => ?_)
    refine WP.keep [true, true, false] (by kernel_rfl : _ = [(b_0, .cells #[.int .i64 a1] 3 (0, 0)), (b1, .cells #[.int .i64 t5.Vid, .int .i64 t5.Vni, slcV A10 r8.length] 35 (0, 0))]) ?_
    obtain rfl := Option.some.inj hM
    exact WP.ret [1, 1, 1] [b1, b1, b1] (.tuple #[.agg #[.int .i64 t5.Vid, .int .i64 t5.Vni, slcV A10 r8.length], .bool true]) (by kernel_rfl) (fun w' hw => ⟨A10, rfl, (hw.pick [0] (by kernel_rfl)).less (sub_ret [0] [2] (by kernel_rfl) (by kernel_rfl))⟩)

end Go.Proofs.YtbodofjnfmjbpaaGreatDoor

namespace Go.Proofs.YtbodofjnfmjbpaaGreatDoor
open Go Eng
set_option linter.unusedVariables false
set_option linter.unusedSimpArgs false

/-! ### gangway/vni.By: function 48 -/
def vni_By.f (k : Nat) (a0 : (List api_Seg)) (a1 : Int) : Option (api_Seg × Bool) :=
  (vni_first.f k a0 a1).bind fun (r2, r3) =>
  some (r2, r3)

set_option maxRecDepth 100000 in
theorem vni_By_calls (k : Nat) (A00 : SkL (SkL Unit)) (a0 : (List api_Seg)) (a1 : Int) (r : api_Seg × Bool) (h : vni_By.f k a0 a1 = some r) : Does Tryz.prog 48 #[slcV A00 a0.length, .int .i64 a1] [] ([Row 3 api_Seg.encS api_Seg.inK A00 a0] ++ Glob) (fun x : (SkL Unit) => .tuple #[.agg #[.int .i64 r.1.Vid, .int .i64 r.1.Vni, slcV x r.1.Peers.length], .bool r.2]) (fun x => []) (fun _ => []) (fun x => [Row 1 (pl (encI .u32)) noK x r.1.Peers] ++ ([Row 3 api_Seg.encS api_Seg.inK A00 a0] ++ Glob)) := by
  intro w Z hS
  refine calls_of (args := [slcV A00 a0.length, .int .i64 a1]) (L := [(0, slcV A00 a0.length), (1, .int .i64 a1)]) (N := 11) (S := Sat w Z [] [] ([Row 3 api_Seg.encS api_Seg.inK A00 a0] ++ Glob)) Tryz.func48 rfl rfl (Nat.le_of_ble_eq_true rfl) rfl hS ?_
  have hM := h
  clear h hS
  unfold vni_By.f at hM
  refine WP.seq ?_
  refine WP.run [] [0, 3, 4, 5] (fun b1 => [(0, slcV A00 a0.length), (3, .pointer (some ⟨b1, 0, none⟩)), (4, .pointer (some ⟨(b1 + 1), 0, none⟩)), (5, .bool false)]) (fun b1 => [(b1, .cells #[.int .i64 a1] 3 (0, 0)), ((b1 + 1), .cells #[.int .i64 0, .int .i64 0, .slice none 0 0] 35 (0, 0))]) (fun b1 => []) (fun b1 => by kernel_rfl) (fun b1 => ?_)
  refine WP.seq ?_
  refine WP.region ?_
  refine WL.run 2 [] [4, 5, 6, 7] (fun _ => [(4, .pointer (some ⟨(b1 + 1), 0, none⟩)), (5, .bool false), (6, slcV A00 a0.length), (7, .func (.func 80) #[] #[.pointer (some ⟨b1, 0, none⟩)])]) (fun _ => [(b1, .cells #[.int .i64 a1] 3 (0, 0)), ((b1 + 1), .cells #[.int .i64 0, .int .i64 0, .slice none 0 0] 35 (0, 0))]) (fun _ => []) (fun _ => by kernel_rfl) (fun _ => ?_)
  obtain ⟨⟨r2, r3⟩, h4, hM⟩ := bind_some hM
  dsimp only at hM
  refine WL.callX (F0 := [Row 3 api_Seg.encS api_Seg.inK A00 a0]) [] [] [true, false] (fun _ => _) [0] (by kernel_rfl) (vni_first_calls k b1 A00 a0 a1 _ h4) rfl rfl (by kernel_rfl) (by kernel_rfl) (fun _ => rfl) (fun A5 => ?_)
  refine WL.run 4 [1, 1, 1] [4, 5] (fun _ => [(4, .pointer (some ⟨(b1 + 1), 0, none⟩)), (5, .bool r3)]) (fun _ => [(b1, .cells #[.int .i64 a1] 3 (0, 0)), ((b1 + 1), .cells #[.int .i64 r2.Vid, .int .i64 r2.Vni, slcV A5 r2.Peers.length] 35 (0, 0))]) (fun _ => [(b1 + 1), (b1 + 1), (b1 + 1)]) (fun _ => by kernel_rfl) (fun _ => ?_)
  refine WP.done ?_
  refine WP.keep [false, true] (by kernel_rfl : _ = [((b1 + 1), .cells #[.int .i64 r2.Vid, .int .i64 r2.Vni, slcV A5 r2.Peers.length] 35 (0, 0))]) ?_
  obtain rfl := Option.some.inj hM
  exact WP.ret [0, 0, 0] [(b1 + 1), (b1 + 1), (b1 + 1)] (.tuple #[.agg #[.int .i64 r2.Vid, .int .i64 r2.Vni, slcV A5 r2.Peers.length], .bool r3]) (by kernel_rfl) (fun w' hw => ⟨A5, rfl, (hw.pick [] (by kernel_rfl)).less (sub_ret [0] [1] (by kernel_rfl) (by kernel_rfl))⟩)

end Go.Proofs.YtbodofjnfmjbpaaGreatDoor

namespace Go.Proofs.YtbodofjnfmjbpaaGreatDoor
open Go Eng
set_option linter.unusedVariables false
set_option linter.unusedSimpArgs false

/-! ### slices.Index[[]uint32,uint32]: function 105 -/
def slices_Index_uint32_uint32.l1 (a0 : (List Int)) (a1 : Int) : Nat → Int → Int → Option (Int)
  | 0, _, _ => none
  | n + 1, x1, x2 =>
    bif decide (x2 < (a0.length : Int)) then
      (getL a0.length a0 x2).bind fun t4 =>
      bif (a1 == t4) then
        some x2
      else
        slices_Index_uint32_uint32.l1 a0 a1 n x1 (i64 (x2 + 1))
    else
      some (-1)

def slices_Index_uint32_uint32.f (k : Nat) (a0 : (List Int)) (a1 : Int) : Option (Int) :=
  slices_Index_uint32_uint32.l1 a0 a1 k 0 0

set_option maxRecDepth 100000 in
theorem slices_Index_uint32_uint32_calls (k : Nat) (A00 : SkL Unit) (a0 : (List Int)) (a1 : Int) (r : Int) (h : slices_Index_uint32_uint32.f k a0 a1 = some r) : Pure Tryz.prog ([Row 1 (pl (encI .u32)) noK A00 a0] ++ Glob) 105 #[slcV A00 a0.length, .int .u32 a1] (.int .i64 r) := by
  intro w Z hS
  refine calls_of (args := [slcV A00 a0.length, .int .u32 a1]) (L := [(0, slcV A00 a0.length), (1, .int .u32 a1)]) (N := 19) (S := Sat w Z [] [] ([Row 1 (pl (encI .u32)) noK A00 a0] ++ Glob)) Tryz.func105 rfl rfl (Nat.le_of_ble_eq_true rfl) rfl hS ?_
  have hM := h
  clear h hS
  unfold slices_Index_uint32_uint32.f at hM
  refine WP.seq ?_
  refine WP.run [] [0, 1, 4] (fun _ => [(0, slcV A00 a0.length), (1, .int .u32 a1), (4, .int .i64 0)]) (fun _ => []) (fun _ => []) (fun _ => by kernel_rfl) (fun _ => ?_)
  refine WP.seq ?_
  refine WP.seq ?_
  refine WP.run [] [0, 1, 4, 7, 8] (fun _ => [(0, slcV A00 a0.length), (1, .int .u32 a1), (4, .int .i64 0), (7, .int .i64 (a0.length : Int)), (8, .int .i64 0)]) (fun _ => []) (fun _ => []) (fun _ => by kernel_rfl) (fun _ => ?_)
  refine WP.block ?_
  refine WP.sub [0, 1, 4, 7, 8] (L' := [(0, slcV A00 a0.length), (1, .int .u32 a1), (4, .int .i64 0), (7, .int .i64 (a0.length : Int)), (8, .int .i64 0)]) (by kernel_rfl) ?_
  refine WP.lessF [0] (F' := [Row 1 (pl (encI .u32)) noK A00 a0]) (by kernel_rfl) ?_
  refine WP.loop (σ := Int × Int) (fun n st => slices_Index_uint32_uint32.l1 a0 a1 n st.1 st.2) r (fun st => [(0, slcV A00 a0.length), (1, .int .u32 a1), (4, .int .i64 st.1), (7, .int .i64 (a0.length : Int)), (8, .int .i64 st.2)]) (fun st => Sat w Z [] [] ([Row 1 (pl (encI .u32)) noK A00 a0] ++ Glob)) (st := (0, 0)) (fun n st hM => ?_) hM
  rcases n with _ | n
  · exact nomatch (show (none : Option _) = some r from hM)
  obtain ⟨x1, x2⟩ := st
  replace hM : slices_Index_uint32_uint32.l1 a0 a1 (n + 1) x1 x2 = some r := hM
  rw [slices_Index_uint32_uint32.l1] at hM
  show WP _ _ _ _ _ [(0, slcV A00 a0.length), (1, .int .u32 a1), (4, .int .i64 x1), (7, .int .i64 (a0.length : Int)), (8, .int .i64 x2)] (Sat w Z [] [] ([Row 1 (pl (encI .u32)) noK A00 a0] ++ Glob))
  refine WP.seq ?_
  refine WP.run [] [0, 1, 4, 7, 8, 9] (fun _ => [(0, slcV A00 a0.length), (1, .int .u32 a1), (4, .int .i64 x1), (7, .int .i64 (a0.length : Int)), (8, .int .i64 x2), (9, .bool (decide (x2 < (a0.length : Int))))]) (fun _ => []) (fun _ => []) (fun _ => by kernel_rfl) (fun _ => ?_)
  refine WP.seq ?_
  refine WP.cond (decide (x2 < (a0.length : Int))) rfl rfl (fun c3 => ?_) (fun c3 => ?_)
  · replace hM := cond_t hM c3
    refine WP.skip ?_
    refine WP.seq ?_
    refine WP.block ?_
    refine WP.seq ?_
    refine WP.run [] [0, 1, 4, 5, 7, 8, 9, 10] (fun _ => [(0, slcV A00 a0.length), (1, .int .u32 a1), (4, .int .i64 x1), (5, .int .i64 x2), (7, .int .i64 (a0.length : Int)), (8, .int .i64 x2), (9, .bool (decide (x2 < (a0.length : Int)))), (10, .int .i64 x2)]) (fun _ => []) (fun _ => []) (fun _ => by kernel_rfl) (fun _ => ?_)
    refine WP.seq ?_
    refine WP.region ?_
    refine WL.run 3 [] [0, 1, 4, 5, 7, 8, 9, 10, 11, 12, 13] (fun _ => [(0, slcV A00 a0.length), (1, .int .u32 a1), (4, .int .i64 x1), (5, .int .i64 x2), (7, .int .i64 (a0.length : Int)), (8, .int .i64 x2), (9, .bool (decide (x2 < (a0.length : Int)))), (10, .int .i64 x2), (11, .int .u32 a1), (12, slcV A00 a0.length), (13, .int .i64 x2)]) (fun _ => []) (fun _ => []) (fun _ => by kernel_rfl) (fun _ => ?_)
    obtain ⟨t4, h5, hM⟩ := bind_some hM
    refine WL.valF (φ := Row 1 (pl (encI .u32)) noK A00 a0) (fact_at 0 rfl) (fun w hR => run_indexRowF (A := A00) (xs := a0) (i := x2) (k := .i64) (e := 22) (m := 1) (by kernel_rfl) (by kernel_rfl) h5 (by kernel_rfl) (by kernel_rfl) hR) (by kernel_rfl) (by kernel_rfl) rfl ?_
    refine WL.valF (φ := Row 1 (pl (encI .u32)) noK A00 a0) (fact_at 0 rfl) (fun w hR => run_loadRowF (A := A00) (xs := a0) (i := x2) (j := 0) (v := .int .u32 t4) h5 (fun _ => by kernel_rfl) (by kernel_rfl) (by kernel_rfl) hR) (by kernel_rfl) (by kernel_rfl) rfl ?_
    refine WL.run 1 [] [0, 1, 4, 5, 7, 8, 9, 10, 11, 12, 13, 14, 15, 16] (fun _ => [(0, slcV A00 a0.length), (1, .int .u32 a1), (4, .int .i64 x1), (5, .int .i64 x2), (7, .int .i64 (a0.length : Int)), (8, .int .i64 x2), (9, .bool (decide (x2 < (a0.length : Int)))), (10, .int .i64 x2), (11, .int .u32 a1), (12, slcV A00 a0.length), (13, .int .i64 x2), (14, ptrV A00 (Int.toNat x2 * 1 + 0)), (15, .int .u32 t4), (16, .bool (a1 == t4))]) (fun _ => []) (fun _ => []) (fun _ => by kernel_rfl) (fun _ => ?_)
    refine WP.done ?_
    refine WP.cond (a1 == t4) rfl rfl (fun c6 => ?_) (fun c6 => ?_)
    · replace hM := cond_t hM c6
      refine WP.seq ?_
      refine WP.run [] [0, 1, 4, 5, 7, 8, 9, 10, 11, 12, 13, 14, 15, 16, 17] (fun _ => [(0, slcV A00 a0.length), (1, .int .u32 a1), (4, .int .i64 x2), (5, .int .i64 x2), (7, .int .i64 (a0.length : Int)), (8, .int .i64 x2), (9, .bool (decide (x2 < (a0.length : Int)))), (10, .int .i64 x2), (11, .int .u32 a1), (12, slcV A00 a0.length), (13, .int .i64 x2), (14, ptrV A00 (Int.toNat x2 * 1 + 0)), (15, .int .u32 t4), (16, .bool (a1 == t4)), (17, .int .i64 x2)]) (fun _ => []) (fun _ => []) (fun _ => by kernel_rfl) (fun _ => ?_)
      obtain rfl := Option.some.inj hM
      exact WP.ret [] [] (.int .i64 x2) (by kernel_rfl) (fun w' hw => ⟨rfl, (hw.pick [] rfl).lessF [0] (by kernel_rfl)⟩)
    · replace hM := cond_f hM c6
      refine WP.skip ?_
      refine WP.leave ?_
      refine WP.run [] [0, 1, 4, 5, 7, 8, 9, 10, 11, 12, 13, 14, 15, 16, 18] (fun _ => [(0, slcV A00 a0.length), (1, .int .u32 a1), (4, .int .i64 x1), (5, .int .i64 x2), (7, .int .i64 (a0.length : Int)), (8, .int .i64 (i64 (x2 + 1))), (9, .bool (decide (x2 < (a0.length : Int)))), (10, .int .i64 x2), (11, .int .u32 a1), (12, slcV A00 a0.length), (13, .int .i64 x2), (14, ptrV A00 (Int.toNat x2 * 1 + 0)), (15, .int .u32 t4), (16, .bool (a1 == t4)), (18, .int .i64 (i64 (x2 + 1)))]) (fun _ => []) (fun _ => []) (fun _ => by kernel_rfl) (fun _ => ?_)
      exact WP.again' [0, 1, 4, 7, 8] (x1, i64 (x2 + 1)) hM (by kernel_rfl) (fun _ h => (h.pick [] (by kernel_rfl)).lessF [0] (by kernel_rfl))
  · replace hM := cond_f hM c3
    refine WP.exit rfl ?_
    refine WP.seq ?_
    refine WP.run [] [4] (fun _ => [(4, .int .i64 (-1))]) (fun _ => []) (fun _ => []) (fun _ => by kernel_rfl) (fun _ => ?_)
    obtain rfl := Option.some.inj hM
    exact WP.ret [] [] (.int .i64 (-1)) (by kernel_rfl) (fun w' hw => ⟨rfl, (hw.pick [] rfl).lessF [0] (by kernel_rfl)⟩)

end Go.Proofs.YtbodofjnfmjbpaaGreatDoor

namespace Go.Proofs.YtbodofjnfmjbpaaGreatDoor
open Go Eng
set_option linter.unusedVariables false
set_option linter.unusedSimpArgs false

/-! ### slices.Contains[[]uint32,uint32]: function 81 -/
def slices_Contains_uint32_uint32.f (k : Nat) (a0 : (List Int)) (a1 : Int) : Option (Bool) :=
  (slices_Index_uint32_uint32.f k a0 a1).bind fun r1 =>
  some (decide (r1 ≥ 0))

set_option maxRecDepth 100000 in
theorem slices_Contains_uint32_uint32_calls (k : Nat) (A00 : SkL Unit) (a0 : (List Int)) (a1 : Int) (r : Bool) (h : slices_Contains_uint32_uint32.f k a0 a1 = some r) : Pure Tryz.prog ([Row 1 (pl (encI .u32)) noK A00 a0] ++ Glob) 81 #[slcV A00 a0.length, .int .u32 a1] (.bool r) := by
  intro w Z hS
  refine calls_of (args := [slcV A00 a0.length, .int .u32 a1]) (L := [(0, slcV A00 a0.length), (1, .int .u32 a1)]) (N := 9) (S := Sat w Z [] [] ([Row 1 (pl (encI .u32)) noK A00 a0] ++ Glob)) Tryz.func81 rfl rfl (Nat.le_of_ble_eq_true rfl) rfl hS ?_
  have hM := h
  clear h hS
  unfold slices_Contains_uint32_uint32.f at hM
  refine WP.seq ?_
  refine WP.run [] [0, 1, 4] (fun _ => [(0, slcV A00 a0.length), (1, .int .u32 a1), (4, .bool false)]) (fun _ => []) (fun _ => []) (fun _ => by kernel_rfl) (fun _ => ?_)
  refine WP.seq ?_
  refine WP.region ?_
  refine WL.run 2 [] [4, 5, 6] (fun _ => [(4, .bool false), (5, slcV A00 a0.length), (6, .int .u32 a1)]) (fun _ => []) (fun _ => []) (fun _ => by kernel_rfl) (fun _ => ?_)
  obtain ⟨r1, h2, hM⟩ := bind_some hM
  refine WL.callP [] [] (slices_Index_uint32_uint32_calls k A00 a0 a1 _ h2) (sub_pick [0] (by kernel_rfl)) (by kernel_rfl) (by kernel_rfl) rfl ?_
  refine WL.run 2 [] [4] (fun _ => [(4, .bool (decide (r1 ≥ 0)))]) (fun _ => []) (fun _ => []) (fun _ => by kernel_rfl) (fun _ => ?_)
  refine WP.done ?_
  obtain rfl := Option.some.inj hM
  exact WP.ret [] [] (.bool (decide (r1 ≥ 0))) (by kernel_rfl) (fun w' hw => ⟨rfl, (hw.pick [] rfl).lessF [0] (by kernel_rfl)⟩)

end Go.Proofs.YtbodofjnfmjbpaaGreatDoor

namespace Go.Proofs.YtbodofjnfmjbpaaGreatDoor
open Go Eng
set_option linter.unusedVariables false
set_option linter.unusedSimpArgs false

/-! ### gangway/vni.Peer: function 49 -/
def vni_Peer.k1 (x9 : Bool) : Option (Bool) :=
  some x9

def vni_Peer.f (k : Nat) (a0 : (List api_Seg)) (a1 : Int) (a2 : Int) : Option (Bool) :=
  (vni_By.f k a0 a1).bind fun (r1, r2) =>
  bif r2 then
    (slices_Contains_uint32_uint32.f k r1.Peers a2).bind fun r7 =>
    vni_Peer.k1 r7
  else
    vni_Peer.k1 false

set_option maxRecDepth 100000 in
theorem vni_Peer_calls (k : Nat) (A00 : SkL (SkL Unit)) (a0 : (List api_Seg)) (a1 : Int) (a2 : Int) (r : Bool) (h : vni_Peer.f k a0 a1 a2 = some r) : Pure Tryz.prog ([Row 3 api_Seg.encS api_Seg.inK A00 a0] ++ Glob) 49 #[slcV A00 a0.length, .int .i64 a1, .int .u32 a2] (.bool r) := by
  intro w Z hS
  refine calls_of (args := [slcV A00 a0.length, .int .i64 a1, .int .u32 a2]) (L := [(0, slcV A00 a0.length), (1, .int .i64 a1), (2, .int .u32 a2)]) (N := 22) (S := Sat w Z [] [] ([Row 3 api_Seg.encS api_Seg.inK A00 a0] ++ Glob)) Tryz.func49 rfl rfl (Nat.le_of_ble_eq_true rfl) rfl hS ?_
  have hM := h
  clear h hS
  unfold vni_Peer.f at hM
  refine WP.seq ?_
  refine WP.run [] [0, 1, 2, 6] (fun _ => [(0, slcV A00 a0.length), (1, .int .i64 a1), (2, .int .u32 a2), (6, .bool false)]) (fun _ => []) (fun _ => []) (fun _ => by kernel_rfl) (fun _ => ?_)
  refine WP.seq ?_
  refine WP.region ?_
  refine WL.run 2 [] [2, 6, 10, 11] (fun _ => [(2, .int .u32 a2), (6, .bool false), (10, slcV A00 a0.length), (11, .int .i64 a1)]) (fun _ => []) (fun _ => []) (fun _ => by kernel_rfl) (fun _ => ?_)
  obtain ⟨⟨r1, r2⟩, h3, hM⟩ := bind_some hM
  dsimp only at hM
  refine WL.callX (F0 := [Row 3 api_Seg.encS api_Seg.inK A00 a0]) [] [] [] (fun _ => _) [0] (by kernel_rfl) (vni_By_calls k A00 a0 a1 _ h3) rfl rfl (by kernel_rfl) (by kernel_rfl) (fun _ => rfl) (fun A4 => ?_)
  refine WL.run 6 [0, 0, 0] [2, 6, 7, 8] (fun b5 => [(2, .int .u32 a2), (6, .bool false), (7, .pointer (some ⟨b5, 0, none⟩)), (8, .bool r2)]) (fun b5 => [(b5, .cells #[.int .i64 r1.Vid, .int .i64 r1.Vni, slcV A4 r1.Peers.length] 35 (0, 0))]) (fun b5 => [b5, b5, b5]) (fun b5 => by kernel_rfl) (fun b5 => ?_)
  refine WP.done ?_
  refine WP.seq ?_
  refine WP.region ?_
  refine WL.run 2 [] [2, 6, 7, 16] (fun _ => [(2, .int .u32 a2), (6, .bool false), (7, .pointer (some ⟨b5, 0, none⟩)), (16, .bool r2)]) (fun _ => [(b5, .cells #[.int .i64 r1.Vid, .int .i64 r1.Vni, slcV A4 r1.Peers.length] 35 (0, 0))]) (fun _ => []) (fun _ => by kernel_rfl) (fun _ => ?_)
  refine WL.sub [2, 6, 7, 16] (L' := [(2, .int .u32 a2), (6, .bool false), (7, .pointer (some ⟨b5, 0, none⟩)), (16, .bool r2)]) (by kernel_rfl) ?_
  refine WL.join (σ := Bool) 5 (fun st => vni_Peer.k1 st = some r) (fun st => [(6, .bool false), (21, .bool st)]) (fun st => Sat w Z [] [] ([Row 1 (pl (encI .u32)) noK A4 r1.Peers, Row 3 api_Seg.encS api_Seg.inK A00 a0] ++ Glob)) (fun st hM => ?_) (fun K1 => ?_)
  ·
    obtain ⟨x9, rfl⟩ : ∃ y, y = st := ⟨st, rfl⟩
    replace hM : vni_Peer.k1 x9 = some r := hM
    unfold vni_Peer.k1 at hM
    show WL _ _ _ _ _ [(6, .bool false), (21, .bool x9)] (Sat w Z [] [] ([Row 1 (pl (encI .u32)) noK A4 r1.Peers, Row 3 api_Seg.encS api_Seg.inK A00 a0] ++ Glob))
    refine WL.run 1 [] [6] (fun _ => [(6, .bool x9)]) (fun _ => []) (fun _ => []) (fun _ => by kernel_rfl) (fun _ => ?_)
    refine WP.done ?_
    obtain rfl := Option.some.inj hM
    exact WP.ret [] [] (.bool x9) (by kernel_rfl) (fun w' hw => ⟨rfl, (hw.pick [] rfl).lessF [1] (by kernel_rfl)⟩)
  ·
    refine WL.split (fun b' => [(2, .int .u32 a2), (6, .bool false), (7, .pointer (some ⟨b5, 0, none⟩)), (16, .bool b')]) r2 (fun c6 => ?_) (fun c6 => ?_)
    · replace hM := cond_t hM c6
      refine WL.run 3 [0] [6, 16, 18, 19] (fun _ => [(6, .bool false), (16, .bool true), (18, slcV A4 r1.Peers.length), (19, .int .u32 a2)]) (fun _ => [(b5, .cells #[.int .i64 r1.Vid, .int .i64 r1.Vni, slcV A4 r1.Peers.length] 35 (0, 0))]) (fun _ => [b5]) (fun _ => by kernel_rfl) (fun _ => ?_)
      obtain ⟨r7, h8, hM⟩ := bind_some hM
      refine WL.callP [] [] (slices_Contains_uint32_uint32_calls k A4 r1.Peers a2 _ h8) (sub_pick [0] (by kernel_rfl)) (by kernel_rfl) (by kernel_rfl) rfl ?_
      refine WL.run 1 [] [6, 21] (fun _ => [(6, .bool false), (21, .bool r7)]) (fun _ => [(b5, .cells #[.int .i64 r1.Vid, .int .i64 r1.Vni, slcV A4 r1.Peers.length] 35 (0, 0))]) (fun _ => []) (fun _ => by kernel_rfl) (fun _ => ?_)
      exact WL.sub [6, 21] (by kernel_rfl) (WL.pick [] (by kernel_rfl) (by kernel_rfl) (WL.lessF [0, 1] (by kernel_rfl) (K1 r7 hM)))
    · replace hM := cond_f hM c6
      refine WL.run 5 [] [6, 21] (fun _ => [(6, .bool false), (21, .bool false)]) (fun _ => [(b5, .cells #[.int .i64 r1.Vid, .int .i64 r1.Vni, slcV A4 r1.Peers.length] 35 (0, 0))]) (fun _ => []) (fun _ => by kernel_rfl) (fun _ => ?_)
      exact WL.sub [6, 21] (by kernel_rfl) (WL.pick [] (by kernel_rfl) (by kernel_rfl) (WL.lessF [0, 1] (by kernel_rfl) (K1 false hM)))

end Go.Proofs.YtbodofjnfmjbpaaGreatDoor
