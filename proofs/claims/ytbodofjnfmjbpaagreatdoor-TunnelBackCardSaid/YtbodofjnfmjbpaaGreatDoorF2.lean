/- The walks of the functions that the laws reach: each shows that a call returns what its plain model says, wherever the model gives an answer. -/
import Derived.Test.YtbodofjnfmjbpaaGreatDoorF1

namespace Go.Proofs.YtbodofjnfmjbpaaGreatDoor
open Go Eng
set_option linter.unusedVariables false
set_option linter.unusedSimpArgs false

/-! ### gangway/octets.Put: function 38 -/
def octets_Put.k4 (t8 : Nat) (x24 : (List Int)) : Option (ByteArray × Int) :=
  (strOf t8 x24).bind fun t25 =>
  some (t25, 0)

def octets_Put.l3 (t8 : Nat) (a0 : Int) (a1 : Int) : Nat → Int → (List Int) → Option (ByteArray × Int)
  | 0, _, _ => none
  | n + 1, x17, x18 =>
    bif decide (x17 < (t8 : Int)) then
      (shrI .u64 a0 (i64 (8 * x17))).bind fun t20 =>
      (getL t8 x18 (i64 ((i64 (a1 - 1)) - x17))).bind fun t22 =>
      octets_Put.l3 t8 a0 a1 n (i64 (x17 + 1)) (List.set x18 (i64 ((i64 (a1 - 1)) - x17)).toNat (u8 t20))
    else
      octets_Put.k4 t8 x18

def octets_Put.k2 (a1 : Int) (a0 : Int) (k : Nat) (x6 : Bool) : Option (ByteArray × Int) :=
  bif x6 then
    some ((⟨#[]⟩ : ByteArray), 1)
  else
    (mkLen 1 a1).bind fun t8 =>
    octets_Put.l3 t8 a0 a1 k 0 (List.replicate t8 0)

def octets_Put.k1 (a1 : Int) (a0 : Int) (k : Nat) (x5 : Bool) : Option (ByteArray × Int) :=
  octets_Put.k2 a1 a0 k x5

def octets_Put.f (k : Nat) (a0 : Int) (a1 : Int) : Option (ByteArray × Int) :=
  bif ((decide (a1 < 1)) || (decide (a1 > 8))) then
    octets_Put.k2 a1 a0 k true
  else
    bif decide (a1 < 8) then
      (shrI .u64 a0 (i64 (8 * a1))).bind fun t3 =>
      octets_Put.k1 a1 a0 k (t3 != 0)
    else
      octets_Put.k1 a1 a0 k false

set_option maxRecDepth 100000 in
theorem octets_Put_calls (k : Nat) (a0 : Int) (a1 : Int) (r : ByteArray × Int) (h : octets_Put.f k a0 a1 = some r) : Pure Tryz.prog Glob 38 #[.int .u64 a0, .int .i64 a1] (.tuple #[.string r.1, .int .i64 r.2]) := by
  intro w Z hS
  refine calls_of (args := [.int .u64 a0, .int .i64 a1]) (L := [(0, .int .u64 a0), (1, .int .i64 a1)]) (N := 46) (S := Sat w Z [] [] Glob) Tryz.func38 rfl rfl (Nat.le_of_ble_eq_true rfl) rfl hS ?_
  have hM := h
  clear h hS
  unfold octets_Put.f at hM
  refine WP.seq ?_
  refine WP.run [] [0, 1, 4, 5] (fun _ => [(0, .int .u64 a0), (1, .int .i64 a1), (4, .string (⟨#[]⟩ : ByteArray)), (5, .int .i64 0)]) (fun _ => []) (fun _ => []) (fun _ => by kernel_rfl) (fun _ => ?_)
  refine WP.seq ?_
  refine WP.seq ?_
  refine WP.region ?_
  refine WL.run 3 [] [0, 1, 4, 5, 10] (fun _ => [(0, .int .u64 a0), (1, .int .i64 a1), (4, .string (⟨#[]⟩ : ByteArray)), (5, .int .i64 0), (10, .bool (decide (a1 < 1)))]) (fun _ => []) (fun _ => []) (fun _ => by kernel_rfl) (fun _ => ?_)
  refine WL.sub [0, 1, 4, 5, 10] (L' := [(0, .int .u64 a0), (1, .int .i64 a1), (4, .string (⟨#[]⟩ : ByteArray)), (5, .int .i64 0), (10, .bool (decide (a1 < 1)))]) (by kernel_rfl) ?_
  refine WL.both (fun b' => [(0, .int .u64 a0), (1, .int .i64 a1), (4, .string (⟨#[]⟩ : ByteArray)), (5, .int .i64 0), (10, .bool b')]) (decide (a1 < 1)) 3 [] [] [0, 1, 4, 5, 13] (fun b' => [(0, .int .u64 a0), (1, .int .i64 a1), (4, .string (⟨#[]⟩ : ByteArray)), (5, .int .i64 0), (13, .bool (b' || (decide (a1 > 8))))]) [] [] (fun _ => by kernel_rfl) (fun _ => by kernel_rfl) ?_
  refine WL.run 1 [] [0, 1, 4, 5, 14] (fun _ => [(0, .int .u64 a0), (1, .int .i64 a1), (4, .string (⟨#[]⟩ : ByteArray)), (5, .int .i64 0), (14, .bool ((decide (a1 < 1)) || (decide (a1 > 8))))]) (fun _ => []) (fun _ => []) (fun _ => by kernel_rfl) (fun _ => ?_)
  refine WL.sub [0, 1, 4, 5, 14] (L' := [(0, .int .u64 a0), (1, .int .i64 a1), (4, .string (⟨#[]⟩ : ByteArray)), (5, .int .i64 0), (14, .bool ((decide (a1 < 1)) || (decide (a1 > 8))))]) (by kernel_rfl) ?_
  refine WL.join (σ := Bool) 10 (fun st => octets_Put.k2 a1 a0 k st = some r) (fun st => [(0, .int .u64 a0), (1, .int .i64 a1), (4, .string (⟨#[]⟩ : ByteArray)), (5, .int .i64 0), (24, .bool st)]) (fun st => Sat w Z [] [] Glob) (fun st hM => ?_) (fun K2 => ?_)
  ·
    obtain ⟨x6, rfl⟩ : ∃ y, y = st := ⟨st, rfl⟩
    replace hM : octets_Put.k2 a1 a0 k x6 = some r := hM
    unfold octets_Put.k2 at hM
    show WL _ _ _ _ _ [(0, .int .u64 a0), (1, .int .i64 a1), (4, .string (⟨#[]⟩ : ByteArray)), (5, .int .i64 0), (24, .bool x6)] (Sat w Z [] [] Glob)
    refine WP.done ?_
    refine WP.cond x6 rfl rfl (fun c7 => ?_) (fun c7 => ?_)
    · replace hM := cond_t hM c7
      refine WP.seq ?_
      refine WP.run [] [0, 1, 4, 5] (fun _ => [(0, .int .u64 a0), (1, .int .i64 a1), (4, .string (⟨#[]⟩ : ByteArray)), (5, .int .i64 1)]) (fun _ => []) (fun _ => []) (fun _ => by kernel_rfl) (fun _ => ?_)
      obtain rfl := Option.some.inj hM
      exact WP.ret [] [] (.tuple #[.string (⟨#[]⟩ : ByteArray), .int .i64 1]) (by kernel_rfl) (fun w' hw => ⟨rfl, hw.pick [] rfl⟩)
    · replace hM := cond_f hM c7
      refine WP.skip ?_
      refine WP.seq ?_
      refine WP.region ?_
      refine WL.run 1 [] [0, 1, 4, 5, 25] (fun _ => [(0, .int .u64 a0), (1, .int .i64 a1), (4, .string (⟨#[]⟩ : ByteArray)), (5, .int .i64 0), (25, .int .i64 a1)]) (fun _ => []) (fun _ => []) (fun _ => by kernel_rfl) (fun _ => ?_)
      obtain ⟨t8, h9, hM⟩ := bind_some hM
      refine WL.makeSlice (f := (encI .u8)) (z := 0) (zv := .int .u8 0) (i := a1) (k := .i64) (e := 5) (by kernel_rfl) (by kernel_rfl) rfl Nat.zero_lt_one (fun _ => rfl) (by kernel_rfl) (by kernel_rfl) h9 (by kernel_rfl) rfl (fun b10 => ?_)
      refine WL.run 1 [] [0, 1, 4, 5, 6] (fun _ => [(0, .int .u64 a0), (1, .int .i64 a1), (4, .string (⟨#[]⟩ : ByteArray)), (5, .int .i64 0), (6, .slice (some ⟨b10, 0, none⟩) t8 t8)]) (fun _ => [(b10, .cells (rowF (encI .u8) (List.replicate t8 0)) 5 (0, 0))]) (fun _ => []) (fun _ => by kernel_rfl) (fun _ => ?_)
      refine WP.done ?_
      refine WP.seq ?_
      refine WP.seq ?_
      refine WP.run [] [0, 1, 4, 5, 6, 28, 29] (fun _ => [(0, .int .u64 a0), (1, .int .i64 a1), (4, .string (⟨#[]⟩ : ByteArray)), (5, .int .i64 0), (6, .slice (some ⟨b10, 0, none⟩) t8 t8), (28, .int .i64 (t8 : Int)), (29, .int .i64 0)]) (fun _ => [(b10, .cells (rowF (encI .u8) (List.replicate t8 0)) 5 (0, 0))]) (fun _ => []) (fun _ => by kernel_rfl) (fun _ => ?_)
      refine WP.blockJoin (σ := (List Int)) (fun st => octets_Put.k4 t8 st = some r) (fun st => [(4, .string (⟨#[]⟩ : ByteArray)), (5, .int .i64 0), (6, .slice (some ⟨b10, 0, none⟩) t8 t8)]) (fun st => Sat w Z [(b10, .cells (rowF (encI .u8) st) 5 (0, 0))] [] Glob) (fun st hM => ?_) (fun K4 => ?_)
      ·
        obtain ⟨x24, rfl⟩ : ∃ y, y = st := ⟨st, rfl⟩
        replace hM : octets_Put.k4 t8 x24 = some r := hM
        unfold octets_Put.k4 at hM
        show WP _ _ _ _ _ [(4, .string (⟨#[]⟩ : ByteArray)), (5, .int .i64 0), (6, .slice (some ⟨b10, 0, none⟩) t8 t8)] (Sat w Z [(b10, .cells (rowF (encI .u8) x24) 5 (0, 0))] [] Glob)
        refine WP.seq ?_
        refine WP.region ?_
        refine WL.run 1 [] [4, 5, 44] (fun _ => [(4, .string (⟨#[]⟩ : ByteArray)), (5, .int .i64 0), (44, .slice (some ⟨b10, 0, none⟩) t8 t8)]) (fun _ => [(b10, .cells (rowF (encI .u8) x24) 5 (0, 0))]) (fun _ => []) (fun _ => by kernel_rfl) (fun _ => ?_)
        obtain ⟨t25, h26, hM⟩ := bind_some hM
        refine WL.strOf (b := b10) (n := t8) (c := t8) (xs := x24) (e0 := 5) (fr := (0, 0)) 0 (e := 5) (by kernel_rfl) (by kernel_rfl) (by kernel_rfl) (by kernel_rfl) (by kernel_rfl) (by kernel_rfl) h26 (by kernel_rfl) rfl ?_
        refine WL.run 2 [] [4, 5] (fun _ => [(4, .string t25), (5, .int .i64 0)]) (fun _ => [(b10, .cells (rowF (encI .u8) x24) 5 (0, 0))]) (fun _ => []) (fun _ => by kernel_rfl) (fun _ => ?_)
        refine WP.done ?_
        refine WP.keep [false] (by kernel_rfl : _ = []) ?_
        obtain rfl := Option.some.inj hM
        exact WP.ret [] [] (.tuple #[.string t25, .int .i64 0]) (by kernel_rfl) (fun w' hw => ⟨rfl, hw.pick [] rfl⟩)
      ·
        refine WP.sub [0, 1, 4, 5, 6, 28, 29] (L' := [(0, .int .u64 a0), (1, .int .i64 a1), (4, .string (⟨#[]⟩ : ByteArray)), (5, .int .i64 0), (6, .slice (some ⟨b10, 0, none⟩) t8 t8), (28, .int .i64 (t8 : Int)), (29, .int .i64 0)]) (by kernel_rfl) ?_
        refine WP.loop (σ := Int × (List Int)) (fun n st => octets_Put.l3 t8 a0 a1 n st.1 st.2) r (fun st => [(0, .int .u64 a0), (1, .int .i64 a1), (4, .string (⟨#[]⟩ : ByteArray)), (5, .int .i64 0), (6, .slice (some ⟨b10, 0, none⟩) t8 t8), (28, .int .i64 (t8 : Int)), (29, .int .i64 st.1)]) (fun st => Sat w Z [(b10, .cells (rowF (encI .u8) st.2) 5 (0, 0))] [] Glob) (st := (0, (List.replicate t8 0))) (fun n st hM => ?_) hM
        rcases n with _ | n
        · exact nomatch (show (none : Option _) = some r from hM)
        obtain ⟨x17, x18⟩ := st
        replace hM : octets_Put.l3 t8 a0 a1 (n + 1) x17 x18 = some r := hM
        rw [octets_Put.l3] at hM
        show WP _ _ _ _ _ [(0, .int .u64 a0), (1, .int .i64 a1), (4, .string (⟨#[]⟩ : ByteArray)), (5, .int .i64 0), (6, .slice (some ⟨b10, 0, none⟩) t8 t8), (28, .int .i64 (t8 : Int)), (29, .int .i64 x17)] (Sat w Z [(b10, .cells (rowF (encI .u8) x18) 5 (0, 0))] [] Glob)
        refine WP.seq ?_
        refine WP.run [] [0, 1, 4, 5, 6, 28, 29, 30] (fun _ => [(0, .int .u64 a0), (1, .int .i64 a1), (4, .string (⟨#[]⟩ : ByteArray)), (5, .int .i64 0), (6, .slice (some ⟨b10, 0, none⟩) t8 t8), (28, .int .i64 (t8 : Int)), (29, .int .i64 x17), (30, .bool (decide (x17 < (t8 : Int))))]) (fun _ => [(b10, .cells (rowF (encI .u8) x18) 5 (0, 0))]) (fun _ => []) (fun _ => by kernel_rfl) (fun _ => ?_)
        refine WP.seq ?_
        refine WP.cond (decide (x17 < (t8 : Int))) rfl rfl (fun c19 => ?_) (fun c19 => ?_)
        · replace hM := cond_t hM c19
          refine WP.skip ?_
          refine WP.seq ?_
          refine WP.block ?_
          refine WP.seq ?_
          refine WP.run [] [0, 1, 4, 5, 6, 7, 28, 29, 30, 31] (fun _ => [(0, .int .u64 a0), (1, .int .i64 a1), (4, .string (⟨#[]⟩ : ByteArray)), (5, .int .i64 0), (6, .slice (some ⟨b10, 0, none⟩) t8 t8), (7, .int .i64 x17), (28, .int .i64 (t8 : Int)), (29, .int .i64 x17), (30, .bool (decide (x17 < (t8 : Int)))), (31, .int .i64 x17)]) (fun _ => [(b10, .cells (rowF (encI .u8) x18) 5 (0, 0))]) (fun _ => []) (fun _ => by kernel_rfl) (fun _ => ?_)
          refine WP.region ?_
          refine WL.run 8 [] [0, 1, 4, 5, 6, 7, 28, 29, 30, 31, 32, 33, 34, 35, 36, 37, 38, 39] (fun _ => [(0, .int .u64 a0), (1, .int .i64 a1), (4, .string (⟨#[]⟩ : ByteArray)), (5, .int .i64 0), (6, .slice (some ⟨b10, 0, none⟩) t8 t8), (7, .int .i64 x17), (28, .int .i64 (t8 : Int)), (29, .int .i64 x17), (30, .bool (decide (x17 < (t8 : Int)))), (31, .int .i64 x17), (32, .slice (some ⟨b10, 0, none⟩) t8 t8), (33, .int .i64 a1), (34, .int .i64 (i64 (a1 - 1))), (35, .int .i64 x17), (36, .int .i64 (i64 ((i64 (a1 - 1)) - x17))), (37, .int .u64 a0), (38, .int .i64 x17), (39, .int .i64 (i64 (8 * x17)))]) (fun _ => [(b10, .cells (rowF (encI .u8) x18) 5 (0, 0))]) (fun _ => []) (fun _ => by kernel_rfl) (fun _ => ?_)
          obtain ⟨t20, h21, hM⟩ := bind_some hM
          refine WL.val (fun _ => run_shr (k := .u64) (k' := .i64) (a := a0) (b := i64 (8 * x17)) (by kernel_rfl) (by kernel_rfl) h21) (by kernel_rfl) (by kernel_rfl) rfl ?_
          refine WL.run 1 [] [0, 1, 4, 5, 6, 7, 28, 29, 30, 31, 32, 33, 34, 35, 36, 37, 38, 39, 40, 41] (fun _ => [(0, .int .u64 a0), (1, .int .i64 a1), (4, .string (⟨#[]⟩ : ByteArray)), (5, .int .i64 0), (6, .slice (some ⟨b10, 0, none⟩) t8 t8), (7, .int .i64 x17), (28, .int .i64 (t8 : Int)), (29, .int .i64 x17), (30, .bool (decide (x17 < (t8 : Int)))), (31, .int .i64 x17), (32, .slice (some ⟨b10, 0, none⟩) t8 t8), (33, .int .i64 a1), (34, .int .i64 (i64 (a1 - 1))), (35, .int .i64 x17), (36, .int .i64 (i64 ((i64 (a1 - 1)) - x17))), (37, .int .u64 a0), (38, .int .i64 x17), (39, .int .i64 (i64 (8 * x17))), (40, .int .u64 t20), (41, .int .u8 (u8 t20))]) (fun _ => [(b10, .cells (rowF (encI .u8) x18) 5 (0, 0))]) (fun _ => []) (fun _ => by kernel_rfl) (fun _ => ?_)
          obtain ⟨t22, h23, hM⟩ := bind_some hM
          refine WL.val (fun _ => run_indexAddr (i := i64 ((i64 (a1 - 1)) - x17)) (k := .i64) (b := b10) (o := 0) (n := t8) (c := t8) (e := 5) (sz := 1) (by kernel_rfl) (by kernel_rfl) (by kernel_rfl) (by kernel_rfl) (getL_parts h23).1) (by kernel_rfl) (by kernel_rfl) rfl ?_
          refine WL.storeCell (b := b10) (off := 0 + (i64 ((i64 (a1 - 1)) - x17)).toNat * 1) (e := 5) (H' := [(b10, .cells (rowF (encI .u8) (List.set x18 (i64 ((i64 (a1 - 1)) - x17)).toNat (u8 t20))) 5 (0, 0))]) (v := .int .u8 (u8 t20)) (u := .int .u8 t22) 0 (fun _ => by kernel_rfl) (by kernel_rfl) (by kernel_rfl) (by kernel_rfl) (by kernel_rfl) rfl (by kernel_rfl) (rowF_at0 (f := (encI .u8)) (m := 1) (fun _ => rfl) Nat.zero_lt_one h23) (rowF_set0 (f := (encI .u8)) (m := 1) (x' := u8 t20) (fun _ => rfl) Nat.zero_lt_one h23 rfl) (by kernel_rfl) (by kernel_rfl) ?_
          refine WP.done ?_
          refine WP.leave ?_
          refine WP.run [] [0, 1, 4, 5, 6, 7, 28, 29, 30, 31, 32, 33, 34, 35, 36, 37, 38, 39, 40, 41, 42, 43] (fun _ => [(0, .int .u64 a0), (1, .int .i64 a1), (4, .string (⟨#[]⟩ : ByteArray)), (5, .int .i64 0), (6, .slice (some ⟨b10, 0, none⟩) t8 t8), (7, .int .i64 x17), (28, .int .i64 (t8 : Int)), (29, .int .i64 (i64 (x17 + 1))), (30, .bool (decide (x17 < (t8 : Int)))), (31, .int .i64 x17), (32, .slice (some ⟨b10, 0, none⟩) t8 t8), (33, .int .i64 a1), (34, .int .i64 (i64 (a1 - 1))), (35, .int .i64 x17), (36, .int .i64 (i64 ((i64 (a1 - 1)) - x17))), (37, .int .u64 a0), (38, .int .i64 x17), (39, .int .i64 (i64 (8 * x17))), (40, .int .u64 t20), (41, .int .u8 (u8 t20)), (42, .pointer (some ⟨b10, 0 + (i64 ((i64 (a1 - 1)) - x17)).toNat * 1, none⟩)), (43, .int .i64 (i64 (x17 + 1)))]) (fun _ => [(b10, .cells (rowF (encI .u8) (List.set x18 (i64 ((i64 (a1 - 1)) - x17)).toNat (u8 t20))) 5 (0, 0))]) (fun _ => []) (fun _ => by kernel_rfl) (fun _ => ?_)
          exact WP.again' [0, 1, 4, 5, 6, 28, 29] (i64 (x17 + 1), (List.set x18 (i64 ((i64 (a1 - 1)) - x17)).toNat (u8 t20))) hM (by kernel_rfl) (fun _ h => h.pick [0] (by kernel_rfl))
        · replace hM := cond_f hM c19
          refine WP.exit rfl ?_
          exact WP.sub [4, 5, 6] (by kernel_rfl) (WP.pick [0] (by kernel_rfl) (by kernel_rfl) (K4 x18 hM))
  ·
    refine WL.split (fun b' => [(0, .int .u64 a0), (1, .int .i64 a1), (4, .string (⟨#[]⟩ : ByteArray)), (5, .int .i64 0), (14, .bool b')]) ((decide (a1 < 1)) || (decide (a1 > 8))) (fun c1 => ?_) (fun c1 => ?_)
    · replace hM := cond_t hM c1
      refine WL.run 10 [] [0, 1, 4, 5, 24] (fun _ => [(0, .int .u64 a0), (1, .int .i64 a1), (4, .string (⟨#[]⟩ : ByteArray)), (5, .int .i64 0), (24, .bool true)]) (fun _ => []) (fun _ => []) (fun _ => by kernel_rfl) (fun _ => ?_)
      exact WL.sub [0, 1, 4, 5, 24] (by kernel_rfl) (WL.pick [] (by kernel_rfl) (by kernel_rfl) (K2 true hM))
    · replace hM := cond_f hM c1
      refine WL.run 3 [] [0, 1, 4, 5, 14, 17] (fun _ => [(0, .int .u64 a0), (1, .int .i64 a1), (4, .string (⟨#[]⟩ : ByteArray)), (5, .int .i64 0), (14, .bool false), (17, .bool (decide (a1 < 8)))]) (fun _ => []) (fun _ => []) (fun _ => by kernel_rfl) (fun _ => ?_)
      refine WL.sub [0, 1, 4, 5, 14, 17] (L' := [(0, .int .u64 a0), (1, .int .i64 a1), (4, .string (⟨#[]⟩ : ByteArray)), (5, .int .i64 0), (14, .bool false), (17, .bool (decide (a1 < 8)))]) (by kernel_rfl) ?_
      refine WL.join (σ := Bool) 6 (fun st => octets_Put.k1 a1 a0 k st = some r) (fun st => [(0, .int .u64 a0), (1, .int .i64 a1), (4, .string (⟨#[]⟩ : ByteArray)), (5, .int .i64 0), (14, .bool false), (23, .bool st)]) (fun st => Sat w Z [] [] Glob) (fun st hM => ?_) (fun K1 => ?_)
      ·
        obtain ⟨x5, rfl⟩ : ∃ y, y = st := ⟨st, rfl⟩
        replace hM : octets_Put.k1 a1 a0 k x5 = some r := hM
        unfold octets_Put.k1 at hM
        show WL _ _ _ _ _ [(0, .int .u64 a0), (1, .int .i64 a1), (4, .string (⟨#[]⟩ : ByteArray)), (5, .int .i64 0), (14, .bool false), (23, .bool x5)] (Sat w Z [] [] Glob)
        refine WL.run 1 [] [0, 1, 4, 5, 24] (fun _ => [(0, .int .u64 a0), (1, .int .i64 a1), (4, .string (⟨#[]⟩ : ByteArray)), (5, .int .i64 0), (24, .bool x5)]) (fun _ => []) (fun _ => []) (fun _ => by kernel_rfl) (fun _ => ?_)
        exact WL.sub [0, 1, 4, 5, 24] (by kernel_rfl) (WL.pick [] (by kernel_rfl) (by kernel_rfl) (K2 x5 hM))
      ·
        refine WL.split (fun b' => [(0, .int .u64 a0), (1, .int .i64 a1), (4, .string (⟨#[]⟩ : ByteArray)), (5, .int .i64 0), (14, .bool false), (17, .bool b')]) (decide (a1 < 8)) (fun c2 => ?_) (fun c2 => ?_)
        · replace hM := cond_t hM c2
          refine WL.run 3 [] [0, 1, 4, 5, 14, 17, 18, 20] (fun _ => [(0, .int .u64 a0), (1, .int .i64 a1), (4, .string (⟨#[]⟩ : ByteArray)), (5, .int .i64 0), (14, .bool false), (17, .bool true), (18, .int .u64 a0), (20, .int .i64 (i64 (8 * a1)))]) (fun _ => []) (fun _ => []) (fun _ => by kernel_rfl) (fun _ => ?_)
          obtain ⟨t3, h4, hM⟩ := bind_some hM
          refine WL.val (fun _ => run_shr (k := .u64) (k' := .i64) (a := a0) (b := i64 (8 * a1)) (by kernel_rfl) (by kernel_rfl) h4) (by kernel_rfl) (by kernel_rfl) rfl ?_
          refine WL.run 2 [] [0, 1, 4, 5, 14, 23] (fun _ => [(0, .int .u64 a0), (1, .int .i64 a1), (4, .string (⟨#[]⟩ : ByteArray)), (5, .int .i64 0), (14, .bool false), (23, .bool (t3 != 0))]) (fun _ => []) (fun _ => []) (fun _ => by kernel_rfl) (fun _ => ?_)
          exact WL.sub [0, 1, 4, 5, 14, 23] (by kernel_rfl) (WL.pick [] (by kernel_rfl) (by kernel_rfl) (K1 (t3 != 0) hM))
        · replace hM := cond_f hM c2
          refine WL.run 6 [] [0, 1, 4, 5, 14, 23] (fun _ => [(0, .int .u64 a0), (1, .int .i64 a1), (4, .string (⟨#[]⟩ : ByteArray)), (5, .int .i64 0), (14, .bool false), (23, .bool false)]) (fun _ => []) (fun _ => []) (fun _ => by kernel_rfl) (fun _ => ?_)
          exact WL.sub [0, 1, 4, 5, 14, 23] (by kernel_rfl) (WL.pick [] (by kernel_rfl) (by kernel_rfl) (K1 false hM))

end Go.Proofs.YtbodofjnfmjbpaaGreatDoor

namespace Go.Proofs.YtbodofjnfmjbpaaGreatDoor
open Go Eng
set_option linter.unusedVariables false
set_option linter.unusedSimpArgs false

/-! ### gangway/csum.Head: function 68 -/
def csum_Head.f (k : Nat) (a0 : Int) (a1 : Int) (a2 : Int) (a3 : Int) : Option (ByteArray) :=
  (octets_Put.f k (u64 a0) 4).bind fun (r1, r2) =>
  (octets_Put.f k (u64 a1) 4).bind fun (r4, r5) =>
  (octets_Put.f k (u64 (bAnd .i64 a3 65535)) 2).bind fun (r7, r8) =>
  (catS r1 r4).bind fun t10 =>
  (catS t10 (ByteArray.push (ByteArray.push ByteArray.empty (UInt8.ofNat (Int.toNat 0))) (UInt8.ofNat (Int.toNat (u8 a2))))).bind fun t13 =>
  (catS t13 r7).bind fun t15 =>
  some t15

set_option maxRecDepth 100000 in
theorem csum_Head_calls (k : Nat) (a0 : Int) (a1 : Int) (a2 : Int) (a3 : Int) (r : ByteArray) (h : csum_Head.f k a0 a1 a2 a3 = some r) : Pure Tryz.prog Glob 68 #[.int .u32 a0, .int .u32 a1, .int .i64 a2, .int .i64 a3] (.string r) := by
  intro w Z hS
  refine calls_of (args := [.int .u32 a0, .int .u32 a1, .int .i64 a2, .int .i64 a3]) (L := [(0, .int .u32 a0), (1, .int .u32 a1), (2, .int .i64 a2), (3, .int .i64 a3)]) (N := 44) (S := Sat w Z [] [] Glob) Tryz.func68 rfl rfl (Nat.le_of_ble_eq_true rfl) rfl hS ?_
  have hM := h
  clear h hS
  unfold csum_Head.f at hM
  refine WP.seq ?_
  refine WP.run [] [0, 1, 2, 3, 8] (fun _ => [(0, .int .u32 a0), (1, .int .u32 a1), (2, .int .i64 a2), (3, .int .i64 a3), (8, .string (⟨#[]⟩ : ByteArray))]) (fun _ => []) (fun _ => []) (fun _ => by kernel_rfl) (fun _ => ?_)
  refine WP.seq ?_
  refine WP.region ?_
  refine WL.run 2 [] [1, 2, 3, 8, 17] (fun _ => [(1, .int .u32 a1), (2, .int .i64 a2), (3, .int .i64 a3), (8, .string (⟨#[]⟩ : ByteArray)), (17, .int .u64 (u64 a0))]) (fun _ => []) (fun _ => []) (fun _ => by kernel_rfl) (fun _ => ?_)
  obtain ⟨⟨r1, r2⟩, h3, hM⟩ := bind_some hM
  dsimp only at hM
  refine WL.callP [] [] (octets_Put_calls k (u64 a0) 4 _ h3) (fun _ h => h) (by kernel_rfl) (by kernel_rfl) rfl ?_
  refine WL.run 5 [] [1, 2, 3, 8, 9] (fun _ => [(1, .int .u32 a1), (2, .int .i64 a2), (3, .int .i64 a3), (8, .string (⟨#[]⟩ : ByteArray)), (9, .string r1)]) (fun _ => []) (fun _ => []) (fun _ => by kernel_rfl) (fun _ => ?_)
  refine WP.done ?_
  refine WP.seq ?_
  refine WP.region ?_
  refine WL.run 2 [] [2, 3, 8, 9, 23] (fun _ => [(2, .int .i64 a2), (3, .int .i64 a3), (8, .string (⟨#[]⟩ : ByteArray)), (9, .string r1), (23, .int .u64 (u64 a1))]) (fun _ => []) (fun _ => []) (fun _ => by kernel_rfl) (fun _ => ?_)
  obtain ⟨⟨r4, r5⟩, h6, hM⟩ := bind_some hM
  dsimp only at hM
  refine WL.callP [] [] (octets_Put_calls k (u64 a1) 4 _ h6) (fun _ h => h) (by kernel_rfl) (by kernel_rfl) rfl ?_
  refine WL.run 5 [] [2, 3, 8, 9, 11] (fun _ => [(2, .int .i64 a2), (3, .int .i64 a3), (8, .string (⟨#[]⟩ : ByteArray)), (9, .string r1), (11, .string r4)]) (fun _ => []) (fun _ => []) (fun _ => by kernel_rfl) (fun _ => ?_)
  refine WP.done ?_
  refine WP.seq ?_
  refine WP.region ?_
  refine WL.run 3 [] [2, 8, 9, 11, 30] (fun _ => [(2, .int .i64 a2), (8, .string (⟨#[]⟩ : ByteArray)), (9, .string r1), (11, .string r4), (30, .int .u64 (u64 (bAnd .i64 a3 65535)))]) (fun _ => []) (fun _ => []) (fun _ => by kernel_rfl) (fun _ => ?_)
  obtain ⟨⟨r7, r8⟩, h9, hM⟩ := bind_some hM
  dsimp only at hM
  refine WL.callP [] [] (octets_Put_calls k (u64 (bAnd .i64 a3 65535)) 2 _ h9) (fun _ h => h) (by kernel_rfl) (by kernel_rfl) rfl ?_
  refine WL.run 5 [] [2, 8, 9, 11, 13] (fun _ => [(2, .int .i64 a2), (8, .string (⟨#[]⟩ : ByteArray)), (9, .string r1), (11, .string r4), (13, .string r7)]) (fun _ => []) (fun _ => []) (fun _ => by kernel_rfl) (fun _ => ?_)
  refine WP.done ?_
  refine WP.seq ?_
  refine WP.region ?_
  refine WL.run 2 [] [2, 8, 13, 34, 35] (fun _ => [(2, .int .i64 a2), (8, .string (⟨#[]⟩ : ByteArray)), (13, .string r7), (34, .string r1), (35, .string r4)]) (fun _ => []) (fun _ => []) (fun _ => by kernel_rfl) (fun _ => ?_)
  obtain ⟨t10, h11, hM⟩ := bind_some hM
  refine WL.val (fun _ => run_catS (a := r1) (b := r4) (by kernel_rfl) (by kernel_rfl) h11) (by kernel_rfl) (by kernel_rfl) rfl ?_
  refine WL.run 4 [0, 0] [8, 13, 36, 40] (fun b12 => [(8, .string (⟨#[]⟩ : ByteArray)), (13, .string r7), (36, .string t10), (40, .string (ByteArray.push (ByteArray.push ByteArray.empty (UInt8.ofNat (Int.toNat 0))) (UInt8.ofNat (Int.toNat (u8 a2)))))]) (fun b12 => [(b12, .cells #[.int .u8 0, .int .u8 (u8 a2)] 5 (0, 0))]) (fun b12 => [b12, b12]) (fun b12 => by kernel_rfl) (fun b12 => ?_)
  obtain ⟨t13, h14, hM⟩ := bind_some hM
  refine WL.val (fun _ => run_catS (a := t10) (b := (ByteArray.push (ByteArray.push ByteArray.empty (UInt8.ofNat (Int.toNat 0))) (UInt8.ofNat (Int.toNat (u8 a2))))) (by kernel_rfl) (by kernel_rfl) h14) (by kernel_rfl) (by kernel_rfl) rfl ?_
  refine WL.run 1 [] [8, 41, 42] (fun _ => [(8, .string (⟨#[]⟩ : ByteArray)), (41, .string t13), (42, .string r7)]) (fun _ => [(b12, .cells #[.int .u8 0, .int .u8 (u8 a2)] 5 (0, 0))]) (fun _ => []) (fun _ => by kernel_rfl) (fun _ => ?_)
  obtain ⟨t15, h16, hM⟩ := bind_some hM
  refine WL.val (fun _ => run_catS (a := t13) (b := r7) (by kernel_rfl) (by kernel_rfl) h16) (by kernel_rfl) (by kernel_rfl) rfl ?_
  refine WL.run 1 [] [8] (fun _ => [(8, .string t15)]) (fun _ => [(b12, .cells #[.int .u8 0, .int .u8 (u8 a2)] 5 (0, 0))]) (fun _ => []) (fun _ => by kernel_rfl) (fun _ => ?_)
  refine WP.done ?_
  refine WP.keep [false] (by kernel_rfl : _ = []) ?_
  obtain rfl := Option.some.inj hM
  exact WP.ret [] [] (.string t15) (by kernel_rfl) (fun w' hw => ⟨rfl, hw.pick [] rfl⟩)

end Go.Proofs.YtbodofjnfmjbpaaGreatDoor

namespace Go.Proofs.YtbodofjnfmjbpaaGreatDoor
open Go Eng
set_option linter.unusedVariables false
set_option linter.unusedSimpArgs false

/-! ### gangway/udp.wrong: function 113 -/
def udp_wrong.k1 (r2 : Int) (x21 : Bool) : Option (Int × Int) :=
  bif x21 then
    some (3, 0)
  else
    some (4, i64 r2)

def udp_wrong.f (k : Nat) (a0 : Int) (a1 : Int) (a2 : ByteArray) : Option (Int × Int) :=
  bif decide ((a2.size : Int) < 8) then
    some (0, 0)
  else
    (octets_Get.f k a2 4 2).bind fun (r2, r3) =>
    (octets_Get.f k a2 6 2).bind fun (r5, r6) =>
    bif decide ((i64 r2) < 8) then
      some (1, 0)
    else
      bif decide ((i64 r2) > (a2.size : Int)) then
        some (2, 0)
      else
        bif (r5 != 0) then
          (csum_Head.f k a0 a1 17 (i64 r2)).bind fun r13 =>
          (sliceS a2 0 (i64 r2)).bind fun t15 =>
          (csum_Right.f k ([r13, t15] : List ByteArray)).bind fun r18 =>
          udp_wrong.k1 r2 (!r18)
        else
          udp_wrong.k1 r2 false

set_option maxRecDepth 100000 in
theorem udp_wrong_calls (k : Nat) (a0 : Int) (a1 : Int) (a2 : ByteArray) (r : Int × Int) (h : udp_wrong.f k a0 a1 a2 = some r) : Pure Tryz.prog Glob 113 #[.int .u32 a0, .int .u32 a1, .string a2] (.tuple #[.int .i64 r.1, .int .i64 r.2]) := by
  intro w Z hS
  refine calls_of (args := [.int .u32 a0, .int .u32 a1, .string a2]) (L := [(0, .int .u32 a0), (1, .int .u32 a1), (2, .string a2)]) (N := 52) (S := Sat w Z [] [] Glob) Tryz.func113 rfl rfl (Nat.le_of_ble_eq_true rfl) rfl hS ?_
  have hM := h
  clear h hS
  unfold udp_wrong.f at hM
  refine WP.less (Φ' := [] ++ Glob) (fun _ h => h) ?_
  refine WP.seq ?_
  refine WP.run [] [0, 1, 2, 6, 7] (fun _ => [(0, .int .u32 a0), (1, .int .u32 a1), (2, .string a2), (6, .int .i64 0), (7, .int .i64 0)]) (fun _ => []) (fun _ => []) (fun _ => by kernel_rfl) (fun _ => ?_)
  refine WP.seq ?_
  refine WP.seq ?_
  refine WP.run [] [0, 1, 2, 6, 7, 15] (fun _ => [(0, .int .u32 a0), (1, .int .u32 a1), (2, .string a2), (6, .int .i64 0), (7, .int .i64 0), (15, .bool (decide ((a2.size : Int) < 8)))]) (fun _ => []) (fun _ => []) (fun _ => by kernel_rfl) (fun _ => ?_)
  refine WP.cond (decide ((a2.size : Int) < 8)) rfl rfl (fun c1 => ?_) (fun c1 => ?_)
  · replace hM := cond_t hM c1
    refine WP.seq ?_
    refine WP.run [] [0, 1, 2, 6, 7] (fun _ => [(0, .int .u32 a0), (1, .int .u32 a1), (2, .string a2), (6, .int .i64 0), (7, .int .i64 0)]) (fun _ => []) (fun _ => []) (fun _ => by kernel_rfl) (fun _ => ?_)
    obtain rfl := Option.some.inj hM
    exact WP.ret [] [] (.tuple #[.int .i64 0, .int .i64 0]) (by kernel_rfl) (fun w' hw => ⟨rfl, (hw.pick [] rfl).less (fun _ h => List.mem_append_right _ h)⟩)
  · replace hM := cond_f hM c1
    refine WP.skip ?_
    refine WP.seq ?_
    refine WP.region ?_
    refine WL.run 1 [] [0, 1, 2, 6, 7, 17] (fun _ => [(0, .int .u32 a0), (1, .int .u32 a1), (2, .string a2), (6, .int .i64 0), (7, .int .i64 0), (17, .string a2)]) (fun _ => []) (fun _ => []) (fun _ => by kernel_rfl) (fun _ => ?_)
    obtain ⟨⟨r2, r3⟩, h4, hM⟩ := bind_some hM
    dsimp only at hM
    refine WL.callP [] [] (octets_Get_calls k a2 4 2 _ h4) (fun _ h => List.mem_append_right _ h) (by kernel_rfl) (by kernel_rfl) rfl ?_
    refine WL.run 5 [] [0, 1, 2, 6, 7, 8] (fun _ => [(0, .int .u32 a0), (1, .int .u32 a1), (2, .string a2), (6, .int .i64 0), (7, .int .i64 0), (8, .int .u64 r2)]) (fun _ => []) (fun _ => []) (fun _ => by kernel_rfl) (fun _ => ?_)
    refine WP.done ?_
    refine WP.seq ?_
    refine WP.region ?_
    refine WL.run 1 [] [0, 1, 2, 6, 7, 8, 22] (fun _ => [(0, .int .u32 a0), (1, .int .u32 a1), (2, .string a2), (6, .int .i64 0), (7, .int .i64 0), (8, .int .u64 r2), (22, .string a2)]) (fun _ => []) (fun _ => []) (fun _ => by kernel_rfl) (fun _ => ?_)
    obtain ⟨⟨r5, r6⟩, h7, hM⟩ := bind_some hM
    dsimp only at hM
    refine WL.callP [] [] (octets_Get_calls k a2 6 2 _ h7) (fun _ h => List.mem_append_right _ h) (by kernel_rfl) (by kernel_rfl) rfl ?_
    refine WL.run 5 [] [0, 1, 2, 6, 7, 8, 10] (fun _ => [(0, .int .u32 a0), (1, .int .u32 a1), (2, .string a2), (6, .int .i64 0), (7, .int .i64 0), (8, .int .u64 r2), (10, .int .u64 r5)]) (fun _ => []) (fun _ => []) (fun _ => by kernel_rfl) (fun _ => ?_)
    refine WP.done ?_
    refine WP.seq ?_
    refine WP.run [] [0, 1, 2, 6, 7, 10, 12] (fun _ => [(0, .int .u32 a0), (1, .int .u32 a1), (2, .string a2), (6, .int .i64 0), (7, .int .i64 0), (10, .int .u64 r5), (12, .int .i64 (i64 r2))]) (fun _ => []) (fun _ => []) (fun _ => by kernel_rfl) (fun _ => ?_)
    refine WP.seq ?_
    refine WP.block ?_
    refine WP.seq ?_
    refine WP.run [] [0, 1, 2, 6, 7, 10, 12, 28] (fun _ => [(0, .int .u32 a0), (1, .int .u32 a1), (2, .string a2), (6, .int .i64 0), (7, .int .i64 0), (10, .int .u64 r5), (12, .int .i64 (i64 r2)), (28, .bool (decide ((i64 r2) < 8)))]) (fun _ => []) (fun _ => []) (fun _ => by kernel_rfl) (fun _ => ?_)
    refine WP.cond (decide ((i64 r2) < 8)) rfl rfl (fun c8 => ?_) (fun c8 => ?_)
    · replace hM := cond_t hM c8
      refine WP.seq ?_
      refine WP.run [] [6, 7, 12] (fun _ => [(6, .int .i64 1), (7, .int .i64 0), (12, .int .i64 (i64 r2))]) (fun _ => []) (fun _ => []) (fun _ => by kernel_rfl) (fun _ => ?_)
      obtain rfl := Option.some.inj hM
      exact WP.ret [] [] (.tuple #[.int .i64 1, .int .i64 0]) (by kernel_rfl) (fun w' hw => ⟨rfl, (hw.pick [] rfl).less (fun _ h => List.mem_append_right _ h)⟩)
    · replace hM := cond_f hM c8
      refine WP.seq ?_
      refine WP.run [] [0, 1, 2, 6, 7, 10, 12, 31] (fun _ => [(0, .int .u32 a0), (1, .int .u32 a1), (2, .string a2), (6, .int .i64 0), (7, .int .i64 0), (10, .int .u64 r5), (12, .int .i64 (i64 r2)), (31, .bool (decide ((i64 r2) > (a2.size : Int))))]) (fun _ => []) (fun _ => []) (fun _ => by kernel_rfl) (fun _ => ?_)
      refine WP.cond (decide ((i64 r2) > (a2.size : Int))) rfl rfl (fun c9 => ?_) (fun c9 => ?_)
      · replace hM := cond_t hM c9
        refine WP.seq ?_
        refine WP.run [] [6, 7, 12] (fun _ => [(6, .int .i64 2), (7, .int .i64 0), (12, .int .i64 (i64 r2))]) (fun _ => []) (fun _ => []) (fun _ => by kernel_rfl) (fun _ => ?_)
        obtain rfl := Option.some.inj hM
        exact WP.ret [] [] (.tuple #[.int .i64 2, .int .i64 0]) (by kernel_rfl) (fun w' hw => ⟨rfl, (hw.pick [] rfl).less (fun _ h => List.mem_append_right _ h)⟩)
      · replace hM := cond_f hM c9
        refine WP.seq ?_
        refine WP.join (σ := Bool) (fun st => udp_wrong.k1 r2 st = some r) (fun st => [(6, .int .i64 0), (7, .int .i64 0), (12, .int .i64 (i64 r2)), (36, .bool st)]) (fun st => Sat w Z [] [] ([] ++ Glob)) (fun st hM => ?_) (fun K1 => ?_)
        ·
          obtain ⟨x21, rfl⟩ : ∃ y, y = st := ⟨st, rfl⟩
          replace hM : udp_wrong.k1 r2 x21 = some r := hM
          unfold udp_wrong.k1 at hM
          show WP _ _ _ _ _ [(6, .int .i64 0), (7, .int .i64 0), (12, .int .i64 (i64 r2)), (36, .bool x21)] (Sat w Z [] [] ([] ++ Glob))
          refine WP.cond x21 rfl rfl (fun c22 => ?_) (fun c22 => ?_)
          · replace hM := cond_t hM c22
            refine WP.seq ?_
            refine WP.run [] [6, 7, 12] (fun _ => [(6, .int .i64 3), (7, .int .i64 0), (12, .int .i64 (i64 r2))]) (fun _ => []) (fun _ => []) (fun _ => by kernel_rfl) (fun _ => ?_)
            obtain rfl := Option.some.inj hM
            exact WP.ret [] [] (.tuple #[.int .i64 3, .int .i64 0]) (by kernel_rfl) (fun w' hw => ⟨rfl, (hw.pick [] rfl).less (fun _ h => List.mem_append_right _ h)⟩)
          · replace hM := cond_f hM c22
            refine WP.skip ?_
            refine WP.leave ?_
            refine WP.seq ?_
            refine WP.run [] [6, 7] (fun _ => [(6, .int .i64 4), (7, .int .i64 (i64 r2))]) (fun _ => []) (fun _ => []) (fun _ => by kernel_rfl) (fun _ => ?_)
            obtain rfl := Option.some.inj hM
            exact WP.ret [] [] (.tuple #[.int .i64 4, .int .i64 (i64 r2)]) (by kernel_rfl) (fun w' hw => ⟨rfl, (hw.pick [] rfl).less (fun _ h => List.mem_append_right _ h)⟩)
        ·
          refine WP.byBool (r5 != 0) (fun c11 => ?_) (fun c11 => ?_)
          · replace hM := cond_t hM c11
            obtain ⟨r13, h14, hM⟩ := bind_some hM
            obtain ⟨t15, h16, hM⟩ := bind_some hM
            refine WP.sub [0, 1, 2, 6, 7, 10, 12] (L' := [(0, .int .u32 a0), (1, .int .u32 a1), (2, .string a2), (6, .int .i64 0), (7, .int .i64 0), (10, .int .u64 r5), (12, .int .i64 (i64 r2))]) (by kernel_rfl) ?_
            refine WP.mixed (X := Unit) 10 [.val (.int .u64 r5), .val (.bool true), .val (.bool true), .val (.int .u32 a0), .val (.int .u32 a1), .val (.int .i64 (i64 r2)), .val (.string r13), .val (.string a2), .val (.int .i64 (i64 r2)), .val (.string t15)] [] [] (by kernel_rfl) (by kernel_rfl) (by kernel_rfl) (by kernel_rfl) (Heads.val (fun tt Ψ => OpV.run [] [] (by kernel_rfl) (fun _ => by kernel_rfl)) (Heads.val (fun tt Ψ => OpV.cast (congrArg Value.bool c11) (OpV.run [] [] (by kernel_rfl) (fun _ => by kernel_rfl))) (Heads.val (fun tt Ψ => OpV.run [] [] (by kernel_rfl) (fun _ => by kernel_rfl)) (Heads.val (fun tt Ψ => OpV.run [] [] (by kernel_rfl) (fun _ => by kernel_rfl)) (Heads.val (fun tt Ψ => OpV.run [] [] (by kernel_rfl) (fun _ => by kernel_rfl)) (Heads.val (fun tt Ψ => OpV.run [] [] (by kernel_rfl) (fun _ => by kernel_rfl)) (Heads.val (fun tt Ψ => OpV.callF [] [] (fun _ h => (List.mem_append_right _ (List.mem_append_right _ h))) (csum_Head_calls k a0 a1 17 (i64 r2) _ h14)  (fun _ => by kernel_rfl)) (Heads.val (fun tt Ψ => OpV.run [] [] (by kernel_rfl) (fun _ => by kernel_rfl)) (Heads.val (fun tt Ψ => OpV.run [] [] (by kernel_rfl) (fun _ => by kernel_rfl)) (Heads.val (fun tt Ψ => OpV.val (fun _ => run_sliceS_hi (s := a2) (kh := .i64) (h := i64 r2) (by kernel_rfl) (by kernel_rfl) (by kernel_rfl) h16) (by kernel_rfl)) Heads.nil)))))))))) (fun s12 tt => [(37, .int .u64 r5), (38, .bool true), (39, .bool true), (40, .int .u32 a0), (41, .int .u32 a1), (42, .int .i64 (i64 r2)), (43, .string r13), (44, .string a2), (45, .int .i64 (i64 r2)), (46, .string t15), (0, .int .u32 a0), (1, .int .u32 a1), (2, .string a2), (6, .int .i64 0), (7, .int .i64 0), (10, .int .u64 r5), (12, .int .i64 (i64 r2))]) (fun s12 tt => []) (fun tt => ([] ++ []) ++ Glob) (fun _ _ => by kernel_rfl) (fun _ _ => by kernel_rfl) (fun _ => by kernel_rfl) (fun s12 tt => ?_)
            refine WL.run 1 [] [6, 7, 12, 39, 47] (fun b17 => [(6, .int .i64 0), (7, .int .i64 0), (12, .int .i64 (i64 r2)), (39, .bool true), (47, .slice (some ⟨b17, 0, none⟩) 2 2)]) (fun b17 => [(b17, .cells #[.string r13, .string t15] 9 (0, 0))]) (fun b17 => []) (fun b17 => by kernel_rfl) (fun b17 => ?_)
            refine WL.ice (H' := []) (Row 1 (pl encS) noK (SkL.at b17 2 (fun _ => ())) ([r13, t15] : List ByteArray)) 0 (b := b17) (ob := .cells #[.string r13, .string t15] 9 (0, 0)) (by kernel_rfl) [] [] (by kernel_rfl) (fun w hb hψ => row_of_block hb (fun _ _ => rfl) ⟨[], by kernel_rfl⟩ (Nat.le_of_ble_eq_true rfl) (InK.no _ _)) (by kernel_rfl) ?_
            obtain ⟨r18, h19, hM⟩ := bind_some hM
            refine WL.callP [] [] (csum_Right_calls k (SkL.at b17 2 (fun _ => ())) ([r13, t15] : List ByteArray) _ h19) (sub_pick [0] (by kernel_rfl)) (by kernel_rfl) (by kernel_rfl) rfl ?_
            refine WL.run 3 [] [6, 7, 12, 36] (fun _ => [(6, .int .i64 0), (7, .int .i64 0), (12, .int .i64 (i64 r2)), (36, .bool (!r18))]) (fun _ => []) (fun _ => []) (fun _ => by kernel_rfl) (fun _ => ?_)
            refine WP.done ?_
            exact WP.sub [6, 7, 12, 36] (by kernel_rfl) (WP.pick [] (by kernel_rfl) (by kernel_rfl) (WP.lessF [] (by kernel_rfl) (K1 (!r18) hM)))
          · replace hM := cond_f hM c11
            refine WP.sub [0, 1, 2, 6, 7, 10, 12] (L' := [(0, .int .u32 a0), (1, .int .u32 a1), (2, .string a2), (6, .int .i64 0), (7, .int .i64 0), (10, .int .u64 r5), (12, .int .i64 (i64 r2))]) (by kernel_rfl) ?_
            refine WP.mixed (X := Unit) 10 [.val (.int .u64 r5), .val (.bool false), .val (.bool false), .skip, .skip, .skip, .skip, .skip, .skip, .skip] [] [] (by kernel_rfl) (by kernel_rfl) (by kernel_rfl) (by kernel_rfl) (Heads.val (fun tt Ψ => OpV.run [] [] (by kernel_rfl) (fun _ => by kernel_rfl)) (Heads.val (fun tt Ψ => OpV.cast (congrArg Value.bool c11) (OpV.run [] [] (by kernel_rfl) (fun _ => by kernel_rfl))) (Heads.val (fun tt Ψ => OpV.run [] [] (by kernel_rfl) (fun _ => by kernel_rfl)) (Heads.skip (fun _ => by kernel_rfl) (Heads.skip (fun _ => by kernel_rfl) (Heads.skip (fun _ => by kernel_rfl) (Heads.skip (fun _ => by kernel_rfl) (Heads.skip (fun _ => by kernel_rfl) (Heads.skip (fun _ => by kernel_rfl) (Heads.skip (fun _ => by kernel_rfl) Heads.nil)))))))))) (fun s20 tt => [(37, .int .u64 r5), (38, .bool false), (39, .bool false), (40, .tuple #[]), (41, .tuple #[]), (42, .tuple #[]), (43, .tuple #[]), (44, .tuple #[]), (45, .tuple #[]), (46, .tuple #[]), (0, .int .u32 a0), (1, .int .u32 a1), (2, .string a2), (6, .int .i64 0), (7, .int .i64 0), (10, .int .u64 r5), (12, .int .i64 (i64 r2))]) (fun s20 tt => []) (fun tt => ([] ++ []) ++ Glob) (fun _ _ => by kernel_rfl) (fun _ _ => by kernel_rfl) (fun _ => by kernel_rfl) (fun s20 tt => ?_)
            refine WL.run 5 [] [6, 7, 12, 36] (fun _ => [(6, .int .i64 0), (7, .int .i64 0), (12, .int .i64 (i64 r2)), (36, .bool false)]) (fun _ => []) (fun _ => []) (fun _ => by kernel_rfl) (fun _ => ?_)
            refine WP.done ?_
            exact WP.sub [6, 7, 12, 36] (by kernel_rfl) (WP.pick [] (by kernel_rfl) (by kernel_rfl) (WP.lessF [] (by kernel_rfl) (K1 false hM)))

end Go.Proofs.YtbodofjnfmjbpaaGreatDoor

namespace Go.Proofs.YtbodofjnfmjbpaaGreatDoor
open Go Eng
set_option linter.unusedVariables false
set_option linter.unusedSimpArgs false

/-! ### gangway/udp.Parse: function 91 -/
def udp_Parse.k1 : Option (api_Udp × Int) :=
  some ((api_Udp.mk 0 0 false (⟨#[]⟩ : ByteArray)), 70)

def udp_Parse.f (k : Nat) (a0 : Int) (a1 : Int) (a2 : ByteArray) : Option (api_Udp × Int) :=
  (udp_wrong.f k a0 a1 a2).bind fun (r2, r3) =>
  bif (r2 == 0) then
    udp_Parse.k1
  else
    bif (r2 == 2) then
      udp_Parse.k1
    else
      bif (r2 == 1) then
        some ((api_Udp.mk 0 0 false (⟨#[]⟩ : ByteArray)), 71)
      else
        bif (r2 == 3) then
          some ((api_Udp.mk 0 0 false (⟨#[]⟩ : ByteArray)), 72)
        else
          (octets_Get.f k a2 0 2).bind fun (r9, r10) =>
          (octets_Get.f k a2 2 2).bind fun (r12, r13) =>
          (sliceS a2 6 8).bind fun t16 =>
          (sliceS a2 8 r3).bind fun t18 =>
          some ((api_Udp.mk (i64 r9) (i64 r12) (t16.toList == (⟨#[0, 0]⟩ : ByteArray).toList) t18), 0)

set_option maxRecDepth 100000 in
theorem udp_Parse_calls (k : Nat) (a0 : Int) (a1 : Int) (a2 : ByteArray) (r : api_Udp × Int) (h : udp_Parse.f k a0 a1 a2 = some r) : Pure Tryz.prog Glob 91 #[.int .u32 a0, .int .u32 a1, .string a2] (.tuple #[.agg #[.int .i64 r.1.Src, .int .i64 r.1.Dst, .bool r.1.NoSum, .string r.1.Body], .int .i64 r.2]) := by
  intro w Z hS
  refine calls_of (args := [.int .u32 a0, .int .u32 a1, .string a2]) (L := [(0, .int .u32 a0), (1, .int .u32 a1), (2, .string a2)]) (N := 54) (S := Sat w Z [] [] Glob) Tryz.func91 rfl rfl (Nat.le_of_ble_eq_true rfl) rfl hS ?_
  have hM := h
  clear h hS
  unfold udp_Parse.f at hM
  refine WP.seq ?_
  refine WP.run [] [0, 1, 2, 6, 7] (fun b1 => [(0, .int .u32 a0), (1, .int .u32 a1), (2, .string a2), (6, .pointer (some ⟨b1, 0, none⟩)), (7, .int .i64 0)]) (fun b1 => [(b1, .cells #[.int .i64 0, .int .i64 0, .bool false, .string (⟨#[]⟩ : ByteArray)] 40 (0, 0))]) (fun b1 => []) (fun b1 => by kernel_rfl) (fun b1 => ?_)
  refine WP.seq ?_
  refine WP.region ?_
  refine WL.run 3 [] [2, 6, 7, 15, 16, 17] (fun _ => [(2, .string a2), (6, .pointer (some ⟨b1, 0, none⟩)), (7, .int .i64 0), (15, .int .u32 a0), (16, .int .u32 a1), (17, .string a2)]) (fun _ => [(b1, .cells #[.int .i64 0, .int .i64 0, .bool false, .string (⟨#[]⟩ : ByteArray)] 40 (0, 0))]) (fun _ => []) (fun _ => by kernel_rfl) (fun _ => ?_)
  obtain ⟨⟨r2, r3⟩, h4, hM⟩ := bind_some hM
  dsimp only at hM
  refine WL.callP [] [] (udp_wrong_calls k a0 a1 a2 _ h4) (fun _ h => h) (by kernel_rfl) (by kernel_rfl) rfl ?_
  refine WL.run 5 [] [2, 6, 7, 8, 9] (fun _ => [(2, .string a2), (6, .pointer (some ⟨b1, 0, none⟩)), (7, .int .i64 0), (8, .int .i64 r2), (9, .int .i64 r3)]) (fun _ => [(b1, .cells #[.int .i64 0, .int .i64 0, .bool false, .string (⟨#[]⟩ : ByteArray)] 40 (0, 0))]) (fun _ => []) (fun _ => by kernel_rfl) (fun _ => ?_)
  refine WP.done ?_
  refine WP.seq ?_
  refine WP.seq ?_
  refine WP.run [] [2, 6, 7, 9, 21] (fun _ => [(2, .string a2), (6, .pointer (some ⟨b1, 0, none⟩)), (7, .int .i64 0), (9, .int .i64 r3), (21, .int .i64 r2)]) (fun _ => [(b1, .cells #[.int .i64 0, .int .i64 0, .bool false, .string (⟨#[]⟩ : ByteArray)] 40 (0, 0))]) (fun _ => []) (fun _ => by kernel_rfl) (fun _ => ?_)
  refine WP.block ?_
  refine WP.seq ?_
  refine WP.block ?_
  refine WP.seq ?_
  refine WP.block ?_
  refine WP.seq ?_
  refine WP.blockJoin (σ := Unit) (fun st => udp_Parse.k1 = some r) (fun st => [(2, .string a2), (6, .pointer (some ⟨b1, 0, none⟩)), (7, .int .i64 0), (9, .int .i64 r3)]) (fun st => Sat w Z [(b1, .cells #[.int .i64 0, .int .i64 0, .bool false, .string (⟨#[]⟩ : ByteArray)] 40 (0, 0))] [] Glob) (fun st hM => ?_) (fun K1 => ?_)
  ·
    replace hM : udp_Parse.k1 = some r := hM
    unfold udp_Parse.k1 at hM
    show WP _ _ _ _ _ [(2, .string a2), (6, .pointer (some ⟨b1, 0, none⟩)), (7, .int .i64 0), (9, .int .i64 r3)] (Sat w Z [(b1, .cells #[.int .i64 0, .int .i64 0, .bool false, .string (⟨#[]⟩ : ByteArray)] 40 (0, 0))] [] Glob)
    refine WP.seq ?_
    refine WP.seq ?_
    refine WP.run [0, 0, 0, 0] [2, 6, 7, 9] (fun _ => [(2, .string a2), (6, .pointer (some ⟨b1, 0, none⟩)), (7, .int .i64 70), (9, .int .i64 r3)]) (fun _ => [(b1, .cells #[.int .i64 0, .int .i64 0, .bool false, .string (⟨#[]⟩ : ByteArray)] 40 (0, 0))]) (fun _ => [b1, b1, b1, b1]) (fun _ => by kernel_rfl) (fun _ => ?_)
    obtain rfl := Option.some.inj hM
    exact WP.ret [0, 0, 0, 0] [b1, b1, b1, b1] (.tuple #[.agg #[.int .i64 0, .int .i64 0, .bool false, .string (⟨#[]⟩ : ByteArray)], .int .i64 70]) (by kernel_rfl) (fun w' hw => ⟨rfl, hw.pick [] rfl⟩)
  ·
    refine WP.block ?_
    refine WP.seq ?_
    refine WP.seq ?_
    refine WP.seq ?_
    refine WP.run [] [2, 6, 7, 9, 21, 22] (fun _ => [(2, .string a2), (6, .pointer (some ⟨b1, 0, none⟩)), (7, .int .i64 0), (9, .int .i64 r3), (21, .int .i64 r2), (22, .bool (r2 == 0))]) (fun _ => [(b1, .cells #[.int .i64 0, .int .i64 0, .bool false, .string (⟨#[]⟩ : ByteArray)] 40 (0, 0))]) (fun _ => []) (fun _ => by kernel_rfl) (fun _ => ?_)
    refine WP.cond (r2 == 0) rfl rfl (fun c5 => ?_) (fun c5 => ?_)
    · replace hM := cond_t hM c5
      refine WP.exit rfl ?_
      refine WP.leave ?_
      exact WP.sub [2, 6, 7, 9] (by kernel_rfl) (WP.pick [0] (by kernel_rfl) (by kernel_rfl) (K1 () hM))
    · replace hM := cond_f hM c5
      refine WP.skip ?_
      refine WP.seq ?_
      refine WP.seq ?_
      refine WP.run [] [2, 6, 7, 9, 21, 24] (fun _ => [(2, .string a2), (6, .pointer (some ⟨b1, 0, none⟩)), (7, .int .i64 0), (9, .int .i64 r3), (21, .int .i64 r2), (24, .bool (r2 == 2))]) (fun _ => [(b1, .cells #[.int .i64 0, .int .i64 0, .bool false, .string (⟨#[]⟩ : ByteArray)] 40 (0, 0))]) (fun _ => []) (fun _ => by kernel_rfl) (fun _ => ?_)
      refine WP.cond (r2 == 2) rfl rfl (fun c6 => ?_) (fun c6 => ?_)
      · replace hM := cond_t hM c6
        refine WP.exit rfl ?_
        exact WP.sub [2, 6, 7, 9] (by kernel_rfl) (WP.pick [0] (by kernel_rfl) (by kernel_rfl) (K1 () hM))
      · replace hM := cond_f hM c6
        refine WP.skip ?_
        refine WP.seq ?_
        refine WP.seq ?_
        refine WP.run [] [2, 6, 7, 9, 21, 26] (fun _ => [(2, .string a2), (6, .pointer (some ⟨b1, 0, none⟩)), (7, .int .i64 0), (9, .int .i64 r3), (21, .int .i64 r2), (26, .bool (r2 == 1))]) (fun _ => [(b1, .cells #[.int .i64 0, .int .i64 0, .bool false, .string (⟨#[]⟩ : ByteArray)] 40 (0, 0))]) (fun _ => []) (fun _ => by kernel_rfl) (fun _ => ?_)
        refine WP.cond (r2 == 1) rfl rfl (fun c7 => ?_) (fun c7 => ?_)
        · replace hM := cond_t hM c7
          refine WP.exit rfl ?_
          refine WP.seq ?_
          refine WP.seq ?_
          refine WP.run [0, 0, 0, 0] [2, 6, 7, 9] (fun _ => [(2, .string a2), (6, .pointer (some ⟨b1, 0, none⟩)), (7, .int .i64 71), (9, .int .i64 r3)]) (fun _ => [(b1, .cells #[.int .i64 0, .int .i64 0, .bool false, .string (⟨#[]⟩ : ByteArray)] 40 (0, 0))]) (fun _ => [b1, b1, b1, b1]) (fun _ => by kernel_rfl) (fun _ => ?_)
          obtain rfl := Option.some.inj hM
          exact WP.ret [0, 0, 0, 0] [b1, b1, b1, b1] (.tuple #[.agg #[.int .i64 0, .int .i64 0, .bool false, .string (⟨#[]⟩ : ByteArray)], .int .i64 71]) (by kernel_rfl) (fun w' hw => ⟨rfl, hw.pick [] rfl⟩)
        · replace hM := cond_f hM c7
          refine WP.skip ?_
          refine WP.seq ?_
          refine WP.run [] [2, 6, 7, 9, 28] (fun _ => [(2, .string a2), (6, .pointer (some ⟨b1, 0, none⟩)), (7, .int .i64 0), (9, .int .i64 r3), (28, .bool (r2 == 3))]) (fun _ => [(b1, .cells #[.int .i64 0, .int .i64 0, .bool false, .string (⟨#[]⟩ : ByteArray)] 40 (0, 0))]) (fun _ => []) (fun _ => by kernel_rfl) (fun _ => ?_)
          refine WP.cond (r2 == 3) rfl rfl (fun c8 => ?_) (fun c8 => ?_)
          · replace hM := cond_t hM c8
            refine WP.exit rfl ?_
            refine WP.seq ?_
            refine WP.seq ?_
            refine WP.run [0, 0, 0, 0] [2, 6, 7, 9] (fun _ => [(2, .string a2), (6, .pointer (some ⟨b1, 0, none⟩)), (7, .int .i64 72), (9, .int .i64 r3)]) (fun _ => [(b1, .cells #[.int .i64 0, .int .i64 0, .bool false, .string (⟨#[]⟩ : ByteArray)] 40 (0, 0))]) (fun _ => [b1, b1, b1, b1]) (fun _ => by kernel_rfl) (fun _ => ?_)
            obtain rfl := Option.some.inj hM
            exact WP.ret [0, 0, 0, 0] [b1, b1, b1, b1] (.tuple #[.agg #[.int .i64 0, .int .i64 0, .bool false, .string (⟨#[]⟩ : ByteArray)], .int .i64 72]) (by kernel_rfl) (fun w' hw => ⟨rfl, hw.pick [] rfl⟩)
          · replace hM := cond_f hM c8
            refine WP.skip ?_
            refine WP.exit rfl ?_
            refine WP.seq ?_
            refine WP.region ?_
            refine WL.run 1 [] [2, 6, 7, 9, 34] (fun _ => [(2, .string a2), (6, .pointer (some ⟨b1, 0, none⟩)), (7, .int .i64 0), (9, .int .i64 r3), (34, .string a2)]) (fun _ => [(b1, .cells #[.int .i64 0, .int .i64 0, .bool false, .string (⟨#[]⟩ : ByteArray)] 40 (0, 0))]) (fun _ => []) (fun _ => by kernel_rfl) (fun _ => ?_)
            obtain ⟨⟨r9, r10⟩, h11, hM⟩ := bind_some hM
            dsimp only at hM
            refine WL.callP [] [] (octets_Get_calls k a2 0 2 _ h11) (fun _ h => h) (by kernel_rfl) (by kernel_rfl) rfl ?_
            refine WL.run 5 [] [2, 6, 7, 9, 10] (fun _ => [(2, .string a2), (6, .pointer (some ⟨b1, 0, none⟩)), (7, .int .i64 0), (9, .int .i64 r3), (10, .int .u64 r9)]) (fun _ => [(b1, .cells #[.int .i64 0, .int .i64 0, .bool false, .string (⟨#[]⟩ : ByteArray)] 40 (0, 0))]) (fun _ => []) (fun _ => by kernel_rfl) (fun _ => ?_)
            refine WP.done ?_
            refine WP.seq ?_
            refine WP.region ?_
            refine WL.run 1 [] [2, 6, 7, 9, 10, 39] (fun _ => [(2, .string a2), (6, .pointer (some ⟨b1, 0, none⟩)), (7, .int .i64 0), (9, .int .i64 r3), (10, .int .u64 r9), (39, .string a2)]) (fun _ => [(b1, .cells #[.int .i64 0, .int .i64 0, .bool false, .string (⟨#[]⟩ : ByteArray)] 40 (0, 0))]) (fun _ => []) (fun _ => by kernel_rfl) (fun _ => ?_)
            obtain ⟨⟨r12, r13⟩, h14, hM⟩ := bind_some hM
            dsimp only at hM
            refine WL.callP [] [] (octets_Get_calls k a2 2 2 _ h14) (fun _ h => h) (by kernel_rfl) (by kernel_rfl) rfl ?_
            refine WL.run 5 [] [2, 6, 7, 9, 10, 12] (fun _ => [(2, .string a2), (6, .pointer (some ⟨b1, 0, none⟩)), (7, .int .i64 0), (9, .int .i64 r3), (10, .int .u64 r9), (12, .int .u64 r12)]) (fun _ => [(b1, .cells #[.int .i64 0, .int .i64 0, .bool false, .string (⟨#[]⟩ : ByteArray)] 40 (0, 0))]) (fun _ => []) (fun _ => by kernel_rfl) (fun _ => ?_)
            refine WP.done ?_
            refine WP.seq ?_
            obtain ⟨t16, h17, hM⟩ := bind_some hM
            obtain ⟨t18, h19, hM⟩ := bind_some hM
            refine WP.sub [2, 6, 7, 9, 10, 12] (L' := [(2, .string a2), (6, .pointer (some ⟨b1, 0, none⟩)), (7, .int .i64 0), (9, .int .i64 r3), (10, .int .u64 r9), (12, .int .u64 r12)]) (by kernel_rfl) ?_
            refine WP.mixed (X := Unit) 10 [.val (.int .u64 r9), .val (.int .i64 (i64 r9)), .val (.int .u64 r12), .val (.int .i64 (i64 r12)), .val (.string a2), .val (.string t16), .val (.bool (t16.toList == (⟨#[0, 0]⟩ : ByteArray).toList)), .val (.string a2), .val (.int .i64 r3), .val (.string t18)] [(b1, .cells #[.int .i64 0, .int .i64 0, .bool false, .string (⟨#[]⟩ : ByteArray)] 40 (0, 0))] [] (by kernel_rfl) (by kernel_rfl) (by kernel_rfl) (by kernel_rfl) (Heads.val (fun tt Ψ => OpV.run [] [] (by kernel_rfl) (fun _ => by kernel_rfl)) (Heads.val (fun tt Ψ => OpV.run [] [] (by kernel_rfl) (fun _ => by kernel_rfl)) (Heads.val (fun tt Ψ => OpV.run [] [] (by kernel_rfl) (fun _ => by kernel_rfl)) (Heads.val (fun tt Ψ => OpV.run [] [] (by kernel_rfl) (fun _ => by kernel_rfl)) (Heads.val (fun tt Ψ => OpV.run [] [] (by kernel_rfl) (fun _ => by kernel_rfl)) (Heads.val (fun tt Ψ => OpV.val (fun _ => run_sliceS (s := a2) (kl := .i64) (kh := .i64) (l := 6) (h := 8) (by kernel_rfl) (by kernel_rfl) (by kernel_rfl) (by kernel_rfl) h17) (by kernel_rfl)) (Heads.val (fun tt Ψ => OpV.run [] [] (by kernel_rfl) (fun _ => by kernel_rfl)) (Heads.val (fun tt Ψ => OpV.run [] [] (by kernel_rfl) (fun _ => by kernel_rfl)) (Heads.val (fun tt Ψ => OpV.run [] [] (by kernel_rfl) (fun _ => by kernel_rfl)) (Heads.val (fun tt Ψ => OpV.val (fun _ => run_sliceS (s := a2) (kl := .i64) (kh := .i64) (l := 8) (h := r3) (by kernel_rfl) (by kernel_rfl) (by kernel_rfl) (by kernel_rfl) h19) (by kernel_rfl)) Heads.nil)))))))))) (fun s15 tt => [(43, .int .u64 r9), (44, .int .i64 (i64 r9)), (45, .int .u64 r12), (46, .int .i64 (i64 r12)), (47, .string a2), (48, .string t16), (49, .bool (t16.toList == (⟨#[0, 0]⟩ : ByteArray).toList)), (50, .string a2), (51, .int .i64 r3), (52, .string t18), (2, .string a2), (6, .pointer (some ⟨b1, 0, none⟩)), (7, .int .i64 0), (9, .int .i64 r3), (10, .int .u64 r9), (12, .int .u64 r12)]) (fun s15 tt => [(b1, .cells #[.int .i64 0, .int .i64 0, .bool false, .string (⟨#[]⟩ : ByteArray)] 40 (0, 0))]) (fun tt => Glob) (fun _ _ => by kernel_rfl) (fun _ _ => by kernel_rfl) (fun _ => by kernel_rfl) (fun s15 tt => ?_)
            refine WL.run 3 [0, 0, 0, 0] [6, 7] (fun _ => [(6, .pointer (some ⟨b1, 0, none⟩)), (7, .int .i64 0)]) (fun _ => [(b1, .cells #[.int .i64 (i64 r9), .int .i64 (i64 r12), .bool (t16.toList == (⟨#[0, 0]⟩ : ByteArray).toList), .string t18] 40 (0, 0))]) (fun _ => [b1, b1, b1, b1]) (fun _ => by kernel_rfl) (fun _ => ?_)
            refine WP.done ?_
            obtain rfl := Option.some.inj hM
            exact WP.ret [0, 0, 0, 0] [b1, b1, b1, b1] (.tuple #[.agg #[.int .i64 (i64 r9), .int .i64 (i64 r12), .bool (t16.toList == (⟨#[0, 0]⟩ : ByteArray).toList), .string t18], .int .i64 0]) (by kernel_rfl) (fun w' hw => ⟨rfl, hw.pick [] rfl⟩)

end Go.Proofs.YtbodofjnfmjbpaaGreatDoor

namespace Go.Proofs.YtbodofjnfmjbpaaGreatDoor
open Go Eng
set_option linter.unusedVariables false
set_option linter.unusedSimpArgs false

/-! ### gangway/station.datagram: function 58 -/
def station_datagram.f (k : Nat) (a0 : api_Ip) : Option (api_Udp × Un2) :=
  (udp_Parse.f k a0.Src a0.Dst a0.Body).bind fun (r2, r3) =>
  bif ((a0.Proto != 17) || (r3 != 0)) then
    (station_not.f (⟨#[100, 97, 116, 97, 103, 114, 97, 109]⟩ : ByteArray) 6).bind fun r8 =>
    some (r2, some (r8.1, r8.2))
  else
    bif (r2.Dst != 4789) then
      (station_not.f (⟨#[100, 97, 116, 97, 103, 114, 97, 109]⟩ : ByteArray) 7).bind fun r12 =>
      some (r2, some (r12.1, r12.2))
    else
      some (r2, none)

set_option maxRecDepth 100000 in
theorem station_datagram_calls (k : Nat) (a0 : api_Ip) (r : api_Udp × Un2) (h : station_datagram.f k a0 = some r) : Pure Tryz.prog Glob 58 #[.agg #[.int .i64 a0.Tos, .int .i64 a0.Id, .bool a0.Whole, .bool a0.More, .int .i64 a0.Off, .int .i64 a0.Ttl, .int .i64 a0.Proto, .int .u32 a0.Src, .int .u32 a0.Dst, .string a0.Body]] (.tuple #[.agg #[.int .i64 r.1.Src, .int .i64 r.1.Dst, .bool r.1.NoSum, .string r.1.Body], Un2.v r.2]) := by
  intro w Z hS
  refine calls_of (args := [.agg #[.int .i64 a0.Tos, .int .i64 a0.Id, .bool a0.Whole, .bool a0.More, .int .i64 a0.Off, .int .i64 a0.Ttl, .int .i64 a0.Proto, .int .u32 a0.Src, .int .u32 a0.Dst, .string a0.Body]]) (L := [(0, .agg #[.int .i64 a0.Tos, .int .i64 a0.Id, .bool a0.Whole, .bool a0.More, .int .i64 a0.Off, .int .i64 a0.Ttl, .int .i64 a0.Proto, .int .u32 a0.Src, .int .u32 a0.Dst, .string a0.Body])]) (N := 33) (S := Sat w Z [] [] Glob) Tryz.func58 rfl rfl (Nat.le_of_ble_eq_true rfl) rfl hS ?_
  have hM := h
  clear h hS
  unfold station_datagram.f at hM
  refine WP.seq ?_
  refine WP.run [] [1, 2, 3] (fun b1 => [(1, .pointer (some ⟨b1, 0, none⟩)), (2, .pointer (some ⟨(b1 + 1), 0, none⟩)), (3, .nilIface)]) (fun b1 => [(b1, .cells #[.int .i64 a0.Tos, .int .i64 a0.Id, .bool a0.Whole, .bool a0.More, .int .i64 a0.Off, .int .i64 a0.Ttl, .int .i64 a0.Proto, .int .u32 a0.Src, .int .u32 a0.Dst, .string a0.Body] 91 (0, 0)), ((b1 + 1), .cells #[.int .i64 0, .int .i64 0, .bool false, .string (⟨#[]⟩ : ByteArray)] 40 (0, 0))]) (fun b1 => []) (fun b1 => by kernel_rfl) (fun b1 => ?_)
  refine WP.seq ?_
  refine WP.region ?_
  refine WL.run 6 [0, 0, 0] [1, 2, 3, 8, 10, 12] (fun _ => [(1, .pointer (some ⟨b1, 0, none⟩)), (2, .pointer (some ⟨(b1 + 1), 0, none⟩)), (3, .nilIface), (8, .int .u32 a0.Src), (10, .int .u32 a0.Dst), (12, .string a0.Body)]) (fun _ => [(b1, .cells #[.int .i64 a0.Tos, .int .i64 a0.Id, .bool a0.Whole, .bool a0.More, .int .i64 a0.Off, .int .i64 a0.Ttl, .int .i64 a0.Proto, .int .u32 a0.Src, .int .u32 a0.Dst, .string a0.Body] 91 (0, 0)), ((b1 + 1), .cells #[.int .i64 0, .int .i64 0, .bool false, .string (⟨#[]⟩ : ByteArray)] 40 (0, 0))]) (fun _ => [b1, b1, b1]) (fun _ => by kernel_rfl) (fun _ => ?_)
  obtain ⟨⟨r2, r3⟩, h4, hM⟩ := bind_some hM
  dsimp only at hM
  refine WL.callP [] [] (udp_Parse_calls k a0.Src a0.Dst a0.Body _ h4) (fun _ h => h) (by kernel_rfl) (by kernel_rfl) rfl ?_
  refine WL.run 6 [2, 2, 2, 2] [1, 2, 3, 4, 5] (fun b5 => [(1, .pointer (some ⟨b1, 0, none⟩)), (2, .pointer (some ⟨(b1 + 1), 0, none⟩)), (3, .nilIface), (4, .pointer (some ⟨b5, 0, none⟩)), (5, .int .i64 r3)]) (fun b5 => [(b1, .cells #[.int .i64 a0.Tos, .int .i64 a0.Id, .bool a0.Whole, .bool a0.More, .int .i64 a0.Off, .int .i64 a0.Ttl, .int .i64 a0.Proto, .int .u32 a0.Src, .int .u32 a0.Dst, .string a0.Body] 91 (0, 0)), ((b1 + 1), .cells #[.int .i64 0, .int .i64 0, .bool false, .string (⟨#[]⟩ : ByteArray)] 40 (0, 0)), (b5, .cells #[.int .i64 r2.Src, .int .i64 r2.Dst, .bool r2.NoSum, .string r2.Body] 40 (0, 0))]) (fun b5 => [b5, b5, b5, b5]) (fun b5 => by kernel_rfl) (fun b5 => ?_)
  refine WP.done ?_
  refine WP.seq ?_
  refine WP.block ?_
  refine WP.seq ?_
  refine WP.region ?_
  refine WL.run 4 [0] [2, 3, 4, 5, 20] (fun _ => [(2, .pointer (some ⟨(b1 + 1), 0, none⟩)), (3, .nilIface), (4, .pointer (some ⟨b5, 0, none⟩)), (5, .int .i64 r3), (20, .bool (a0.Proto != 17))]) (fun _ => [(b1, .cells #[.int .i64 a0.Tos, .int .i64 a0.Id, .bool a0.Whole, .bool a0.More, .int .i64 a0.Off, .int .i64 a0.Ttl, .int .i64 a0.Proto, .int .u32 a0.Src, .int .u32 a0.Dst, .string a0.Body] 91 (0, 0)), ((b1 + 1), .cells #[.int .i64 0, .int .i64 0, .bool false, .string (⟨#[]⟩ : ByteArray)] 40 (0, 0)), (b5, .cells #[.int .i64 r2.Src, .int .i64 r2.Dst, .bool r2.NoSum, .string r2.Body] 40 (0, 0))]) (fun _ => [b1]) (fun _ => by kernel_rfl) (fun _ => ?_)
  refine WL.sub [2, 3, 4, 5, 20] (L' := [(2, .pointer (some ⟨(b1 + 1), 0, none⟩)), (3, .nilIface), (4, .pointer (some ⟨b5, 0, none⟩)), (5, .int .i64 r3), (20, .bool (a0.Proto != 17))]) (by kernel_rfl) ?_
  refine WL.both (fun b' => [(2, .pointer (some ⟨(b1 + 1), 0, none⟩)), (3, .nilIface), (4, .pointer (some ⟨b5, 0, none⟩)), (5, .int .i64 r3), (20, .bool b')]) (a0.Proto != 17) 3 [] [] [2, 3, 4, 23] (fun b' => [(2, .pointer (some ⟨(b1 + 1), 0, none⟩)), (3, .nilIface), (4, .pointer (some ⟨b5, 0, none⟩)), (23, .bool (b' || (r3 != 0)))]) [] [] (fun _ => by kernel_rfl) (fun _ => by kernel_rfl) ?_
  refine WL.run 1 [] [2, 3, 4, 16] (fun _ => [(2, .pointer (some ⟨(b1 + 1), 0, none⟩)), (3, .nilIface), (4, .pointer (some ⟨b5, 0, none⟩)), (16, .bool ((a0.Proto != 17) || (r3 != 0)))]) (fun _ => [(b1, .cells #[.int .i64 a0.Tos, .int .i64 a0.Id, .bool a0.Whole, .bool a0.More, .int .i64 a0.Off, .int .i64 a0.Ttl, .int .i64 a0.Proto, .int .u32 a0.Src, .int .u32 a0.Dst, .string a0.Body] 91 (0, 0)), ((b1 + 1), .cells #[.int .i64 0, .int .i64 0, .bool false, .string (⟨#[]⟩ : ByteArray)] 40 (0, 0)), (b5, .cells #[.int .i64 r2.Src, .int .i64 r2.Dst, .bool r2.NoSum, .string r2.Body] 40 (0, 0))]) (fun _ => []) (fun _ => by kernel_rfl) (fun _ => ?_)
  refine WP.done ?_
  refine WP.keep [false, true, true] (by kernel_rfl : _ = [((b1 + 1), .cells #[.int .i64 0, .int .i64 0, .bool false, .string (⟨#[]⟩ : ByteArray)] 40 (0, 0)), (b5, .cells #[.int .i64 r2.Src, .int .i64 r2.Dst, .bool r2.NoSum, .string r2.Body] 40 (0, 0))]) ?_
  refine WP.cond ((a0.Proto != 17) || (r3 != 0)) rfl rfl (fun c6 => ?_) (fun c6 => ?_)
  · replace hM := cond_t hM c6
    refine WP.seq ?_
    obtain ⟨r8, h9, hM⟩ := bind_some hM
    refine WP.sub [2, 3, 4] (L' := [(2, .pointer (some ⟨(b1 + 1), 0, none⟩)), (3, .nilIface), (4, .pointer (some ⟨b5, 0, none⟩))]) (by kernel_rfl) ?_
    refine WP.mixed (X := Unit) 2 [.val (.agg #[.int .i64 r2.Src, .int .i64 r2.Dst, .bool r2.NoSum, .string r2.Body]), .val (.iface 138 (.agg #[.string r8.1, .iface 80 (.agg #[.int .i64 r8.2.n])]))] [((b1 + 1), .cells #[.int .i64 0, .int .i64 0, .bool false, .string (⟨#[]⟩ : ByteArray)] 40 (0, 0)), (b5, .cells #[.int .i64 r2.Src, .int .i64 r2.Dst, .bool r2.NoSum, .string r2.Body] 40 (0, 0))] [] (by kernel_rfl) (by kernel_rfl) (by kernel_rfl) (by kernel_rfl) (Heads.val (fun tt Ψ => OpV.run [1, 1, 1, 1] [b5, b5, b5, b5] (by kernel_rfl) (fun _ => by kernel_rfl)) (Heads.val (fun tt Ψ => OpV.callF [] [] (fun _ h => (List.mem_append_right _ h)) (station_not_calls (⟨#[100, 97, 116, 97, 103, 114, 97, 109]⟩ : ByteArray) 6 _ h9)  (fun _ => by kernel_rfl)) Heads.nil)) (fun s7 tt => [(24, .agg #[.int .i64 r2.Src, .int .i64 r2.Dst, .bool r2.NoSum, .string r2.Body]), (25, .iface 138 (.agg #[.string r8.1, .iface 80 (.agg #[.int .i64 r8.2.n])])), (2, .pointer (some ⟨(b1 + 1), 0, none⟩)), (3, .nilIface), (4, .pointer (some ⟨b5, 0, none⟩))]) (fun s7 tt => [((b1 + 1), .cells #[.int .i64 0, .int .i64 0, .bool false, .string (⟨#[]⟩ : ByteArray)] 40 (0, 0)), (b5, .cells #[.int .i64 r2.Src, .int .i64 r2.Dst, .bool r2.NoSum, .string r2.Body] 40 (0, 0))]) (fun tt => Glob) (fun _ _ => by kernel_rfl) (fun _ _ => by kernel_rfl) (fun _ => by kernel_rfl) (fun s7 tt => ?_)
    refine WL.run 2 [0, 0, 0, 0] [2, 3, 4] (fun _ => [(2, .pointer (some ⟨(b1 + 1), 0, none⟩)), (3, .iface 138 (.agg #[.string r8.1, .iface 80 (.agg #[.int .i64 r8.2.n])])), (4, .pointer (some ⟨b5, 0, none⟩))]) (fun _ => [((b1 + 1), .cells #[.int .i64 r2.Src, .int .i64 r2.Dst, .bool r2.NoSum, .string r2.Body] 40 (0, 0)), (b5, .cells #[.int .i64 r2.Src, .int .i64 r2.Dst, .bool r2.NoSum, .string r2.Body] 40 (0, 0))]) (fun _ => [(b1 + 1), (b1 + 1), (b1 + 1), (b1 + 1)]) (fun _ => by kernel_rfl) (fun _ => ?_)
    refine WP.done ?_
    obtain rfl := Option.some.inj hM
    exact WP.ret [0, 0, 0, 0] [(b1 + 1), (b1 + 1), (b1 + 1), (b1 + 1)] (.tuple #[.agg #[.int .i64 r2.Src, .int .i64 r2.Dst, .bool r2.NoSum, .string r2.Body], .iface 138 (.agg #[.string r8.1, .iface 80 (.agg #[.int .i64 r8.2.n])])]) (by kernel_rfl) (fun w' hw => ⟨rfl, hw.pick [] rfl⟩)
  · replace hM := cond_f hM c6
    refine WP.seq ?_
    refine WP.run [1] [2, 3, 4, 26] (fun _ => [(2, .pointer (some ⟨(b1 + 1), 0, none⟩)), (3, .nilIface), (4, .pointer (some ⟨b5, 0, none⟩)), (26, .bool (r2.Dst != 4789))]) (fun _ => [((b1 + 1), .cells #[.int .i64 0, .int .i64 0, .bool false, .string (⟨#[]⟩ : ByteArray)] 40 (0, 0)), (b5, .cells #[.int .i64 r2.Src, .int .i64 r2.Dst, .bool r2.NoSum, .string r2.Body] 40 (0, 0))]) (fun _ => [b5]) (fun _ => by kernel_rfl) (fun _ => ?_)
    refine WP.cond (r2.Dst != 4789) rfl rfl (fun c10 => ?_) (fun c10 => ?_)
    · replace hM := cond_t hM c10
      refine WP.seq ?_
      obtain ⟨r12, h13, hM⟩ := bind_some hM
      refine WP.sub [2, 3, 4] (L' := [(2, .pointer (some ⟨(b1 + 1), 0, none⟩)), (3, .nilIface), (4, .pointer (some ⟨b5, 0, none⟩))]) (by kernel_rfl) ?_
      refine WP.mixed (X := Unit) 2 [.val (.agg #[.int .i64 r2.Src, .int .i64 r2.Dst, .bool r2.NoSum, .string r2.Body]), .val (.iface 138 (.agg #[.string r12.1, .iface 80 (.agg #[.int .i64 r12.2.n])]))] [((b1 + 1), .cells #[.int .i64 0, .int .i64 0, .bool false, .string (⟨#[]⟩ : ByteArray)] 40 (0, 0)), (b5, .cells #[.int .i64 r2.Src, .int .i64 r2.Dst, .bool r2.NoSum, .string r2.Body] 40 (0, 0))] [] (by kernel_rfl) (by kernel_rfl) (by kernel_rfl) (by kernel_rfl) (Heads.val (fun tt Ψ => OpV.run [1, 1, 1, 1] [b5, b5, b5, b5] (by kernel_rfl) (fun _ => by kernel_rfl)) (Heads.val (fun tt Ψ => OpV.callF [] [] (fun _ h => (List.mem_append_right _ h)) (station_not_calls (⟨#[100, 97, 116, 97, 103, 114, 97, 109]⟩ : ByteArray) 7 _ h13)  (fun _ => by kernel_rfl)) Heads.nil)) (fun s11 tt => [(30, .agg #[.int .i64 r2.Src, .int .i64 r2.Dst, .bool r2.NoSum, .string r2.Body]), (31, .iface 138 (.agg #[.string r12.1, .iface 80 (.agg #[.int .i64 r12.2.n])])), (2, .pointer (some ⟨(b1 + 1), 0, none⟩)), (3, .nilIface), (4, .pointer (some ⟨b5, 0, none⟩))]) (fun s11 tt => [((b1 + 1), .cells #[.int .i64 0, .int .i64 0, .bool false, .string (⟨#[]⟩ : ByteArray)] 40 (0, 0)), (b5, .cells #[.int .i64 r2.Src, .int .i64 r2.Dst, .bool r2.NoSum, .string r2.Body] 40 (0, 0))]) (fun tt => Glob) (fun _ _ => by kernel_rfl) (fun _ _ => by kernel_rfl) (fun _ => by kernel_rfl) (fun s11 tt => ?_)
      refine WL.run 2 [0, 0, 0, 0] [2, 3, 4] (fun _ => [(2, .pointer (some ⟨(b1 + 1), 0, none⟩)), (3, .iface 138 (.agg #[.string r12.1, .iface 80 (.agg #[.int .i64 r12.2.n])])), (4, .pointer (some ⟨b5, 0, none⟩))]) (fun _ => [((b1 + 1), .cells #[.int .i64 r2.Src, .int .i64 r2.Dst, .bool r2.NoSum, .string r2.Body] 40 (0, 0)), (b5, .cells #[.int .i64 r2.Src, .int .i64 r2.Dst, .bool r2.NoSum, .string r2.Body] 40 (0, 0))]) (fun _ => [(b1 + 1), (b1 + 1), (b1 + 1), (b1 + 1)]) (fun _ => by kernel_rfl) (fun _ => ?_)
      refine WP.done ?_
      obtain rfl := Option.some.inj hM
      exact WP.ret [0, 0, 0, 0] [(b1 + 1), (b1 + 1), (b1 + 1), (b1 + 1)] (.tuple #[.agg #[.int .i64 r2.Src, .int .i64 r2.Dst, .bool r2.NoSum, .string r2.Body], .iface 138 (.agg #[.string r12.1, .iface 80 (.agg #[.int .i64 r12.2.n])])]) (by kernel_rfl) (fun w' hw => ⟨rfl, hw.pick [] rfl⟩)
    · replace hM := cond_f hM c10
      refine WP.skip ?_
      refine WP.leave ?_
      refine WP.seq ?_
      refine WP.run [1, 1, 1, 1, 0, 0, 0, 0] [2, 3] (fun _ => [(2, .pointer (some ⟨(b1 + 1), 0, none⟩)), (3, .nilIface)]) (fun _ => [((b1 + 1), .cells #[.int .i64 r2.Src, .int .i64 r2.Dst, .bool r2.NoSum, .string r2.Body] 40 (0, 0)), (b5, .cells #[.int .i64 r2.Src, .int .i64 r2.Dst, .bool r2.NoSum, .string r2.Body] 40 (0, 0))]) (fun _ => [(b1 + 1), (b1 + 1), (b1 + 1), (b1 + 1), b5, b5, b5, b5]) (fun _ => by kernel_rfl) (fun _ => ?_)
      refine WP.keep [true, false] (by kernel_rfl : _ = [((b1 + 1), .cells #[.int .i64 r2.Src, .int .i64 r2.Dst, .bool r2.NoSum, .string r2.Body] 40 (0, 0))]) ?_
      obtain rfl := Option.some.inj hM
      exact WP.ret [0, 0, 0, 0] [(b1 + 1), (b1 + 1), (b1 + 1), (b1 + 1)] (.tuple #[.agg #[.int .i64 r2.Src, .int .i64 r2.Dst, .bool r2.NoSum, .string r2.Body], .nilIface]) (by kernel_rfl) (fun w' hw => ⟨rfl, hw.pick [] rfl⟩)

end Go.Proofs.YtbodofjnfmjbpaaGreatDoor

namespace Go.Proofs.YtbodofjnfmjbpaaGreatDoor
open Go Eng
set_option linter.unusedVariables false
set_option linter.unusedSimpArgs false

/-! ### gangway/station.got: function 33 -/
def station_got.f (k : Nat) (a0 : Int) (a1 : Int) (a2 : api_Frame) : Option (api_Got × Un2) :=
  (station_framed.f a0 a2).bind fun r2 =>
  match r2 with
  | none =>
    (station_packet.f k a1 a2.Body).bind fun (r6, r7) =>
    match r7 with
    | none =>
      (station_datagram.f k r6).bind fun (r12, r13) =>
      match r13 with
      | none =>
        some ((api_Got.mk 0 r6.Src r12), none)
      | some (q16, q17) =>
        some ((api_Got.mk 0 0 (api_Udp.mk 0 0 false (⟨#[]⟩ : ByteArray))), some (q16, q17))
    | some (q10, q11) =>
      some ((api_Got.mk 0 0 (api_Udp.mk 0 0 false (⟨#[]⟩ : ByteArray))), some (q10, q11))
  | some (q4, q5) =>
    some ((api_Got.mk 0 0 (api_Udp.mk 0 0 false (⟨#[]⟩ : ByteArray))), some (q4, q5))

set_option maxRecDepth 100000 in
theorem station_got_calls (k : Nat) (a0 : Int) (a1 : Int) (a2 : api_Frame) (r : api_Got × Un2) (h : station_got.f k a0 a1 a2 = some r) : Pure Tryz.prog Glob 33 #[.int .u64 a0, .int .u32 a1, .agg #[.int .u64 a2.Dst, .int .u64 a2.Src, .bool a2.Tag.Has, .int .i64 a2.Tag.Pri, .bool a2.Tag.Dei, .int .i64 a2.Tag.Vid, .int .i64 a2.Type_, .string a2.Body]] (.tuple #[.agg #[.int .i64 r.1.Why, .int .u32 r.1.Src, .int .i64 r.1.U.Src, .int .i64 r.1.U.Dst, .bool r.1.U.NoSum, .string r.1.U.Body], Un2.v r.2]) := by
  intro w Z hS
  refine calls_of (args := [.int .u64 a0, .int .u32 a1, .agg #[.int .u64 a2.Dst, .int .u64 a2.Src, .bool a2.Tag.Has, .int .i64 a2.Tag.Pri, .bool a2.Tag.Dei, .int .i64 a2.Tag.Vid, .int .i64 a2.Type_, .string a2.Body]]) (L := [(0, .int .u64 a0), (1, .int .u32 a1), (2, .agg #[.int .u64 a2.Dst, .int .u64 a2.Src, .bool a2.Tag.Has, .int .i64 a2.Tag.Pri, .bool a2.Tag.Dei, .int .i64 a2.Tag.Vid, .int .i64 a2.Type_, .string a2.Body])]) (N := 43) (S := Sat w Z [] [] Glob) Tryz.func33 rfl rfl (Nat.le_of_ble_eq_true rfl) rfl hS ?_
  have hM := h
  clear h hS
  unfold station_got.f at hM
  refine WP.seq ?_
  refine WP.run [] [0, 1, 5, 6, 7] (fun b1 => [(0, .int .u64 a0), (1, .int .u32 a1), (5, .pointer (some ⟨b1, 0, none⟩)), (6, .pointer (some ⟨(b1 + 1), 0, none⟩)), (7, .nilIface)]) (fun b1 => [(b1, .cells #[.int .u64 a2.Dst, .int .u64 a2.Src, .bool a2.Tag.Has, .int .i64 a2.Tag.Pri, .bool a2.Tag.Dei, .int .i64 a2.Tag.Vid, .int .i64 a2.Type_, .string a2.Body] 29 (0, 0)), ((b1 + 1), .cells #[.int .i64 0, .int .u32 0, .int .i64 0, .int .i64 0, .bool false, .string (⟨#[]⟩ : ByteArray)] 47 (0, 0))]) (fun b1 => []) (fun b1 => by kernel_rfl) (fun b1 => ?_)
  refine WP.seq ?_
  refine WP.seq ?_
  refine WP.region ?_
  refine WL.run 2 [0, 0, 0, 0, 0, 0, 0, 0] [1, 5, 6, 7, 12, 13] (fun _ => [(1, .int .u32 a1), (5, .pointer (some ⟨b1, 0, none⟩)), (6, .pointer (some ⟨(b1 + 1), 0, none⟩)), (7, .nilIface), (12, .int .u64 a0), (13, .agg #[.int .u64 a2.Dst, .int .u64 a2.Src, .bool a2.Tag.Has, .int .i64 a2.Tag.Pri, .bool a2.Tag.Dei, .int .i64 a2.Tag.Vid, .int .i64 a2.Type_, .string a2.Body])]) (fun _ => [(b1, .cells #[.int .u64 a2.Dst, .int .u64 a2.Src, .bool a2.Tag.Has, .int .i64 a2.Tag.Pri, .bool a2.Tag.Dei, .int .i64 a2.Tag.Vid, .int .i64 a2.Type_, .string a2.Body] 29 (0, 0)), ((b1 + 1), .cells #[.int .i64 0, .int .u32 0, .int .i64 0, .int .i64 0, .bool false, .string (⟨#[]⟩ : ByteArray)] 47 (0, 0))]) (fun _ => [b1, b1, b1, b1, b1, b1, b1, b1]) (fun _ => by kernel_rfl) (fun _ => ?_)
  obtain ⟨r2, h3, hM⟩ := bind_some hM
  refine WL.callP [] [] (station_framed_calls a0 a2 _ h3) (fun _ h => h) (by kernel_rfl) (by kernel_rfl) rfl ?_
  refine WL.run 1 [] [1, 5, 6, 7, 8] (fun _ => [(1, .int .u32 a1), (5, .pointer (some ⟨b1, 0, none⟩)), (6, .pointer (some ⟨(b1 + 1), 0, none⟩)), (7, .nilIface), (8, Un2.v r2)]) (fun _ => [(b1, .cells #[.int .u64 a2.Dst, .int .u64 a2.Src, .bool a2.Tag.Has, .int .i64 a2.Tag.Pri, .bool a2.Tag.Dei, .int .i64 a2.Tag.Vid, .int .i64 a2.Type_, .string a2.Body] 29 (0, 0)), ((b1 + 1), .cells #[.int .i64 0, .int .u32 0, .int .i64 0, .int .i64 0, .bool false, .string (⟨#[]⟩ : ByteArray)] 47 (0, 0))]) (fun _ => []) (fun _ => by kernel_rfl) (fun _ => ?_)
  refine WP.done ?_
  refine WP.seq ?_
  refine WP.region ?_
  refine WL.run 1 [] [1, 5, 6, 7, 8, 15] (fun _ => [(1, .int .u32 a1), (5, .pointer (some ⟨b1, 0, none⟩)), (6, .pointer (some ⟨(b1 + 1), 0, none⟩)), (7, .nilIface), (8, Un2.v r2), (15, Un2.v r2)]) (fun _ => [(b1, .cells #[.int .u64 a2.Dst, .int .u64 a2.Src, .bool a2.Tag.Has, .int .i64 a2.Tag.Pri, .bool a2.Tag.Dei, .int .i64 a2.Tag.Vid, .int .i64 a2.Type_, .string a2.Body] 29 (0, 0)), ((b1 + 1), .cells #[.int .i64 0, .int .u32 0, .int .i64 0, .int .i64 0, .bool false, .string (⟨#[]⟩ : ByteArray)] 47 (0, 0))]) (fun _ => []) (fun _ => by kernel_rfl) (fun _ => ?_)
  rcases r2 with _ | ⟨q4, q5⟩
  · dsimp only at hM
    refine WL.run 1 [] [1, 5, 6, 7, 8, 16] (fun _ => [(1, .int .u32 a1), (5, .pointer (some ⟨b1, 0, none⟩)), (6, .pointer (some ⟨(b1 + 1), 0, none⟩)), (7, .nilIface), (8, .nilIface), (16, .bool false)]) (fun _ => [(b1, .cells #[.int .u64 a2.Dst, .int .u64 a2.Src, .bool a2.Tag.Has, .int .i64 a2.Tag.Pri, .bool a2.Tag.Dei, .int .i64 a2.Tag.Vid, .int .i64 a2.Type_, .string a2.Body] 29 (0, 0)), ((b1 + 1), .cells #[.int .i64 0, .int .u32 0, .int .i64 0, .int .i64 0, .bool false, .string (⟨#[]⟩ : ByteArray)] 47 (0, 0))]) (fun _ => []) (fun _ => by kernel_rfl) (fun _ => ?_)
    refine WP.done ?_
    refine WP.no rfl rfl ?_
    refine WP.skip ?_
    refine WP.seq ?_
    refine WP.region ?_
    refine WL.run 3 [0] [6, 7, 20, 22] (fun _ => [(6, .pointer (some ⟨(b1 + 1), 0, none⟩)), (7, .nilIface), (20, .int .u32 a1), (22, .string a2.Body)]) (fun _ => [(b1, .cells #[.int .u64 a2.Dst, .int .u64 a2.Src, .bool a2.Tag.Has, .int .i64 a2.Tag.Pri, .bool a2.Tag.Dei, .int .i64 a2.Tag.Vid, .int .i64 a2.Type_, .string a2.Body] 29 (0, 0)), ((b1 + 1), .cells #[.int .i64 0, .int .u32 0, .int .i64 0, .int .i64 0, .bool false, .string (⟨#[]⟩ : ByteArray)] 47 (0, 0))]) (fun _ => [b1]) (fun _ => by kernel_rfl) (fun _ => ?_)
    obtain ⟨⟨r6, r7⟩, h8, hM⟩ := bind_some hM
    dsimp only at hM
    refine WL.callP [] [] (station_packet_calls k a1 a2.Body _ h8) (fun _ h => h) (by kernel_rfl) (by kernel_rfl) rfl ?_
    refine WL.run 6 [2, 2, 2, 2, 2, 2, 2, 2, 2, 2] [6, 7, 9, 10] (fun b9 => [(6, .pointer (some ⟨(b1 + 1), 0, none⟩)), (7, .nilIface), (9, .pointer (some ⟨b9, 0, none⟩)), (10, Un2.v r7)]) (fun b9 => [(b1, .cells #[.int .u64 a2.Dst, .int .u64 a2.Src, .bool a2.Tag.Has, .int .i64 a2.Tag.Pri, .bool a2.Tag.Dei, .int .i64 a2.Tag.Vid, .int .i64 a2.Type_, .string a2.Body] 29 (0, 0)), ((b1 + 1), .cells #[.int .i64 0, .int .u32 0, .int .i64 0, .int .i64 0, .bool false, .string (⟨#[]⟩ : ByteArray)] 47 (0, 0)), (b9, .cells #[.int .i64 r6.Tos, .int .i64 r6.Id, .bool r6.Whole, .bool r6.More, .int .i64 r6.Off, .int .i64 r6.Ttl, .int .i64 r6.Proto, .int .u32 r6.Src, .int .u32 r6.Dst, .string r6.Body] 91 (0, 0))]) (fun b9 => [b9, b9, b9, b9, b9, b9, b9, b9, b9, b9]) (fun b9 => by kernel_rfl) (fun b9 => ?_)
    refine WP.done ?_
    refine WP.keep [false, true, true] (by kernel_rfl : _ = [((b1 + 1), .cells #[.int .i64 0, .int .u32 0, .int .i64 0, .int .i64 0, .bool false, .string (⟨#[]⟩ : ByteArray)] 47 (0, 0)), (b9, .cells #[.int .i64 r6.Tos, .int .i64 r6.Id, .bool r6.Whole, .bool r6.More, .int .i64 r6.Off, .int .i64 r6.Ttl, .int .i64 r6.Proto, .int .u32 r6.Src, .int .u32 r6.Dst, .string r6.Body] 91 (0, 0))]) ?_
    refine WP.seq ?_
    refine WP.seq ?_
    refine WP.region ?_
    refine WL.run 1 [] [6, 7, 9, 10, 26] (fun _ => [(6, .pointer (some ⟨(b1 + 1), 0, none⟩)), (7, .nilIface), (9, .pointer (some ⟨b9, 0, none⟩)), (10, Un2.v r7), (26, Un2.v r7)]) (fun _ => [((b1 + 1), .cells #[.int .i64 0, .int .u32 0, .int .i64 0, .int .i64 0, .bool false, .string (⟨#[]⟩ : ByteArray)] 47 (0, 0)), (b9, .cells #[.int .i64 r6.Tos, .int .i64 r6.Id, .bool r6.Whole, .bool r6.More, .int .i64 r6.Off, .int .i64 r6.Ttl, .int .i64 r6.Proto, .int .u32 r6.Src, .int .u32 r6.Dst, .string r6.Body] 91 (0, 0))]) (fun _ => []) (fun _ => by kernel_rfl) (fun _ => ?_)
    rcases r7 with _ | ⟨q10, q11⟩
    · dsimp only at hM
      refine WL.run 1 [] [6, 7, 9, 10, 27] (fun _ => [(6, .pointer (some ⟨(b1 + 1), 0, none⟩)), (7, .nilIface), (9, .pointer (some ⟨b9, 0, none⟩)), (10, .nilIface), (27, .bool false)]) (fun _ => [((b1 + 1), .cells #[.int .i64 0, .int .u32 0, .int .i64 0, .int .i64 0, .bool false, .string (⟨#[]⟩ : ByteArray)] 47 (0, 0)), (b9, .cells #[.int .i64 r6.Tos, .int .i64 r6.Id, .bool r6.Whole, .bool r6.More, .int .i64 r6.Off, .int .i64 r6.Ttl, .int .i64 r6.Proto, .int .u32 r6.Src, .int .u32 r6.Dst, .string r6.Body] 91 (0, 0))]) (fun _ => []) (fun _ => by kernel_rfl) (fun _ => ?_)
      refine WP.done ?_
      refine WP.no rfl rfl ?_
      refine WP.skip ?_
      refine WP.seq ?_
      refine WP.region ?_
      refine WL.run 1 [1, 1, 1, 1, 1, 1, 1, 1, 1, 1] [6, 7, 9, 10, 31] (fun _ => [(6, .pointer (some ⟨(b1 + 1), 0, none⟩)), (7, .nilIface), (9, .pointer (some ⟨b9, 0, none⟩)), (10, .nilIface), (31, .agg #[.int .i64 r6.Tos, .int .i64 r6.Id, .bool r6.Whole, .bool r6.More, .int .i64 r6.Off, .int .i64 r6.Ttl, .int .i64 r6.Proto, .int .u32 r6.Src, .int .u32 r6.Dst, .string r6.Body])]) (fun _ => [((b1 + 1), .cells #[.int .i64 0, .int .u32 0, .int .i64 0, .int .i64 0, .bool false, .string (⟨#[]⟩ : ByteArray)] 47 (0, 0)), (b9, .cells #[.int .i64 r6.Tos, .int .i64 r6.Id, .bool r6.Whole, .bool r6.More, .int .i64 r6.Off, .int .i64 r6.Ttl, .int .i64 r6.Proto, .int .u32 r6.Src, .int .u32 r6.Dst, .string r6.Body] 91 (0, 0))]) (fun _ => [b9, b9, b9, b9, b9, b9, b9, b9, b9, b9]) (fun _ => by kernel_rfl) (fun _ => ?_)
      obtain ⟨⟨r12, r13⟩, h14, hM⟩ := bind_some hM
      dsimp only at hM
      refine WL.callP [] [] (station_datagram_calls k r6 _ h14) (fun _ h => h) (by kernel_rfl) (by kernel_rfl) rfl ?_
      refine WL.run 6 [2, 2, 2, 2] [6, 7, 9, 10, 11] (fun b15 => [(6, .pointer (some ⟨(b1 + 1), 0, none⟩)), (7, .nilIface), (9, .pointer (some ⟨b9, 0, none⟩)), (10, Un2.v r13), (11, .pointer (some ⟨b15, 0, none⟩))]) (fun b15 => [((b1 + 1), .cells #[.int .i64 0, .int .u32 0, .int .i64 0, .int .i64 0, .bool false, .string (⟨#[]⟩ : ByteArray)] 47 (0, 0)), (b9, .cells #[.int .i64 r6.Tos, .int .i64 r6.Id, .bool r6.Whole, .bool r6.More, .int .i64 r6.Off, .int .i64 r6.Ttl, .int .i64 r6.Proto, .int .u32 r6.Src, .int .u32 r6.Dst, .string r6.Body] 91 (0, 0)), (b15, .cells #[.int .i64 r12.Src, .int .i64 r12.Dst, .bool r12.NoSum, .string r12.Body] 40 (0, 0))]) (fun b15 => [b15, b15, b15, b15]) (fun b15 => by kernel_rfl) (fun b15 => ?_)
      refine WP.done ?_
      refine WP.seq ?_
      refine WP.seq ?_
      refine WP.region ?_
      refine WL.run 1 [] [6, 7, 9, 10, 11, 35] (fun _ => [(6, .pointer (some ⟨(b1 + 1), 0, none⟩)), (7, .nilIface), (9, .pointer (some ⟨b9, 0, none⟩)), (10, Un2.v r13), (11, .pointer (some ⟨b15, 0, none⟩)), (35, Un2.v r13)]) (fun _ => [((b1 + 1), .cells #[.int .i64 0, .int .u32 0, .int .i64 0, .int .i64 0, .bool false, .string (⟨#[]⟩ : ByteArray)] 47 (0, 0)), (b9, .cells #[.int .i64 r6.Tos, .int .i64 r6.Id, .bool r6.Whole, .bool r6.More, .int .i64 r6.Off, .int .i64 r6.Ttl, .int .i64 r6.Proto, .int .u32 r6.Src, .int .u32 r6.Dst, .string r6.Body] 91 (0, 0)), (b15, .cells #[.int .i64 r12.Src, .int .i64 r12.Dst, .bool r12.NoSum, .string r12.Body] 40 (0, 0))]) (fun _ => []) (fun _ => by kernel_rfl) (fun _ => ?_)
      rcases r13 with _ | ⟨q16, q17⟩
      · dsimp only at hM
        refine WL.run 1 [] [6, 7, 9, 10, 11, 36] (fun _ => [(6, .pointer (some ⟨(b1 + 1), 0, none⟩)), (7, .nilIface), (9, .pointer (some ⟨b9, 0, none⟩)), (10, .nilIface), (11, .pointer (some ⟨b15, 0, none⟩)), (36, .bool false)]) (fun _ => [((b1 + 1), .cells #[.int .i64 0, .int .u32 0, .int .i64 0, .int .i64 0, .bool false, .string (⟨#[]⟩ : ByteArray)] 47 (0, 0)), (b9, .cells #[.int .i64 r6.Tos, .int .i64 r6.Id, .bool r6.Whole, .bool r6.More, .int .i64 r6.Off, .int .i64 r6.Ttl, .int .i64 r6.Proto, .int .u32 r6.Src, .int .u32 r6.Dst, .string r6.Body] 91 (0, 0)), (b15, .cells #[.int .i64 r12.Src, .int .i64 r12.Dst, .bool r12.NoSum, .string r12.Body] 40 (0, 0))]) (fun _ => []) (fun _ => by kernel_rfl) (fun _ => ?_)
        refine WP.done ?_
        refine WP.no rfl rfl ?_
        refine WP.skip ?_
        refine WP.seq ?_
        refine WP.run [1, 2, 2, 2, 2, 0, 0, 0, 0, 0, 0] [6, 7] (fun _ => [(6, .pointer (some ⟨(b1 + 1), 0, none⟩)), (7, .nilIface)]) (fun _ => [((b1 + 1), .cells #[.int .i64 0, .int .u32 r6.Src, .int .i64 r12.Src, .int .i64 r12.Dst, .bool r12.NoSum, .string r12.Body] 47 (0, 0)), (b9, .cells #[.int .i64 r6.Tos, .int .i64 r6.Id, .bool r6.Whole, .bool r6.More, .int .i64 r6.Off, .int .i64 r6.Ttl, .int .i64 r6.Proto, .int .u32 r6.Src, .int .u32 r6.Dst, .string r6.Body] 91 (0, 0)), (b15, .cells #[.int .i64 r12.Src, .int .i64 r12.Dst, .bool r12.NoSum, .string r12.Body] 40 (0, 0))]) (fun _ => [(b1 + 1), (b1 + 1), (b1 + 1), (b1 + 1), (b1 + 1), (b1 + 1), b15, b15, b15, b15, b9]) (fun _ => by kernel_rfl) (fun _ => ?_)
        refine WP.keep [true, false, false] (by kernel_rfl : _ = [((b1 + 1), .cells #[.int .i64 0, .int .u32 r6.Src, .int .i64 r12.Src, .int .i64 r12.Dst, .bool r12.NoSum, .string r12.Body] 47 (0, 0))]) ?_
        obtain rfl := Option.some.inj hM
        exact WP.ret [0, 0, 0, 0, 0, 0] [(b1 + 1), (b1 + 1), (b1 + 1), (b1 + 1), (b1 + 1), (b1 + 1)] (.tuple #[.agg #[.int .i64 0, .int .u32 r6.Src, .int .i64 r12.Src, .int .i64 r12.Dst, .bool r12.NoSum, .string r12.Body], .nilIface]) (by kernel_rfl) (fun w' hw => ⟨rfl, hw.pick [] rfl⟩)
      · dsimp only at hM
        refine WL.run 1 [] [6, 7, 9, 10, 11, 36] (fun _ => [(6, .pointer (some ⟨(b1 + 1), 0, none⟩)), (7, .nilIface), (9, .pointer (some ⟨b9, 0, none⟩)), (10, .iface 138 (.agg #[.string q16, .iface 80 (.agg #[.int .i64 q17.n])])), (11, .pointer (some ⟨b15, 0, none⟩)), (36, .bool true)]) (fun _ => [((b1 + 1), .cells #[.int .i64 0, .int .u32 0, .int .i64 0, .int .i64 0, .bool false, .string (⟨#[]⟩ : ByteArray)] 47 (0, 0)), (b9, .cells #[.int .i64 r6.Tos, .int .i64 r6.Id, .bool r6.Whole, .bool r6.More, .int .i64 r6.Off, .int .i64 r6.Ttl, .int .i64 r6.Proto, .int .u32 r6.Src, .int .u32 r6.Dst, .string r6.Body] 91 (0, 0)), (b15, .cells #[.int .i64 r12.Src, .int .i64 r12.Dst, .bool r12.NoSum, .string r12.Body] 40 (0, 0))]) (fun _ => []) (fun _ => by kernel_rfl) (fun _ => ?_)
        refine WP.done ?_
        refine WP.yes rfl rfl ?_
        refine WP.seq ?_
        refine WP.run [0, 0, 0, 0, 0, 0] [6, 7, 9, 11] (fun _ => [(6, .pointer (some ⟨(b1 + 1), 0, none⟩)), (7, .iface 138 (.agg #[.string q16, .iface 80 (.agg #[.int .i64 q17.n])])), (9, .pointer (some ⟨b9, 0, none⟩)), (11, .pointer (some ⟨b15, 0, none⟩))]) (fun _ => [((b1 + 1), .cells #[.int .i64 0, .int .u32 0, .int .i64 0, .int .i64 0, .bool false, .string (⟨#[]⟩ : ByteArray)] 47 (0, 0)), (b9, .cells #[.int .i64 r6.Tos, .int .i64 r6.Id, .bool r6.Whole, .bool r6.More, .int .i64 r6.Off, .int .i64 r6.Ttl, .int .i64 r6.Proto, .int .u32 r6.Src, .int .u32 r6.Dst, .string r6.Body] 91 (0, 0)), (b15, .cells #[.int .i64 r12.Src, .int .i64 r12.Dst, .bool r12.NoSum, .string r12.Body] 40 (0, 0))]) (fun _ => [(b1 + 1), (b1 + 1), (b1 + 1), (b1 + 1), (b1 + 1), (b1 + 1)]) (fun _ => by kernel_rfl) (fun _ => ?_)
        obtain rfl := Option.some.inj hM
        exact WP.ret [0, 0, 0, 0, 0, 0] [(b1 + 1), (b1 + 1), (b1 + 1), (b1 + 1), (b1 + 1), (b1 + 1)] (.tuple #[.agg #[.int .i64 0, .int .u32 0, .int .i64 0, .int .i64 0, .bool false, .string (⟨#[]⟩ : ByteArray)], .iface 138 (.agg #[.string q16, .iface 80 (.agg #[.int .i64 q17.n])])]) (by kernel_rfl) (fun w' hw => ⟨rfl, hw.pick [] rfl⟩)
    · dsimp only at hM
      refine WL.run 1 [] [6, 7, 9, 10, 27] (fun _ => [(6, .pointer (some ⟨(b1 + 1), 0, none⟩)), (7, .nilIface), (9, .pointer (some ⟨b9, 0, none⟩)), (10, .iface 138 (.agg #[.string q10, .iface 80 (.agg #[.int .i64 q11.n])])), (27, .bool true)]) (fun _ => [((b1 + 1), .cells #[.int .i64 0, .int .u32 0, .int .i64 0, .int .i64 0, .bool false, .string (⟨#[]⟩ : ByteArray)] 47 (0, 0)), (b9, .cells #[.int .i64 r6.Tos, .int .i64 r6.Id, .bool r6.Whole, .bool r6.More, .int .i64 r6.Off, .int .i64 r6.Ttl, .int .i64 r6.Proto, .int .u32 r6.Src, .int .u32 r6.Dst, .string r6.Body] 91 (0, 0))]) (fun _ => []) (fun _ => by kernel_rfl) (fun _ => ?_)
      refine WP.done ?_
      refine WP.yes rfl rfl ?_
      refine WP.seq ?_
      refine WP.run [0, 0, 0, 0, 0, 0] [6, 7, 9, 10] (fun _ => [(6, .pointer (some ⟨(b1 + 1), 0, none⟩)), (7, .iface 138 (.agg #[.string q10, .iface 80 (.agg #[.int .i64 q11.n])])), (9, .pointer (some ⟨b9, 0, none⟩)), (10, .iface 138 (.agg #[.string q10, .iface 80 (.agg #[.int .i64 q11.n])]))]) (fun _ => [((b1 + 1), .cells #[.int .i64 0, .int .u32 0, .int .i64 0, .int .i64 0, .bool false, .string (⟨#[]⟩ : ByteArray)] 47 (0, 0)), (b9, .cells #[.int .i64 r6.Tos, .int .i64 r6.Id, .bool r6.Whole, .bool r6.More, .int .i64 r6.Off, .int .i64 r6.Ttl, .int .i64 r6.Proto, .int .u32 r6.Src, .int .u32 r6.Dst, .string r6.Body] 91 (0, 0))]) (fun _ => [(b1 + 1), (b1 + 1), (b1 + 1), (b1 + 1), (b1 + 1), (b1 + 1)]) (fun _ => by kernel_rfl) (fun _ => ?_)
      obtain rfl := Option.some.inj hM
      exact WP.ret [0, 0, 0, 0, 0, 0] [(b1 + 1), (b1 + 1), (b1 + 1), (b1 + 1), (b1 + 1), (b1 + 1)] (.tuple #[.agg #[.int .i64 0, .int .u32 0, .int .i64 0, .int .i64 0, .bool false, .string (⟨#[]⟩ : ByteArray)], .iface 138 (.agg #[.string q10, .iface 80 (.agg #[.int .i64 q11.n])])]) (by kernel_rfl) (fun w' hw => ⟨rfl, hw.pick [] rfl⟩)
  · dsimp only at hM
    refine WL.run 1 [] [1, 5, 6, 7, 8, 16] (fun _ => [(1, .int .u32 a1), (5, .pointer (some ⟨b1, 0, none⟩)), (6, .pointer (some ⟨(b1 + 1), 0, none⟩)), (7, .nilIface), (8, .iface 138 (.agg #[.string q4, .iface 80 (.agg #[.int .i64 q5.n])])), (16, .bool true)]) (fun _ => [(b1, .cells #[.int .u64 a2.Dst, .int .u64 a2.Src, .bool a2.Tag.Has, .int .i64 a2.Tag.Pri, .bool a2.Tag.Dei, .int .i64 a2.Tag.Vid, .int .i64 a2.Type_, .string a2.Body] 29 (0, 0)), ((b1 + 1), .cells #[.int .i64 0, .int .u32 0, .int .i64 0, .int .i64 0, .bool false, .string (⟨#[]⟩ : ByteArray)] 47 (0, 0))]) (fun _ => []) (fun _ => by kernel_rfl) (fun _ => ?_)
    refine WP.done ?_
    refine WP.yes rfl rfl ?_
    refine WP.seq ?_
    refine WP.run [1, 1, 1, 1, 1, 1] [1, 5, 6, 7] (fun _ => [(1, .int .u32 a1), (5, .pointer (some ⟨b1, 0, none⟩)), (6, .pointer (some ⟨(b1 + 1), 0, none⟩)), (7, .iface 138 (.agg #[.string q4, .iface 80 (.agg #[.int .i64 q5.n])]))]) (fun _ => [(b1, .cells #[.int .u64 a2.Dst, .int .u64 a2.Src, .bool a2.Tag.Has, .int .i64 a2.Tag.Pri, .bool a2.Tag.Dei, .int .i64 a2.Tag.Vid, .int .i64 a2.Type_, .string a2.Body] 29 (0, 0)), ((b1 + 1), .cells #[.int .i64 0, .int .u32 0, .int .i64 0, .int .i64 0, .bool false, .string (⟨#[]⟩ : ByteArray)] 47 (0, 0))]) (fun _ => [(b1 + 1), (b1 + 1), (b1 + 1), (b1 + 1), (b1 + 1), (b1 + 1)]) (fun _ => by kernel_rfl) (fun _ => ?_)
    obtain rfl := Option.some.inj hM
    exact WP.ret [1, 1, 1, 1, 1, 1] [(b1 + 1), (b1 + 1), (b1 + 1), (b1 + 1), (b1 + 1), (b1 + 1)] (.tuple #[.agg #[.int .i64 0, .int .u32 0, .int .i64 0, .int .i64 0, .bool false, .string (⟨#[]⟩ : ByteArray)], .iface 138 (.agg #[.string q4, .iface 80 (.agg #[.int .i64 q5.n])])]) (by kernel_rfl) (fun w' hw => ⟨rfl, hw.pick [] rfl⟩)

end Go.Proofs.YtbodofjnfmjbpaaGreatDoor

namespace Go.Proofs.YtbodofjnfmjbpaaGreatDoor
open Go Eng
set_option linter.unusedVariables false
set_option linter.unusedSimpArgs false

/-! ### errors.As: function 34 -/
def errors_As_3.f (a1 : station_why) : Option (Bool) :=
  some false

set_option maxRecDepth 100000 in
theorem errors_As_3_calls (b_0 : Nat) (a1 : station_why) (r : Bool) (h : errors_As_3.f a1 = some r) : Does Tryz.prog 34 #[.nilIface, .iface 82 (.pointer (some ⟨b_0, 0, none⟩))] [(b_0, .cells #[.int .i64 a1.n] 80 (0, 0))] Glob (fun _ : Unit => .bool r) (fun _ => [(b_0, .cells #[.int .i64 a1.n] 80 (0, 0))]) (fun _ => []) (fun _ => Glob) := by
  intro w Z hS
  refine calls_of (args := [.nilIface, .iface 82 (.pointer (some ⟨b_0, 0, none⟩))]) (L := [(0, .nilIface), (1, .iface 82 (.pointer (some ⟨b_0, 0, none⟩)))]) (N := 42) (S := Sat w Z [(b_0, .cells #[.int .i64 a1.n] 80 (0, 0))] [] Glob) Tryz.func34 rfl rfl (Nat.le_of_ble_eq_true rfl) rfl hS ?_
  have hM := h
  clear h hS
  unfold errors_As_3.f at hM
  refine WP.seq ?_
  refine WP.run [] [0, 1, 4] (fun _ => [(0, .nilIface), (1, .iface 82 (.pointer (some ⟨b_0, 0, none⟩))), (4, .bool false)]) (fun _ => [(b_0, .cells #[.int .i64 a1.n] 80 (0, 0))]) (fun _ => []) (fun _ => by kernel_rfl) (fun _ => ?_)
  refine WP.seq ?_
  refine WP.seq ?_
  refine WP.run [] [0, 1, 4, 9] (fun _ => [(0, .nilIface), (1, .iface 82 (.pointer (some ⟨b_0, 0, none⟩))), (4, .bool false), (9, .bool true)]) (fun _ => [(b_0, .cells #[.int .i64 a1.n] 80 (0, 0))]) (fun _ => []) (fun _ => by kernel_rfl) (fun _ => ?_)
  refine WP.yes rfl rfl ?_
  refine WP.seq ?_
  refine WP.run [] [0, 1, 4] (fun _ => [(0, .nilIface), (1, .iface 82 (.pointer (some ⟨b_0, 0, none⟩))), (4, .bool false)]) (fun _ => [(b_0, .cells #[.int .i64 a1.n] 80 (0, 0))]) (fun _ => []) (fun _ => by kernel_rfl) (fun _ => ?_)
  obtain rfl := Option.some.inj hM
  exact WP.ret [] [] (.bool false) (by kernel_rfl) (fun w' hw => ⟨(), rfl, hw.pick [0] (by kernel_rfl)⟩)

end Go.Proofs.YtbodofjnfmjbpaaGreatDoor

namespace Go.Proofs.YtbodofjnfmjbpaaGreatDoor
open Go Eng
set_option linter.unusedVariables false
set_option linter.unusedSimpArgs false

/-! ### (gangway/station.while).Unwrap: function 148 -/
def station_while_Unwrap.f (a0 : ByteArray) (a0_1 : station_why) : Option (station_why) :=
  some a0_1

set_option maxRecDepth 100000 in
theorem station_while_Unwrap_calls (a0 : ByteArray) (a0_1 : station_why) (r : station_why) (h : station_while_Unwrap.f a0 a0_1 = some r) : Pure Tryz.prog Glob 148 #[.agg #[.string a0, .iface 80 (.agg #[.int .i64 a0_1.n])]] (.iface 80 (.agg #[.int .i64 r.n])) := by
  intro w Z hS
  refine calls_of (args := [.agg #[.string a0, .iface 80 (.agg #[.int .i64 a0_1.n])]]) (L := [(0, .agg #[.string a0, .iface 80 (.agg #[.int .i64 a0_1.n])])]) (N := 5) (S := Sat w Z [] [] Glob) Tryz.func148 rfl rfl (Nat.le_of_ble_eq_true rfl) rfl hS ?_
  have hM := h
  clear h hS
  unfold station_while_Unwrap.f at hM
  refine WP.seq ?_
  refine WP.run [] [1, 2] (fun b1 => [(1, .pointer (some ⟨b1, 0, none⟩)), (2, .nilIface)]) (fun b1 => [(b1, .cells #[.string a0, .iface 80 (.agg #[.int .i64 a0_1.n])] 138 (0, 0))]) (fun b1 => []) (fun b1 => by kernel_rfl) (fun b1 => ?_)
  refine WP.seq ?_
  refine WP.run [0] [2] (fun _ => [(2, .iface 80 (.agg #[.int .i64 a0_1.n]))]) (fun _ => [(b1, .cells #[.string a0, .iface 80 (.agg #[.int .i64 a0_1.n])] 138 (0, 0))]) (fun _ => [b1]) (fun _ => by kernel_rfl) (fun _ => ?_)
  refine WP.keep [false] (by kernel_rfl : _ = []) ?_
  obtain rfl := Option.some.inj hM
  exact WP.ret [] [] (.iface 80 (.agg #[.int .i64 a0_1.n])) (by kernel_rfl) (fun w' hw => ⟨rfl, hw.pick [] rfl⟩)

end Go.Proofs.YtbodofjnfmjbpaaGreatDoor

namespace Go.Proofs.YtbodofjnfmjbpaaGreatDoor
open Go Eng
set_option linter.unusedVariables false
set_option linter.unusedSimpArgs false

/-! ### errors.as: function 62 -/
def errors_as_3.f (a0 : ByteArray) (a0_1 : station_why) (a1 : station_why) : Option (Bool × station_why) :=
  (station_while_Unwrap.f a0 a0_1).bind fun r3 =>
  some (true, r3)

set_option maxRecDepth 100000 in
theorem errors_as_3_calls (b_0 : Nat) (b_1 : Nat) (a0 : ByteArray) (a0_1 : station_why) (a1 : station_why) (r : Bool × station_why) (h : errors_as_3.f a0 a0_1 a1 = some r) : Does Tryz.prog 62 #[.iface 138 (.agg #[.string a0, .iface 80 (.agg #[.int .i64 a0_1.n])]), .iface 82 (.pointer (some ⟨b_0, 0, none⟩)), .agg #[.pointer (some ⟨2, 82, none⟩), .pointer (some ⟨b_1, 0, none⟩), .int .u64 150], .iface 148 (.agg #[.pointer (some ⟨2, 80, none⟩)])] [(b_0, .cells #[.int .i64 a1.n] 80 (0, 0)), (b_1, .cells #[.pointer (some ⟨b_0, 0, none⟩)] 82 (0, 0))] Glob (fun _ : Unit => .bool r.1) (fun _ => [(b_0, .cells #[.int .i64 r.2.n] 80 (0, 0)), (b_1, .cells #[.pointer (some ⟨b_0, 0, none⟩)] 82 (0, 0))]) (fun _ => []) (fun _ => Glob) := by
  intro w Z hS
  refine calls_of (args := [.iface 138 (.agg #[.string a0, .iface 80 (.agg #[.int .i64 a0_1.n])]), .iface 82 (.pointer (some ⟨b_0, 0, none⟩)), .agg #[.pointer (some ⟨2, 82, none⟩), .pointer (some ⟨b_1, 0, none⟩), .int .u64 150], .iface 148 (.agg #[.pointer (some ⟨2, 80, none⟩)])]) (L := [(0, .iface 138 (.agg #[.string a0, .iface 80 (.agg #[.int .i64 a0_1.n])])), (1, .iface 82 (.pointer (some ⟨b_0, 0, none⟩))), (2, .agg #[.pointer (some ⟨2, 82, none⟩), .pointer (some ⟨b_1, 0, none⟩), .int .u64 150]), (3, .iface 148 (.agg #[.pointer (some ⟨2, 80, none⟩)]))]) (N := 62) (S := Sat w Z [(b_0, .cells #[.int .i64 a1.n] 80 (0, 0)), (b_1, .cells #[.pointer (some ⟨b_0, 0, none⟩)] 82 (0, 0))] [] Glob) Tryz.func62 rfl rfl (Nat.le_of_ble_eq_true rfl) rfl hS ?_
  have hM := h
  clear h hS
  unfold errors_as_3.f at hM
  refine WP.seq ?_
  refine WP.run [] [0, 1, 3, 6, 8] (fun b1 => [(0, .iface 138 (.agg #[.string a0, .iface 80 (.agg #[.int .i64 a0_1.n])])), (1, .iface 82 (.pointer (some ⟨b_0, 0, none⟩))), (3, .iface 148 (.agg #[.pointer (some ⟨2, 80, none⟩)])), (6, .pointer (some ⟨b1, 0, none⟩)), (8, .bool false)]) (fun b1 => [(b_0, .cells #[.int .i64 a1.n] 80 (0, 0)), (b_1, .cells #[.pointer (some ⟨b_0, 0, none⟩)] 82 (0, 0)), (b1, .cells #[.pointer (some ⟨2, 82, none⟩), .pointer (some ⟨b_1, 0, none⟩), .int .u64 150] 106 (0, 0))]) (fun b1 => []) (fun b1 => by kernel_rfl) (fun b1 => ?_)
  refine WP.block ?_
  refine WP.unroll 40 ?_
  refine WP.block ?_
  refine WP.seq ?_
  refine WP.seq ?_
  refine WP.run [] [0, 1, 3, 6, 8, 16, 17, 18, 19] (fun _ => [(0, .iface 138 (.agg #[.string a0, .iface 80 (.agg #[.int .i64 a0_1.n])])), (1, .iface 82 (.pointer (some ⟨b_0, 0, none⟩))), (3, .iface 148 (.agg #[.pointer (some ⟨2, 80, none⟩)])), (6, .pointer (some ⟨b1, 0, none⟩)), (8, .bool false), (16, .iface 138 (.agg #[.string a0, .iface 80 (.agg #[.int .i64 a0_1.n])])), (17, .iface 148 (.agg #[.pointer (some ⟨2, 138, none⟩)])), (18, .iface 148 (.agg #[.pointer (some ⟨2, 80, none⟩)])), (19, .bool false)]) (fun _ => [(b_0, .cells #[.int .i64 a1.n] 80 (0, 0)), (b_1, .cells #[.pointer (some ⟨b_0, 0, none⟩)] 82 (0, 0)), (b1, .cells #[.pointer (some ⟨2, 82, none⟩), .pointer (some ⟨b_1, 0, none⟩), .int .u64 150] 106 (0, 0))]) (fun _ => []) (fun _ => by kernel_rfl) (fun _ => ?_)
  refine WP.no rfl rfl ?_
  refine WP.skip ?_
  refine WP.seq ?_
  refine WP.seq ?_
  refine WP.region ?_
  refine WL.run 1 [] [0, 1, 3, 6, 8, 16, 17, 18, 19, 26] (fun _ => [(0, .iface 138 (.agg #[.string a0, .iface 80 (.agg #[.int .i64 a0_1.n])])), (1, .iface 82 (.pointer (some ⟨b_0, 0, none⟩))), (3, .iface 148 (.agg #[.pointer (some ⟨2, 80, none⟩)])), (6, .pointer (some ⟨b1, 0, none⟩)), (8, .bool false), (16, .iface 138 (.agg #[.string a0, .iface 80 (.agg #[.int .i64 a0_1.n])])), (17, .iface 148 (.agg #[.pointer (some ⟨2, 138, none⟩)])), (18, .iface 148 (.agg #[.pointer (some ⟨2, 80, none⟩)])), (19, .bool false), (26, .iface 138 (.agg #[.string a0, .iface 80 (.agg #[.int .i64 a0_1.n])]))]) (fun _ => [(b_0, .cells #[.int .i64 a1.n] 80 (0, 0)), (b_1, .cells #[.pointer (some ⟨b_0, 0, none⟩)] 82 (0, 0)), (b1, .cells #[.pointer (some ⟨2, 82, none⟩), .pointer (some ⟨b_1, 0, none⟩), .int .u64 150] 106 (0, 0))]) (fun _ => []) (fun _ => by kernel_rfl) (fun _ => ?_)
  refine WL.val (fun _ => run_assertLacks (t := 138) (v := .agg #[.string a0, .iface 80 (.agg #[.int .i64 a0_1.n])]) (z := .nilIface) (by kernel_rfl) (by kernel_rfl) (by kernel_rfl)) (by kernel_rfl) (by kernel_rfl) rfl ?_
  refine WL.run 5 [] [0, 1, 3, 6, 8, 9, 10, 16, 17, 18, 19, 25, 26, 27, 28, 29] (fun _ => [(0, .iface 138 (.agg #[.string a0, .iface 80 (.agg #[.int .i64 a0_1.n])])), (1, .iface 82 (.pointer (some ⟨b_0, 0, none⟩))), (3, .iface 148 (.agg #[.pointer (some ⟨2, 80, none⟩)])), (6, .pointer (some ⟨b1, 0, none⟩)), (8, .bool false), (9, .nilIface), (10, .bool false), (16, .iface 138 (.agg #[.string a0, .iface 80 (.agg #[.int .i64 a0_1.n])])), (17, .iface 148 (.agg #[.pointer (some ⟨2, 138, none⟩)])), (18, .iface 148 (.agg #[.pointer (some ⟨2, 80, none⟩)])), (19, .bool false), (25, .tuple #[.nilIface, .bool false]), (26, .iface 138 (.agg #[.string a0, .iface 80 (.agg #[.int .i64 a0_1.n])])), (27, .tuple #[.nilIface, .bool false]), (28, .nilIface), (29, .bool false)]) (fun _ => [(b_0, .cells #[.int .i64 a1.n] 80 (0, 0)), (b_1, .cells #[.pointer (some ⟨b_0, 0, none⟩)] 82 (0, 0)), (b1, .cells #[.pointer (some ⟨2, 82, none⟩), .pointer (some ⟨b_1, 0, none⟩), .int .u64 150] 106 (0, 0))]) (fun _ => []) (fun _ => by kernel_rfl) (fun _ => ?_)
  refine WP.done ?_
  refine WP.seq ?_
  refine WP.run [] [0, 1, 3, 6, 8, 9, 10, 16, 17, 18, 19, 25, 26, 27, 28, 29, 30, 31, 32, 33, 34, 35] (fun _ => [(0, .iface 138 (.agg #[.string a0, .iface 80 (.agg #[.int .i64 a0_1.n])])), (1, .iface 82 (.pointer (some ⟨b_0, 0, none⟩))), (3, .iface 148 (.agg #[.pointer (some ⟨2, 80, none⟩)])), (6, .pointer (some ⟨b1, 0, none⟩)), (8, .bool false), (9, .nilIface), (10, .bool false), (16, .iface 138 (.agg #[.string a0, .iface 80 (.agg #[.int .i64 a0_1.n])])), (17, .iface 148 (.agg #[.pointer (some ⟨2, 138, none⟩)])), (18, .iface 148 (.agg #[.pointer (some ⟨2, 80, none⟩)])), (19, .bool false), (25, .tuple #[.nilIface, .bool false]), (26, .iface 138 (.agg #[.string a0, .iface 80 (.agg #[.int .i64 a0_1.n])])), (27, .tuple #[.nilIface, .bool false]), (28, .nilIface), (29, .bool false), (30, .bool false), (31, .bool false), (32, .tuple #[]), (33, .tuple #[]), (34, .tuple #[]), (35, .bool false)]) (fun _ => [(b_0, .cells #[.int .i64 a1.n] 80 (0, 0)), (b_1, .cells #[.pointer (some ⟨b_0, 0, none⟩)] 82 (0, 0)), (b1, .cells #[.pointer (some ⟨2, 82, none⟩), .pointer (some ⟨b_1, 0, none⟩), .int .u64 150] 106 (0, 0))]) (fun _ => []) (fun _ => by kernel_rfl) (fun _ => ?_)
  refine WP.no rfl rfl ?_
  refine WP.skip ?_
  refine WP.seq ?_
  refine WP.run [] [0, 1, 3, 6, 8, 9, 10, 16, 17, 18, 19, 25, 26, 27, 28, 29, 30, 31, 32, 33, 34, 35, 36] (fun _ => [(0, .iface 138 (.agg #[.string a0, .iface 80 (.agg #[.int .i64 a0_1.n])])), (1, .iface 82 (.pointer (some ⟨b_0, 0, none⟩))), (3, .iface 148 (.agg #[.pointer (some ⟨2, 80, none⟩)])), (6, .pointer (some ⟨b1, 0, none⟩)), (8, .bool false), (9, .nilIface), (10, .bool false), (16, .iface 138 (.agg #[.string a0, .iface 80 (.agg #[.int .i64 a0_1.n])])), (17, .iface 148 (.agg #[.pointer (some ⟨2, 138, none⟩)])), (18, .iface 148 (.agg #[.pointer (some ⟨2, 80, none⟩)])), (19, .bool false), (25, .tuple #[.nilIface, .bool false]), (26, .iface 138 (.agg #[.string a0, .iface 80 (.agg #[.int .i64 a0_1.n])])), (27, .tuple #[.nilIface, .bool false]), (28, .nilIface), (29, .bool false), (30, .bool false), (31, .bool false), (32, .tuple #[]), (33, .tuple #[]), (34, .tuple #[]), (35, .bool false), (36, .iface 138 (.agg #[.string a0, .iface 80 (.agg #[.int .i64 a0_1.n])]))]) (fun _ => [(b_0, .cells #[.int .i64 a1.n] 80 (0, 0)), (b_1, .cells #[.pointer (some ⟨b_0, 0, none⟩)] 82 (0, 0)), (b1, .cells #[.pointer (some ⟨2, 82, none⟩), .pointer (some ⟨b_1, 0, none⟩), .int .u64 150] 106 (0, 0))]) (fun _ => []) (fun _ => by kernel_rfl) (fun _ => ?_)
  refine WP.block ?_
  refine WP.seq ?_
  refine WP.region ?_
  refine WL.val (fun _ => run_assertHas (t := 138) (v := .agg #[.string a0, .iface 80 (.agg #[.int .i64 a0_1.n])]) (by kernel_rfl) (by kernel_rfl)) (by kernel_rfl) (by kernel_rfl) rfl ?_
  refine WL.run 2 [] [0, 1, 3, 6, 8, 9, 10, 16, 17, 18, 19, 25, 26, 27, 28, 29, 30, 31, 32, 33, 34, 35, 36, 37, 38, 39] (fun _ => [(0, .iface 138 (.agg #[.string a0, .iface 80 (.agg #[.int .i64 a0_1.n])])), (1, .iface 82 (.pointer (some ⟨b_0, 0, none⟩))), (3, .iface 148 (.agg #[.pointer (some ⟨2, 80, none⟩)])), (6, .pointer (some ⟨b1, 0, none⟩)), (8, .bool false), (9, .nilIface), (10, .bool false), (16, .iface 138 (.agg #[.string a0, .iface 80 (.agg #[.int .i64 a0_1.n])])), (17, .iface 148 (.agg #[.pointer (some ⟨2, 138, none⟩)])), (18, .iface 148 (.agg #[.pointer (some ⟨2, 80, none⟩)])), (19, .bool false), (25, .tuple #[.nilIface, .bool false]), (26, .iface 138 (.agg #[.string a0, .iface 80 (.agg #[.int .i64 a0_1.n])])), (27, .tuple #[.nilIface, .bool false]), (28, .nilIface), (29, .bool false), (30, .bool false), (31, .bool false), (32, .tuple #[]), (33, .tuple #[]), (34, .tuple #[]), (35, .bool false), (36, .iface 138 (.agg #[.string a0, .iface 80 (.agg #[.int .i64 a0_1.n])])), (37, .tuple #[.iface 138 (.agg #[.string a0, .iface 80 (.agg #[.int .i64 a0_1.n])]), .bool true]), (38, .bool true), (39, .iface 138 (.agg #[.string a0, .iface 80 (.agg #[.int .i64 a0_1.n])]))]) (fun _ => [(b_0, .cells #[.int .i64 a1.n] 80 (0, 0)), (b_1, .cells #[.pointer (some ⟨b_0, 0, none⟩)] 82 (0, 0)), (b1, .cells #[.pointer (some ⟨2, 82, none⟩), .pointer (some ⟨b_1, 0, none⟩), .int .u64 150] 106 (0, 0))]) (fun _ => []) (fun _ => by kernel_rfl) (fun _ => ?_)
  refine WP.done ?_
  refine WP.yes rfl rfl ?_
  refine WP.seq ?_
  refine WP.run [] [0, 1, 3, 6, 8, 9, 10, 11, 16, 17, 18, 19, 25, 26, 27, 28, 29, 30, 31, 32, 33, 34, 35, 36, 37, 38, 39] (fun _ => [(0, .iface 138 (.agg #[.string a0, .iface 80 (.agg #[.int .i64 a0_1.n])])), (1, .iface 82 (.pointer (some ⟨b_0, 0, none⟩))), (3, .iface 148 (.agg #[.pointer (some ⟨2, 80, none⟩)])), (6, .pointer (some ⟨b1, 0, none⟩)), (8, .bool false), (9, .nilIface), (10, .bool false), (11, .iface 138 (.agg #[.string a0, .iface 80 (.agg #[.int .i64 a0_1.n])])), (16, .iface 138 (.agg #[.string a0, .iface 80 (.agg #[.int .i64 a0_1.n])])), (17, .iface 148 (.agg #[.pointer (some ⟨2, 138, none⟩)])), (18, .iface 148 (.agg #[.pointer (some ⟨2, 80, none⟩)])), (19, .bool false), (25, .tuple #[.nilIface, .bool false]), (26, .iface 138 (.agg #[.string a0, .iface 80 (.agg #[.int .i64 a0_1.n])])), (27, .tuple #[.nilIface, .bool false]), (28, .nilIface), (29, .bool false), (30, .bool false), (31, .bool false), (32, .tuple #[]), (33, .tuple #[]), (34, .tuple #[]), (35, .bool false), (36, .iface 138 (.agg #[.string a0, .iface 80 (.agg #[.int .i64 a0_1.n])])), (37, .tuple #[.iface 138 (.agg #[.string a0, .iface 80 (.agg #[.int .i64 a0_1.n])]), .bool true]), (38, .bool true), (39, .iface 138 (.agg #[.string a0, .iface 80 (.agg #[.int .i64 a0_1.n])]))]) (fun _ => [(b_0, .cells #[.int .i64 a1.n] 80 (0, 0)), (b_1, .cells #[.pointer (some ⟨b_0, 0, none⟩)] 82 (0, 0)), (b1, .cells #[.pointer (some ⟨2, 82, none⟩), .pointer (some ⟨b_1, 0, none⟩), .int .u64 150] 106 (0, 0))]) (fun _ => []) (fun _ => by kernel_rfl) (fun _ => ?_)
  refine WP.seq ?_
  refine WP.region ?_
  refine WL.run 1 [] [0, 1, 3, 6, 8, 9, 10, 11, 16, 17, 18, 19, 25, 26, 27, 28, 29, 30, 31, 32, 33, 34, 35, 36, 37, 38, 39, 40] (fun _ => [(0, .iface 138 (.agg #[.string a0, .iface 80 (.agg #[.int .i64 a0_1.n])])), (1, .iface 82 (.pointer (some ⟨b_0, 0, none⟩))), (3, .iface 148 (.agg #[.pointer (some ⟨2, 80, none⟩)])), (6, .pointer (some ⟨b1, 0, none⟩)), (8, .bool false), (9, .nilIface), (10, .bool false), (11, .iface 138 (.agg #[.string a0, .iface 80 (.agg #[.int .i64 a0_1.n])])), (16, .iface 138 (.agg #[.string a0, .iface 80 (.agg #[.int .i64 a0_1.n])])), (17, .iface 148 (.agg #[.pointer (some ⟨2, 138, none⟩)])), (18, .iface 148 (.agg #[.pointer (some ⟨2, 80, none⟩)])), (19, .bool false), (25, .tuple #[.nilIface, .bool false]), (26, .iface 138 (.agg #[.string a0, .iface 80 (.agg #[.int .i64 a0_1.n])])), (27, .tuple #[.nilIface, .bool false]), (28, .nilIface), (29, .bool false), (30, .bool false), (31, .bool false), (32, .tuple #[]), (33, .tuple #[]), (34, .tuple #[]), (35, .bool false), (36, .iface 138 (.agg #[.string a0, .iface 80 (.agg #[.int .i64 a0_1.n])])), (37, .tuple #[.iface 138 (.agg #[.string a0, .iface 80 (.agg #[.int .i64 a0_1.n])]), .bool true]), (38, .bool true), (39, .iface 138 (.agg #[.string a0, .iface 80 (.agg #[.int .i64 a0_1.n])])), (40, .iface 138 (.agg #[.string a0, .iface 80 (.agg #[.int .i64 a0_1.n])]))]) (fun _ => [(b_0, .cells #[.int .i64 a1.n] 80 (0, 0)), (b_1, .cells #[.pointer (some ⟨b_0, 0, none⟩)] 82 (0, 0)), (b1, .cells #[.pointer (some ⟨2, 82, none⟩), .pointer (some ⟨b_1, 0, none⟩), .int .u64 150] 106 (0, 0))]) (fun _ => []) (fun _ => by kernel_rfl) (fun _ => ?_)
  obtain ⟨r3, h4, hM⟩ := bind_some hM
  refine WL.callP [] [] (station_while_Unwrap_calls a0 a0_1 _ h4) (fun _ h => h) (by kernel_rfl) (by kernel_rfl) rfl ?_
  refine WL.run 1 [] [0, 1, 3, 6, 8, 9, 10, 11, 16, 17, 18, 19, 25, 26, 27, 28, 29, 30, 31, 32, 33, 34, 35, 36, 37, 38, 39, 40, 41] (fun _ => [(0, .iface 80 (.agg #[.int .i64 r3.n])), (1, .iface 82 (.pointer (some ⟨b_0, 0, none⟩))), (3, .iface 148 (.agg #[.pointer (some ⟨2, 80, none⟩)])), (6, .pointer (some ⟨b1, 0, none⟩)), (8, .bool false), (9, .nilIface), (10, .bool false), (11, .iface 138 (.agg #[.string a0, .iface 80 (.agg #[.int .i64 a0_1.n])])), (16, .iface 138 (.agg #[.string a0, .iface 80 (.agg #[.int .i64 a0_1.n])])), (17, .iface 148 (.agg #[.pointer (some ⟨2, 138, none⟩)])), (18, .iface 148 (.agg #[.pointer (some ⟨2, 80, none⟩)])), (19, .bool false), (25, .tuple #[.nilIface, .bool false]), (26, .iface 138 (.agg #[.string a0, .iface 80 (.agg #[.int .i64 a0_1.n])])), (27, .tuple #[.nilIface, .bool false]), (28, .nilIface), (29, .bool false), (30, .bool false), (31, .bool false), (32, .tuple #[]), (33, .tuple #[]), (34, .tuple #[]), (35, .bool false), (36, .iface 138 (.agg #[.string a0, .iface 80 (.agg #[.int .i64 a0_1.n])])), (37, .tuple #[.iface 138 (.agg #[.string a0, .iface 80 (.agg #[.int .i64 a0_1.n])]), .bool true]), (38, .bool true), (39, .iface 138 (.agg #[.string a0, .iface 80 (.agg #[.int .i64 a0_1.n])])), (40, .iface 138 (.agg #[.string a0, .iface 80 (.agg #[.int .i64 a0_1.n])])), (41, .iface 80 (.agg #[.int .i64 r3.n]))]) (fun _ => [(b_0, .cells #[.int .i64 a1.n] 80 (0, 0)), (b_1, .cells #[.pointer (some ⟨b_0, 0, none⟩)] 82 (0, 0)), (b1, .cells #[.pointer (some ⟨2, 82, none⟩), .pointer (some ⟨b_1, 0, none⟩), .int .u64 150] 106 (0, 0))]) (fun _ => []) (fun _ => by kernel_rfl) (fun _ => ?_)
  refine WP.done ?_
  refine WP.seq ?_
  refine WP.run [] [0, 1, 3, 6, 8, 9, 10, 11, 16, 17, 18, 19, 25, 26, 27, 28, 29, 30, 31, 32, 33, 34, 35, 36, 37, 38, 39, 40, 41, 42, 43] (fun _ => [(0, .iface 80 (.agg #[.int .i64 r3.n])), (1, .iface 82 (.pointer (some ⟨b_0, 0, none⟩))), (3, .iface 148 (.agg #[.pointer (some ⟨2, 80, none⟩)])), (6, .pointer (some ⟨b1, 0, none⟩)), (8, .bool false), (9, .nilIface), (10, .bool false), (11, .iface 138 (.agg #[.string a0, .iface 80 (.agg #[.int .i64 a0_1.n])])), (16, .iface 138 (.agg #[.string a0, .iface 80 (.agg #[.int .i64 a0_1.n])])), (17, .iface 148 (.agg #[.pointer (some ⟨2, 138, none⟩)])), (18, .iface 148 (.agg #[.pointer (some ⟨2, 80, none⟩)])), (19, .bool false), (25, .tuple #[.nilIface, .bool false]), (26, .iface 138 (.agg #[.string a0, .iface 80 (.agg #[.int .i64 a0_1.n])])), (27, .tuple #[.nilIface, .bool false]), (28, .nilIface), (29, .bool false), (30, .bool false), (31, .bool false), (32, .tuple #[]), (33, .tuple #[]), (34, .tuple #[]), (35, .bool false), (36, .iface 138 (.agg #[.string a0, .iface 80 (.agg #[.int .i64 a0_1.n])])), (37, .tuple #[.iface 138 (.agg #[.string a0, .iface 80 (.agg #[.int .i64 a0_1.n])]), .bool true]), (38, .bool true), (39, .iface 138 (.agg #[.string a0, .iface 80 (.agg #[.int .i64 a0_1.n])])), (40, .iface 138 (.agg #[.string a0, .iface 80 (.agg #[.int .i64 a0_1.n])])), (41, .iface 80 (.agg #[.int .i64 r3.n])), (42, .iface 80 (.agg #[.int .i64 r3.n])), (43, .bool false)]) (fun _ => [(b_0, .cells #[.int .i64 a1.n] 80 (0, 0)), (b_1, .cells #[.pointer (some ⟨b_0, 0, none⟩)] 82 (0, 0)), (b1, .cells #[.pointer (some ⟨2, 82, none⟩), .pointer (some ⟨b_1, 0, none⟩), .int .u64 150] 106 (0, 0))]) (fun _ => []) (fun _ => by kernel_rfl) (fun _ => ?_)
  refine WP.no rfl rfl ?_
  refine WP.skip ?_
  refine WP.leave ?_
  refine WP.leave ?_
  refine WP.round ?_
  refine WP.block ?_
  refine WP.seq ?_
  refine WP.seq ?_
  refine WP.run [] [0, 1, 3, 6, 8, 9, 10, 11, 16, 17, 18, 19, 25, 26, 27, 28, 29, 30, 31, 32, 33, 34, 35, 36, 37, 38, 39, 40, 41, 42, 43] (fun _ => [(0, .iface 80 (.agg #[.int .i64 r3.n])), (1, .iface 82 (.pointer (some ⟨b_0, 0, none⟩))), (3, .iface 148 (.agg #[.pointer (some ⟨2, 80, none⟩)])), (6, .pointer (some ⟨b1, 0, none⟩)), (8, .bool false), (9, .nilIface), (10, .bool false), (11, .iface 138 (.agg #[.string a0, .iface 80 (.agg #[.int .i64 a0_1.n])])), (16, .iface 80 (.agg #[.int .i64 r3.n])), (17, .iface 148 (.agg #[.pointer (some ⟨2, 80, none⟩)])), (18, .iface 148 (.agg #[.pointer (some ⟨2, 80, none⟩)])), (19, .bool true), (25, .tuple #[.nilIface, .bool false]), (26, .iface 138 (.agg #[.string a0, .iface 80 (.agg #[.int .i64 a0_1.n])])), (27, .tuple #[.nilIface, .bool false]), (28, .nilIface), (29, .bool false), (30, .bool false), (31, .bool false), (32, .tuple #[]), (33, .tuple #[]), (34, .tuple #[]), (35, .bool false), (36, .iface 138 (.agg #[.string a0, .iface 80 (.agg #[.int .i64 a0_1.n])])), (37, .tuple #[.iface 138 (.agg #[.string a0, .iface 80 (.agg #[.int .i64 a0_1.n])]), .bool true]), (38, .bool true), (39, .iface 138 (.agg #[.string a0, .iface 80 (.agg #[.int .i64 a0_1.n])])), (40, .iface 138 (.agg #[.string a0, .iface 80 (.agg #[.int .i64 a0_1.n])])), (41, .iface 80 (.agg #[.int .i64 r3.n])), (42, .iface 80 (.agg #[.int .i64 r3.n])), (43, .bool false)]) (fun _ => [(b_0, .cells #[.int .i64 a1.n] 80 (0, 0)), (b_1, .cells #[.pointer (some ⟨b_0, 0, none⟩)] 82 (0, 0)), (b1, .cells #[.pointer (some ⟨2, 82, none⟩), .pointer (some ⟨b_1, 0, none⟩), .int .u64 150] 106 (0, 0))]) (fun _ => []) (fun _ => by kernel_rfl) (fun _ => ?_)
  refine WP.yes rfl rfl ?_
  refine WP.seq ?_
  refine WP.run [2, 2, 2, 1, 3, 0] [0, 1, 3, 6, 8, 9, 10, 11, 16, 17, 18, 19, 20, 21, 22, 23, 25, 26, 27, 28, 29, 30, 31, 32, 33, 34, 35, 36, 37, 38, 39, 40, 41, 42, 43] (fun b5 => [(0, .iface 80 (.agg #[.int .i64 r3.n])), (1, .iface 82 (.pointer (some ⟨b_0, 0, none⟩))), (3, .iface 148 (.agg #[.pointer (some ⟨2, 80, none⟩)])), (6, .pointer (some ⟨b1, 0, none⟩)), (8, .bool false), (9, .nilIface), (10, .bool false), (11, .iface 138 (.agg #[.string a0, .iface 80 (.agg #[.int .i64 a0_1.n])])), (16, .iface 80 (.agg #[.int .i64 r3.n])), (17, .iface 148 (.agg #[.pointer (some ⟨2, 80, none⟩)])), (18, .iface 148 (.agg #[.pointer (some ⟨2, 80, none⟩)])), (19, .bool true), (20, .agg #[.pointer (some ⟨2, 82, none⟩), .pointer (some ⟨b_1, 0, none⟩), .int .u64 150]), (21, .agg #[.pointer (some ⟨2, 80, none⟩), .pointer (some ⟨b_0, 0, none⟩), .int .u64 409]), (22, .iface 80 (.agg #[.int .i64 r3.n])), (23, .agg #[.pointer (some ⟨2, 80, none⟩), .pointer (some ⟨b5, 0, none⟩), .int .u64 153]), (25, .tuple #[.nilIface, .bool false]), (26, .iface 138 (.agg #[.string a0, .iface 80 (.agg #[.int .i64 a0_1.n])])), (27, .tuple #[.nilIface, .bool false]), (28, .nilIface), (29, .bool false), (30, .bool false), (31, .bool false), (32, .tuple #[]), (33, .tuple #[]), (34, .tuple #[]), (35, .bool false), (36, .iface 138 (.agg #[.string a0, .iface 80 (.agg #[.int .i64 a0_1.n])])), (37, .tuple #[.iface 138 (.agg #[.string a0, .iface 80 (.agg #[.int .i64 a0_1.n])]), .bool true]), (38, .bool true), (39, .iface 138 (.agg #[.string a0, .iface 80 (.agg #[.int .i64 a0_1.n])])), (40, .iface 138 (.agg #[.string a0, .iface 80 (.agg #[.int .i64 a0_1.n])])), (41, .iface 80 (.agg #[.int .i64 r3.n])), (42, .iface 80 (.agg #[.int .i64 r3.n])), (43, .bool false)]) (fun b5 => [(b_0, .cells #[.int .i64 r3.n] 80 (0, 0)), (b_1, .cells #[.pointer (some ⟨b_0, 0, none⟩)] 82 (0, 0)), (b1, .cells #[.pointer (some ⟨2, 82, none⟩), .pointer (some ⟨b_1, 0, none⟩), .int .u64 150] 106 (0, 0)), (b5, .cells #[.int .i64 r3.n] 80 (0, 0))]) (fun b5 => [b_0, b5, b_1, b1, b1, b1]) (fun b5 => by kernel_rfl) (fun b5 => ?_)
  refine WP.seq ?_
  refine WP.run [] [0, 1, 3, 6, 8, 9, 10, 11, 16, 17, 18, 19, 20, 21, 22, 23, 25, 26, 27, 28, 29, 30, 31, 32, 33, 34, 35, 36, 37, 38, 39, 40, 41, 42, 43] (fun _ => [(0, .iface 80 (.agg #[.int .i64 r3.n])), (1, .iface 82 (.pointer (some ⟨b_0, 0, none⟩))), (3, .iface 148 (.agg #[.pointer (some ⟨2, 80, none⟩)])), (6, .pointer (some ⟨b1, 0, none⟩)), (8, .bool true), (9, .nilIface), (10, .bool false), (11, .iface 138 (.agg #[.string a0, .iface 80 (.agg #[.int .i64 a0_1.n])])), (16, .iface 80 (.agg #[.int .i64 r3.n])), (17, .iface 148 (.agg #[.pointer (some ⟨2, 80, none⟩)])), (18, .iface 148 (.agg #[.pointer (some ⟨2, 80, none⟩)])), (19, .bool true), (20, .agg #[.pointer (some ⟨2, 82, none⟩), .pointer (some ⟨b_1, 0, none⟩), .int .u64 150]), (21, .agg #[.pointer (some ⟨2, 80, none⟩), .pointer (some ⟨b_0, 0, none⟩), .int .u64 409]), (22, .iface 80 (.agg #[.int .i64 r3.n])), (23, .agg #[.pointer (some ⟨2, 80, none⟩), .pointer (some ⟨b5, 0, none⟩), .int .u64 153]), (25, .tuple #[.nilIface, .bool false]), (26, .iface 138 (.agg #[.string a0, .iface 80 (.agg #[.int .i64 a0_1.n])])), (27, .tuple #[.nilIface, .bool false]), (28, .nilIface), (29, .bool false), (30, .bool false), (31, .bool false), (32, .tuple #[]), (33, .tuple #[]), (34, .tuple #[]), (35, .bool false), (36, .iface 138 (.agg #[.string a0, .iface 80 (.agg #[.int .i64 a0_1.n])])), (37, .tuple #[.iface 138 (.agg #[.string a0, .iface 80 (.agg #[.int .i64 a0_1.n])]), .bool true]), (38, .bool true), (39, .iface 138 (.agg #[.string a0, .iface 80 (.agg #[.int .i64 a0_1.n])])), (40, .iface 138 (.agg #[.string a0, .iface 80 (.agg #[.int .i64 a0_1.n])])), (41, .iface 80 (.agg #[.int .i64 r3.n])), (42, .iface 80 (.agg #[.int .i64 r3.n])), (43, .bool false)]) (fun _ => [(b_0, .cells #[.int .i64 r3.n] 80 (0, 0)), (b_1, .cells #[.pointer (some ⟨b_0, 0, none⟩)] 82 (0, 0)), (b1, .cells #[.pointer (some ⟨2, 82, none⟩), .pointer (some ⟨b_1, 0, none⟩), .int .u64 150] 106 (0, 0)), (b5, .cells #[.int .i64 r3.n] 80 (0, 0))]) (fun _ => []) (fun _ => by kernel_rfl) (fun _ => ?_)
  obtain rfl := Option.some.inj hM
  exact WP.ret [] [] (.bool true) (by kernel_rfl) (fun w' hw => ⟨(), rfl, hw.pick [0, 1] (by kernel_rfl)⟩)

end Go.Proofs.YtbodofjnfmjbpaaGreatDoor

namespace Go.Proofs.YtbodofjnfmjbpaaGreatDoor
open Go Eng
set_option linter.unusedVariables false
set_option linter.unusedSimpArgs false

/-! ### errors.As: function 34 -/
def errors_As_4.f (a0 : ByteArray) (a0_1 : station_why) (a1 : station_why) : Option (Bool × station_why) :=
  (errors_as_3.f a0 a0_1 a1).bind fun (r2, r3) =>
  some (r2, r3)

set_option maxRecDepth 100000 in
theorem errors_As_4_calls (b_0 : Nat) (a0 : ByteArray) (a0_1 : station_why) (a1 : station_why) (r : Bool × station_why) (h : errors_As_4.f a0 a0_1 a1 = some r) : Does Tryz.prog 34 #[.iface 138 (.agg #[.string a0, .iface 80 (.agg #[.int .i64 a0_1.n])]), .iface 82 (.pointer (some ⟨b_0, 0, none⟩))] [(b_0, .cells #[.int .i64 a1.n] 80 (0, 0))] Glob (fun _ : Unit => .bool r.1) (fun _ => [(b_0, .cells #[.int .i64 r.2.n] 80 (0, 0))]) (fun _ => []) (fun _ => Glob) := by
  intro w Z hS
  refine calls_of (args := [.iface 138 (.agg #[.string a0, .iface 80 (.agg #[.int .i64 a0_1.n])]), .iface 82 (.pointer (some ⟨b_0, 0, none⟩))]) (L := [(0, .iface 138 (.agg #[.string a0, .iface 80 (.agg #[.int .i64 a0_1.n])])), (1, .iface 82 (.pointer (some ⟨b_0, 0, none⟩)))]) (N := 42) (S := Sat w Z [(b_0, .cells #[.int .i64 a1.n] 80 (0, 0))] [] Glob) Tryz.func34 rfl rfl (Nat.le_of_ble_eq_true rfl) rfl hS ?_
  have hM := h
  clear h hS
  unfold errors_As_4.f at hM
  refine WP.seq ?_
  refine WP.run [] [0, 1, 4] (fun _ => [(0, .iface 138 (.agg #[.string a0, .iface 80 (.agg #[.int .i64 a0_1.n])])), (1, .iface 82 (.pointer (some ⟨b_0, 0, none⟩))), (4, .bool false)]) (fun _ => [(b_0, .cells #[.int .i64 a1.n] 80 (0, 0))]) (fun _ => []) (fun _ => by kernel_rfl) (fun _ => ?_)
  refine WP.seq ?_
  refine WP.seq ?_
  refine WP.run [] [0, 1, 4, 9] (fun _ => [(0, .iface 138 (.agg #[.string a0, .iface 80 (.agg #[.int .i64 a0_1.n])])), (1, .iface 82 (.pointer (some ⟨b_0, 0, none⟩))), (4, .bool false), (9, .bool false)]) (fun _ => [(b_0, .cells #[.int .i64 a1.n] 80 (0, 0))]) (fun _ => []) (fun _ => by kernel_rfl) (fun _ => ?_)
  refine WP.no rfl rfl ?_
  refine WP.skip ?_
  refine WP.seq ?_
  refine WP.seq ?_
  refine WP.run [] [0, 1, 4, 11] (fun _ => [(0, .iface 138 (.agg #[.string a0, .iface 80 (.agg #[.int .i64 a0_1.n])])), (1, .iface 82 (.pointer (some ⟨b_0, 0, none⟩))), (4, .bool false), (11, .bool false)]) (fun _ => [(b_0, .cells #[.int .i64 a1.n] 80 (0, 0))]) (fun _ => []) (fun _ => by kernel_rfl) (fun _ => ?_)
  refine WP.no rfl rfl ?_
  refine WP.skip ?_
  refine WP.seq ?_
  refine WP.run [2, 2, 2] [0, 1, 4, 5] (fun b1 => [(0, .iface 138 (.agg #[.string a0, .iface 80 (.agg #[.int .i64 a0_1.n])])), (1, .iface 82 (.pointer (some ⟨b_0, 0, none⟩))), (4, .bool false), (5, .pointer (some ⟨(b1 + 1), 0, none⟩))]) (fun b1 => [(b_0, .cells #[.int .i64 a1.n] 80 (0, 0)), (b1, .cells #[.pointer (some ⟨b_0, 0, none⟩)] 82 (0, 0)), ((b1 + 1), .cells #[.pointer (some ⟨2, 82, none⟩), .pointer (some ⟨b1, 0, none⟩), .int .u64 150] 106 (0, 0))]) (fun b1 => [(b1 + 1), (b1 + 1), (b1 + 1)]) (fun b1 => by kernel_rfl) (fun b1 => ?_)
  refine WP.seq ?_
  refine WP.run [2, 2, 2] [0, 1, 4, 5, 6] (fun _ => [(0, .iface 138 (.agg #[.string a0, .iface 80 (.agg #[.int .i64 a0_1.n])])), (1, .iface 82 (.pointer (some ⟨b_0, 0, none⟩))), (4, .bool false), (5, .pointer (some ⟨(b1 + 1), 0, none⟩)), (6, .iface 148 (.agg #[.pointer (some ⟨2, 82, none⟩)]))]) (fun _ => [(b_0, .cells #[.int .i64 a1.n] 80 (0, 0)), (b1, .cells #[.pointer (some ⟨b_0, 0, none⟩)] 82 (0, 0)), ((b1 + 1), .cells #[.pointer (some ⟨2, 82, none⟩), .pointer (some ⟨b1, 0, none⟩), .int .u64 150] 106 (0, 0))]) (fun _ => [(b1 + 1), (b1 + 1), (b1 + 1)]) (fun _ => by kernel_rfl) (fun _ => ?_)
  refine WP.seq ?_
  refine WP.seq ?_
  refine WP.run [2, 2, 2, 1] [0, 1, 4, 5, 6, 23] (fun _ => [(0, .iface 138 (.agg #[.string a0, .iface 80 (.agg #[.int .i64 a0_1.n])])), (1, .iface 82 (.pointer (some ⟨b_0, 0, none⟩))), (4, .bool false), (5, .pointer (some ⟨(b1 + 1), 0, none⟩)), (6, .iface 148 (.agg #[.pointer (some ⟨2, 82, none⟩)])), (23, .bool false)]) (fun _ => [(b_0, .cells #[.int .i64 a1.n] 80 (0, 0)), (b1, .cells #[.pointer (some ⟨b_0, 0, none⟩)] 82 (0, 0)), ((b1 + 1), .cells #[.pointer (some ⟨2, 82, none⟩), .pointer (some ⟨b1, 0, none⟩), .int .u64 150] 106 (0, 0))]) (fun _ => [b1, (b1 + 1), (b1 + 1), (b1 + 1)]) (fun _ => by kernel_rfl) (fun _ => ?_)
  refine WP.no rfl rfl ?_
  refine WP.skip ?_
  refine WP.seq ?_
  refine WP.run [] [0, 1, 4, 5, 7] (fun _ => [(0, .iface 138 (.agg #[.string a0, .iface 80 (.agg #[.int .i64 a0_1.n])])), (1, .iface 82 (.pointer (some ⟨b_0, 0, none⟩))), (4, .bool false), (5, .pointer (some ⟨(b1 + 1), 0, none⟩)), (7, .iface 148 (.agg #[.pointer (some ⟨2, 80, none⟩)]))]) (fun _ => [(b_0, .cells #[.int .i64 a1.n] 80 (0, 0)), (b1, .cells #[.pointer (some ⟨b_0, 0, none⟩)] 82 (0, 0)), ((b1 + 1), .cells #[.pointer (some ⟨2, 82, none⟩), .pointer (some ⟨b1, 0, none⟩), .int .u64 150] 106 (0, 0))]) (fun _ => []) (fun _ => by kernel_rfl) (fun _ => ?_)
  refine WP.seq ?_
  refine WP.seq ?_
  refine WP.region ?_
  refine WL.run 5 [] [0, 1, 4, 5, 7, 30, 31] (fun _ => [(0, .iface 138 (.agg #[.string a0, .iface 80 (.agg #[.int .i64 a0_1.n])])), (1, .iface 82 (.pointer (some ⟨b_0, 0, none⟩))), (4, .bool false), (5, .pointer (some ⟨(b1 + 1), 0, none⟩)), (7, .iface 148 (.agg #[.pointer (some ⟨2, 80, none⟩)])), (30, .bool true), (31, .iface 148 (.agg #[.pointer (some ⟨2, 80, none⟩)]))]) (fun _ => [(b_0, .cells #[.int .i64 a1.n] 80 (0, 0)), (b1, .cells #[.pointer (some ⟨b_0, 0, none⟩)] 82 (0, 0)), ((b1 + 1), .cells #[.pointer (some ⟨2, 82, none⟩), .pointer (some ⟨b1, 0, none⟩), .int .u64 150] 106 (0, 0))]) (fun _ => []) (fun _ => by kernel_rfl) (fun _ => ?_)
  refine WL.loadGlob (v := .iface 148 (.agg #[.pointer (some ⟨2, 73, none⟩)])) (by simp [Glob]) (fun _ => by kernel_rfl) (by kernel_rfl) rfl ?_
  refine WL.run 3 [] [0, 1, 4, 5, 7, 35] (fun _ => [(0, .iface 138 (.agg #[.string a0, .iface 80 (.agg #[.int .i64 a0_1.n])])), (1, .iface 82 (.pointer (some ⟨b_0, 0, none⟩))), (4, .bool false), (5, .pointer (some ⟨(b1 + 1), 0, none⟩)), (7, .iface 148 (.agg #[.pointer (some ⟨2, 80, none⟩)])), (35, .bool false)]) (fun _ => [(b_0, .cells #[.int .i64 a1.n] 80 (0, 0)), (b1, .cells #[.pointer (some ⟨b_0, 0, none⟩)] 82 (0, 0)), ((b1 + 1), .cells #[.pointer (some ⟨2, 82, none⟩), .pointer (some ⟨b1, 0, none⟩), .int .u64 150] 106 (0, 0))]) (fun _ => []) (fun _ => by kernel_rfl) (fun _ => ?_)
  refine WP.done ?_
  refine WP.no rfl rfl ?_
  refine WP.skip ?_
  refine WP.seq ?_
  refine WP.region ?_
  refine WL.run 4 [2, 2, 2] [4, 37, 38, 39, 40] (fun _ => [(4, .bool false), (37, .iface 138 (.agg #[.string a0, .iface 80 (.agg #[.int .i64 a0_1.n])])), (38, .iface 82 (.pointer (some ⟨b_0, 0, none⟩))), (39, .agg #[.pointer (some ⟨2, 82, none⟩), .pointer (some ⟨b1, 0, none⟩), .int .u64 150]), (40, .iface 148 (.agg #[.pointer (some ⟨2, 80, none⟩)]))]) (fun _ => [(b_0, .cells #[.int .i64 a1.n] 80 (0, 0)), (b1, .cells #[.pointer (some ⟨b_0, 0, none⟩)] 82 (0, 0)), ((b1 + 1), .cells #[.pointer (some ⟨2, 82, none⟩), .pointer (some ⟨b1, 0, none⟩), .int .u64 150] 106 (0, 0))]) (fun _ => [(b1 + 1), (b1 + 1), (b1 + 1)]) (fun _ => by kernel_rfl) (fun _ => ?_)
  obtain ⟨⟨r2, r3⟩, h4, hM⟩ := bind_some hM
  dsimp only at hM
  refine WL.callE (X := Unit) [] [] [true, true, false] (fun _ => _) (errors_as_3_calls b_0 b1 a0 a0_1 a1 _ h4) rfl rfl (fun _ h => h) (by kernel_rfl) (by kernel_rfl) (fun _ => rfl) (fun _ => ?_)
  refine WL.run 1 [] [4] (fun _ => [(4, .bool r2)]) (fun _ => [(b_0, .cells #[.int .i64 r3.n] 80 (0, 0)), (b1, .cells #[.pointer (some ⟨b_0, 0, none⟩)] 82 (0, 0)), ((b1 + 1), .cells #[.pointer (some ⟨2, 82, none⟩), .pointer (some ⟨b1, 0, none⟩), .int .u64 150] 106 (0, 0))]) (fun _ => []) (fun _ => by kernel_rfl) (fun _ => ?_)
  refine WP.done ?_
  refine WP.keep [true, false, false] (by kernel_rfl : _ = [(b_0, .cells #[.int .i64 r3.n] 80 (0, 0))]) ?_
  obtain rfl := Option.some.inj hM
  exact WP.ret [] [] (.bool r2) (by kernel_rfl) (fun w' hw => ⟨(), rfl, hw.pick [0] (by kernel_rfl)⟩)

end Go.Proofs.YtbodofjnfmjbpaaGreatDoor

namespace Go.Proofs.YtbodofjnfmjbpaaGreatDoor
open Go Eng
set_option linter.unusedVariables false
set_option linter.unusedSimpArgs false

/-! ### gangway/station.Take: function 15 -/
def station_Take.k2 (r15 : api_Got) (x29 : Int) : Option (api_Got × api_Arp) :=
  some (r15, (api_Arp.mk 0 0 0 0 0))

def station_Take.k1 (k : Nat) (a2 : api_Frame) (a0 : Int) (a1 : Int) (x7 : Bool) : Option (api_Got × api_Arp) :=
  bif x7 then
    (arp_Of.f k a2).bind fun (r9, r10) =>
    bif !r10 then
      some ((api_Got.mk 3 0 (api_Udp.mk 0 0 false (⟨#[]⟩ : ByteArray))), (api_Arp.mk 0 0 0 0 0))
    else
      some ((api_Got.mk 1 0 (api_Udp.mk 0 0 false (⟨#[]⟩ : ByteArray))), r9)
  else
    (station_got.f k a0 a1 a2).bind fun (r15, r16) =>
    match r16 with
    | none =>
      (errors_As_3.f (station_why.mk 0)).bind fun r20 =>
      bif r20 then
        some ((api_Got.mk 0 0 (api_Udp.mk 0 0 false (⟨#[]⟩ : ByteArray))), (api_Arp.mk 0 0 0 0 0))
      else
        station_Take.k2 r15 0
    | some (q23, q24) =>
      (errors_As_4.f q23 q24 (station_why.mk 0)).bind fun (r25, r26) =>
      bif r25 then
        some ((api_Got.mk r26.n 0 (api_Udp.mk 0 0 false (⟨#[]⟩ : ByteArray))), (api_Arp.mk 0 0 0 0 0))
      else
        station_Take.k2 r15 r26.n

def station_Take.f (k : Nat) (a0 : Int) (a1 : Int) (a2 : api_Frame) : Option (api_Got × api_Arp) :=
  bif (a2.Type_ == 2054) then
    (station_framed.f a0 a2).bind fun r3 =>
    match r3 with
    | none =>
      station_Take.k1 k a2 a0 a1 true
    | some (q5, q6) =>
      station_Take.k1 k a2 a0 a1 false
  else
    station_Take.k1 k a2 a0 a1 false

set_option maxRecDepth 100000 in
theorem station_Take_calls (k : Nat) (a0 : Int) (a1 : Int) (a2 : api_Frame) (r : api_Got × api_Arp) (h : station_Take.f k a0 a1 a2 = some r) : Pure Tryz.prog Glob 15 #[.int .u64 a0, .int .u32 a1, .agg #[.int .u64 a2.Dst, .int .u64 a2.Src, .bool a2.Tag.Has, .int .i64 a2.Tag.Pri, .bool a2.Tag.Dei, .int .i64 a2.Tag.Vid, .int .i64 a2.Type_, .string a2.Body]] (.tuple #[.agg #[.int .i64 r.1.Why, .int .u32 r.1.Src, .int .i64 r.1.U.Src, .int .i64 r.1.U.Dst, .bool r.1.U.NoSum, .string r.1.U.Body], .agg #[.int .i64 r.2.Op, .int .u64 r.2.SMac, .int .u32 r.2.SIp, .int .u64 r.2.TMac, .int .u32 r.2.TIp]]) := by
  intro w Z hS
  refine calls_of (args := [.int .u64 a0, .int .u32 a1, .agg #[.int .u64 a2.Dst, .int .u64 a2.Src, .bool a2.Tag.Has, .int .i64 a2.Tag.Pri, .bool a2.Tag.Dei, .int .i64 a2.Tag.Vid, .int .i64 a2.Type_, .string a2.Body]]) (L := [(0, .int .u64 a0), (1, .int .u32 a1), (2, .agg #[.int .u64 a2.Dst, .int .u64 a2.Src, .bool a2.Tag.Has, .int .i64 a2.Tag.Pri, .bool a2.Tag.Dei, .int .i64 a2.Tag.Vid, .int .i64 a2.Type_, .string a2.Body])]) (N := 49) (S := Sat w Z [] [] Glob) Tryz.func15 rfl rfl (Nat.le_of_ble_eq_true rfl) rfl hS ?_
  have hM := h
  clear h hS
  unfold station_Take.f at hM
  refine WP.seq ?_
  refine WP.run [] [0, 1, 5, 6, 7] (fun b1 => [(0, .int .u64 a0), (1, .int .u32 a1), (5, .pointer (some ⟨b1, 0, none⟩)), (6, .pointer (some ⟨(b1 + 1), 0, none⟩)), (7, .pointer (some ⟨(b1 + 2), 0, none⟩))]) (fun b1 => [(b1, .cells #[.int .u64 a2.Dst, .int .u64 a2.Src, .bool a2.Tag.Has, .int .i64 a2.Tag.Pri, .bool a2.Tag.Dei, .int .i64 a2.Tag.Vid, .int .i64 a2.Type_, .string a2.Body] 29 (0, 0)), ((b1 + 1), .cells #[.int .i64 0, .int .u32 0, .int .i64 0, .int .i64 0, .bool false, .string (⟨#[]⟩ : ByteArray)] 47 (0, 0)), ((b1 + 2), .cells #[.int .i64 0, .int .u64 0, .int .u32 0, .int .u64 0, .int .u32 0] 49 (0, 0))]) (fun b1 => []) (fun b1 => by kernel_rfl) (fun b1 => ?_)
  refine WP.seq ?_
  refine WP.seq ?_
  refine WP.region ?_
  refine WL.run 4 [0] [0, 1, 5, 6, 7, 16] (fun _ => [(0, .int .u64 a0), (1, .int .u32 a1), (5, .pointer (some ⟨b1, 0, none⟩)), (6, .pointer (some ⟨(b1 + 1), 0, none⟩)), (7, .pointer (some ⟨(b1 + 2), 0, none⟩)), (16, .bool (a2.Type_ == 2054))]) (fun _ => [(b1, .cells #[.int .u64 a2.Dst, .int .u64 a2.Src, .bool a2.Tag.Has, .int .i64 a2.Tag.Pri, .bool a2.Tag.Dei, .int .i64 a2.Tag.Vid, .int .i64 a2.Type_, .string a2.Body] 29 (0, 0)), ((b1 + 1), .cells #[.int .i64 0, .int .u32 0, .int .i64 0, .int .i64 0, .bool false, .string (⟨#[]⟩ : ByteArray)] 47 (0, 0)), ((b1 + 2), .cells #[.int .i64 0, .int .u64 0, .int .u32 0, .int .u64 0, .int .u32 0] 49 (0, 0))]) (fun _ => [b1]) (fun _ => by kernel_rfl) (fun _ => ?_)
  refine WL.sub [0, 1, 5, 6, 7, 16] (L' := [(0, .int .u64 a0), (1, .int .u32 a1), (5, .pointer (some ⟨b1, 0, none⟩)), (6, .pointer (some ⟨(b1 + 1), 0, none⟩)), (7, .pointer (some ⟨(b1 + 2), 0, none⟩)), (16, .bool (a2.Type_ == 2054))]) (by kernel_rfl) ?_
  refine WL.join (σ := Bool) 5 (fun st => station_Take.k1 k a2 a0 a1 st = some r) (fun st => [(0, .int .u64 a0), (1, .int .u32 a1), (5, .pointer (some ⟨b1, 0, none⟩)), (6, .pointer (some ⟨(b1 + 1), 0, none⟩)), (7, .pointer (some ⟨(b1 + 2), 0, none⟩)), (21, .bool st)]) (fun st => Sat w Z [(b1, .cells #[.int .u64 a2.Dst, .int .u64 a2.Src, .bool a2.Tag.Has, .int .i64 a2.Tag.Pri, .bool a2.Tag.Dei, .int .i64 a2.Tag.Vid, .int .i64 a2.Type_, .string a2.Body] 29 (0, 0)), ((b1 + 1), .cells #[.int .i64 0, .int .u32 0, .int .i64 0, .int .i64 0, .bool false, .string (⟨#[]⟩ : ByteArray)] 47 (0, 0)), ((b1 + 2), .cells #[.int .i64 0, .int .u64 0, .int .u32 0, .int .u64 0, .int .u32 0] 49 (0, 0))] [] Glob) (fun st hM => ?_) (fun K1 => ?_)
  ·
    obtain ⟨x7, rfl⟩ : ∃ y, y = st := ⟨st, rfl⟩
    replace hM : station_Take.k1 k a2 a0 a1 x7 = some r := hM
    unfold station_Take.k1 at hM
    show WL _ _ _ _ _ [(0, .int .u64 a0), (1, .int .u32 a1), (5, .pointer (some ⟨b1, 0, none⟩)), (6, .pointer (some ⟨(b1 + 1), 0, none⟩)), (7, .pointer (some ⟨(b1 + 2), 0, none⟩)), (21, .bool x7)] (Sat w Z [(b1, .cells #[.int .u64 a2.Dst, .int .u64 a2.Src, .bool a2.Tag.Has, .int .i64 a2.Tag.Pri, .bool a2.Tag.Dei, .int .i64 a2.Tag.Vid, .int .i64 a2.Type_, .string a2.Body] 29 (0, 0)), ((b1 + 1), .cells #[.int .i64 0, .int .u32 0, .int .i64 0, .int .i64 0, .bool false, .string (⟨#[]⟩ : ByteArray)] 47 (0, 0)), ((b1 + 2), .cells #[.int .i64 0, .int .u64 0, .int .u32 0, .int .u64 0, .int .u32 0] 49 (0, 0))] [] Glob)
    refine WP.done ?_
    refine WP.cond x7 rfl rfl (fun c8 => ?_) (fun c8 => ?_)
    · replace hM := cond_t hM c8
      refine WP.seq ?_
      refine WP.region ?_
      refine WL.run 1 [0, 0, 0, 0, 0, 0, 0, 0] [0, 1, 5, 6, 7, 23] (fun _ => [(0, .int .u64 a0), (1, .int .u32 a1), (5, .pointer (some ⟨b1, 0, none⟩)), (6, .pointer (some ⟨(b1 + 1), 0, none⟩)), (7, .pointer (some ⟨(b1 + 2), 0, none⟩)), (23, .agg #[.int .u64 a2.Dst, .int .u64 a2.Src, .bool a2.Tag.Has, .int .i64 a2.Tag.Pri, .bool a2.Tag.Dei, .int .i64 a2.Tag.Vid, .int .i64 a2.Type_, .string a2.Body])]) (fun _ => [(b1, .cells #[.int .u64 a2.Dst, .int .u64 a2.Src, .bool a2.Tag.Has, .int .i64 a2.Tag.Pri, .bool a2.Tag.Dei, .int .i64 a2.Tag.Vid, .int .i64 a2.Type_, .string a2.Body] 29 (0, 0)), ((b1 + 1), .cells #[.int .i64 0, .int .u32 0, .int .i64 0, .int .i64 0, .bool false, .string (⟨#[]⟩ : ByteArray)] 47 (0, 0)), ((b1 + 2), .cells #[.int .i64 0, .int .u64 0, .int .u32 0, .int .u64 0, .int .u32 0] 49 (0, 0))]) (fun _ => [b1, b1, b1, b1, b1, b1, b1, b1]) (fun _ => by kernel_rfl) (fun _ => ?_)
      obtain ⟨⟨r9, r10⟩, h11, hM⟩ := bind_some hM
      dsimp only at hM
      refine WL.callP [] [] (arp_Of_calls k a2 _ h11) (fun _ h => h) (by kernel_rfl) (by kernel_rfl) rfl ?_
      refine WL.run 6 [3, 3, 3, 3, 3] [0, 1, 5, 6, 7, 8, 9] (fun b12 => [(0, .int .u64 a0), (1, .int .u32 a1), (5, .pointer (some ⟨b1, 0, none⟩)), (6, .pointer (some ⟨(b1 + 1), 0, none⟩)), (7, .pointer (some ⟨(b1 + 2), 0, none⟩)), (8, .pointer (some ⟨b12, 0, none⟩)), (9, .bool r10)]) (fun b12 => [(b1, .cells #[.int .u64 a2.Dst, .int .u64 a2.Src, .bool a2.Tag.Has, .int .i64 a2.Tag.Pri, .bool a2.Tag.Dei, .int .i64 a2.Tag.Vid, .int .i64 a2.Type_, .string a2.Body] 29 (0, 0)), ((b1 + 1), .cells #[.int .i64 0, .int .u32 0, .int .i64 0, .int .i64 0, .bool false, .string (⟨#[]⟩ : ByteArray)] 47 (0, 0)), ((b1 + 2), .cells #[.int .i64 0, .int .u64 0, .int .u32 0, .int .u64 0, .int .u32 0] 49 (0, 0)), (b12, .cells #[.int .i64 r9.Op, .int .u64 r9.SMac, .int .u32 r9.SIp, .int .u64 r9.TMac, .int .u32 r9.TIp] 49 (0, 0))]) (fun b12 => [b12, b12, b12, b12, b12]) (fun b12 => by kernel_rfl) (fun b12 => ?_)
      refine WP.done ?_
      refine WP.seq ?_
      refine WP.seq ?_
      refine WP.run [] [0, 1, 5, 6, 7, 8, 28] (fun _ => [(0, .int .u64 a0), (1, .int .u32 a1), (5, .pointer (some ⟨b1, 0, none⟩)), (6, .pointer (some ⟨(b1 + 1), 0, none⟩)), (7, .pointer (some ⟨(b1 + 2), 0, none⟩)), (8, .pointer (some ⟨b12, 0, none⟩)), (28, .bool (!r10))]) (fun _ => [(b1, .cells #[.int .u64 a2.Dst, .int .u64 a2.Src, .bool a2.Tag.Has, .int .i64 a2.Tag.Pri, .bool a2.Tag.Dei, .int .i64 a2.Tag.Vid, .int .i64 a2.Type_, .string a2.Body] 29 (0, 0)), ((b1 + 1), .cells #[.int .i64 0, .int .u32 0, .int .i64 0, .int .i64 0, .bool false, .string (⟨#[]⟩ : ByteArray)] 47 (0, 0)), ((b1 + 2), .cells #[.int .i64 0, .int .u64 0, .int .u32 0, .int .u64 0, .int .u32 0] 49 (0, 0)), (b12, .cells #[.int .i64 r9.Op, .int .u64 r9.SMac, .int .u32 r9.SIp, .int .u64 r9.TMac, .int .u32 r9.TIp] 49 (0, 0))]) (fun _ => []) (fun _ => by kernel_rfl) (fun _ => ?_)
      refine WP.cond (!r10) rfl rfl (fun c13 => ?_) (fun c13 => ?_)
      · replace hM := cond_t hM c13
        refine WP.seq ?_
        refine WP.run [1, 1, 1, 1, 1, 1, 2, 2, 2, 2, 2] [0, 1, 5, 6, 7, 8] (fun _ => [(0, .int .u64 a0), (1, .int .u32 a1), (5, .pointer (some ⟨b1, 0, none⟩)), (6, .pointer (some ⟨(b1 + 1), 0, none⟩)), (7, .pointer (some ⟨(b1 + 2), 0, none⟩)), (8, .pointer (some ⟨b12, 0, none⟩))]) (fun _ => [(b1, .cells #[.int .u64 a2.Dst, .int .u64 a2.Src, .bool a2.Tag.Has, .int .i64 a2.Tag.Pri, .bool a2.Tag.Dei, .int .i64 a2.Tag.Vid, .int .i64 a2.Type_, .string a2.Body] 29 (0, 0)), ((b1 + 1), .cells #[.int .i64 3, .int .u32 0, .int .i64 0, .int .i64 0, .bool false, .string (⟨#[]⟩ : ByteArray)] 47 (0, 0)), ((b1 + 2), .cells #[.int .i64 0, .int .u64 0, .int .u32 0, .int .u64 0, .int .u32 0] 49 (0, 0)), (b12, .cells #[.int .i64 r9.Op, .int .u64 r9.SMac, .int .u32 r9.SIp, .int .u64 r9.TMac, .int .u32 r9.TIp] 49 (0, 0))]) (fun _ => [(b1 + 2), (b1 + 2), (b1 + 2), (b1 + 2), (b1 + 2), (b1 + 1), (b1 + 1), (b1 + 1), (b1 + 1), (b1 + 1), (b1 + 1)]) (fun _ => by kernel_rfl) (fun _ => ?_)
        obtain rfl := Option.some.inj hM
        exact WP.ret [1, 1, 1, 1, 1, 1, 2, 2, 2, 2, 2] [(b1 + 1), (b1 + 1), (b1 + 1), (b1 + 1), (b1 + 1), (b1 + 1), (b1 + 2), (b1 + 2), (b1 + 2), (b1 + 2), (b1 + 2)] (.tuple #[.agg #[.int .i64 3, .int .u32 0, .int .i64 0, .int .i64 0, .bool false, .string (⟨#[]⟩ : ByteArray)], .agg #[.int .i64 0, .int .u64 0, .int .u32 0, .int .u64 0, .int .u32 0]]) (by kernel_rfl) (fun w' hw => ⟨rfl, hw.pick [] rfl⟩)
      · replace hM := cond_f hM c13
        refine WP.skip ?_
        refine WP.seq ?_
        refine WP.sub [0, 1, 5, 6, 7, 8] (L' := [(0, .int .u64 a0), (1, .int .u32 a1), (5, .pointer (some ⟨b1, 0, none⟩)), (6, .pointer (some ⟨(b1 + 1), 0, none⟩)), (7, .pointer (some ⟨(b1 + 2), 0, none⟩)), (8, .pointer (some ⟨b12, 0, none⟩))]) (by kernel_rfl) ?_
        refine WP.pick [0, 2, 3, 1] (by kernel_rfl) (by kernel_rfl : _ = [(b1, .cells #[.int .u64 a2.Dst, .int .u64 a2.Src, .bool a2.Tag.Has, .int .i64 a2.Tag.Pri, .bool a2.Tag.Dei, .int .i64 a2.Tag.Vid, .int .i64 a2.Type_, .string a2.Body] 29 (0, 0)), ((b1 + 2), .cells #[.int .i64 0, .int .u64 0, .int .u32 0, .int .u64 0, .int .u32 0] 49 (0, 0)), (b12, .cells #[.int .i64 r9.Op, .int .u64 r9.SMac, .int .u32 r9.SIp, .int .u64 r9.TMac, .int .u32 r9.TIp] 49 (0, 0)), ((b1 + 1), .cells #[.int .i64 0, .int .u32 0, .int .i64 0, .int .i64 0, .bool false, .string (⟨#[]⟩ : ByteArray)] 47 (0, 0))]) ?_
        refine WP.mixed (X := Unit) 3 [.val (.agg #[.int .i64 1, .int .u32 0, .int .i64 0, .int .i64 0, .bool false, .string (⟨#[]⟩ : ByteArray)]), .val (.agg #[.int .i64 r9.Op, .int .u64 r9.SMac, .int .u32 r9.SIp, .int .u64 r9.TMac, .int .u32 r9.TIp]), .put 3 [] (fun tt => .cells #[.int .i64 1, .int .u32 0, .int .i64 0, .int .i64 0, .bool false, .string (⟨#[]⟩ : ByteArray)] 47 (0, 0))] [(b1, .cells #[.int .u64 a2.Dst, .int .u64 a2.Src, .bool a2.Tag.Has, .int .i64 a2.Tag.Pri, .bool a2.Tag.Dei, .int .i64 a2.Tag.Vid, .int .i64 a2.Type_, .string a2.Body] 29 (0, 0)), ((b1 + 2), .cells #[.int .i64 0, .int .u64 0, .int .u32 0, .int .u64 0, .int .u32 0] 49 (0, 0)), (b12, .cells #[.int .i64 r9.Op, .int .u64 r9.SMac, .int .u32 r9.SIp, .int .u64 r9.TMac, .int .u32 r9.TIp] 49 (0, 0))] [((b1 + 1), .cells #[.int .i64 0, .int .u32 0, .int .i64 0, .int .i64 0, .bool false, .string (⟨#[]⟩ : ByteArray)] 47 (0, 0))] (by kernel_rfl) (by kernel_rfl) (by kernel_rfl) (by kernel_rfl) (Heads.val (fun tt Ψ => OpV.run [] [] (by kernel_rfl) (fun _ => by kernel_rfl)) (Heads.val (fun tt Ψ => OpV.run [2, 2, 2, 2, 2] [b12, b12, b12, b12, b12] (by kernel_rfl) (fun _ => by kernel_rfl)) (Heads.put (fun x x' h => rfl) 0 (b1 + 1) (.cells #[.int .i64 0, .int .u32 0, .int .i64 0, .int .i64 0, .bool false, .string (⟨#[]⟩ : ByteArray)] 47 (0, 0)) (fun tt => .cells #[.int .i64 0, .int .u32 0, .int .i64 0, .int .i64 0, .bool false, .string (⟨#[]⟩ : ByteArray)] 47 (0, 0)) (by kernel_rfl) rfl (fun _ => by kernel_rfl) (fun tt Ψ => OpP.run [3, 3, 3, 3, 3, 3] [(b1 + 1), (b1 + 1), (b1 + 1), (b1 + 1), (b1 + 1), (b1 + 1)] (by kernel_rfl) (fun _ _ => by kernel_rfl) (fun _ _ => by kernel_rfl)) Heads.nil))) (fun s14 tt => [(31, .agg #[.int .i64 1, .int .u32 0, .int .i64 0, .int .i64 0, .bool false, .string (⟨#[]⟩ : ByteArray)]), (32, .agg #[.int .i64 r9.Op, .int .u64 r9.SMac, .int .u32 r9.SIp, .int .u64 r9.TMac, .int .u32 r9.TIp]), (0, .int .u64 a0), (1, .int .u32 a1), (5, .pointer (some ⟨b1, 0, none⟩)), (6, .pointer (some ⟨(b1 + 1), 0, none⟩)), (7, .pointer (some ⟨(b1 + 2), 0, none⟩)), (8, .pointer (some ⟨b12, 0, none⟩))]) (fun s14 tt => [(b1, .cells #[.int .u64 a2.Dst, .int .u64 a2.Src, .bool a2.Tag.Has, .int .i64 a2.Tag.Pri, .bool a2.Tag.Dei, .int .i64 a2.Tag.Vid, .int .i64 a2.Type_, .string a2.Body] 29 (0, 0)), ((b1 + 2), .cells #[.int .i64 0, .int .u64 0, .int .u32 0, .int .u64 0, .int .u32 0] 49 (0, 0)), (b12, .cells #[.int .i64 r9.Op, .int .u64 r9.SMac, .int .u32 r9.SIp, .int .u64 r9.TMac, .int .u32 r9.TIp] 49 (0, 0)), ((b1 + 1), .cells #[.int .i64 1, .int .u32 0, .int .i64 0, .int .i64 0, .bool false, .string (⟨#[]⟩ : ByteArray)] 47 (0, 0))]) (fun tt => Glob) (fun _ _ => by kernel_rfl) (fun _ _ => by kernel_rfl) (fun _ => by kernel_rfl) (fun s14 tt => ?_)
        refine WL.run 1 [1, 1, 1, 1, 1] [0, 1, 5, 6, 7] (fun _ => [(0, .int .u64 a0), (1, .int .u32 a1), (5, .pointer (some ⟨b1, 0, none⟩)), (6, .pointer (some ⟨(b1 + 1), 0, none⟩)), (7, .pointer (some ⟨(b1 + 2), 0, none⟩))]) (fun _ => [(b1, .cells #[.int .u64 a2.Dst, .int .u64 a2.Src, .bool a2.Tag.Has, .int .i64 a2.Tag.Pri, .bool a2.Tag.Dei, .int .i64 a2.Tag.Vid, .int .i64 a2.Type_, .string a2.Body] 29 (0, 0)), ((b1 + 2), .cells #[.int .i64 r9.Op, .int .u64 r9.SMac, .int .u32 r9.SIp, .int .u64 r9.TMac, .int .u32 r9.TIp] 49 (0, 0)), (b12, .cells #[.int .i64 r9.Op, .int .u64 r9.SMac, .int .u32 r9.SIp, .int .u64 r9.TMac, .int .u32 r9.TIp] 49 (0, 0)), ((b1 + 1), .cells #[.int .i64 1, .int .u32 0, .int .i64 0, .int .i64 0, .bool false, .string (⟨#[]⟩ : ByteArray)] 47 (0, 0))]) (fun _ => [(b1 + 2), (b1 + 2), (b1 + 2), (b1 + 2), (b1 + 2)]) (fun _ => by kernel_rfl) (fun _ => ?_)
        refine WP.done ?_
        refine WP.keep [true, true, false, true] (by kernel_rfl : _ = [(b1, .cells #[.int .u64 a2.Dst, .int .u64 a2.Src, .bool a2.Tag.Has, .int .i64 a2.Tag.Pri, .bool a2.Tag.Dei, .int .i64 a2.Tag.Vid, .int .i64 a2.Type_, .string a2.Body] 29 (0, 0)), ((b1 + 2), .cells #[.int .i64 r9.Op, .int .u64 r9.SMac, .int .u32 r9.SIp, .int .u64 r9.TMac, .int .u32 r9.TIp] 49 (0, 0)), ((b1 + 1), .cells #[.int .i64 1, .int .u32 0, .int .i64 0, .int .i64 0, .bool false, .string (⟨#[]⟩ : ByteArray)] 47 (0, 0))]) ?_
        obtain rfl := Option.some.inj hM
        exact WP.ret [2, 2, 2, 2, 2, 2, 1, 1, 1, 1, 1] [(b1 + 1), (b1 + 1), (b1 + 1), (b1 + 1), (b1 + 1), (b1 + 1), (b1 + 2), (b1 + 2), (b1 + 2), (b1 + 2), (b1 + 2)] (.tuple #[.agg #[.int .i64 1, .int .u32 0, .int .i64 0, .int .i64 0, .bool false, .string (⟨#[]⟩ : ByteArray)], .agg #[.int .i64 r9.Op, .int .u64 r9.SMac, .int .u32 r9.SIp, .int .u64 r9.TMac, .int .u32 r9.TIp]]) (by kernel_rfl) (fun w' hw => ⟨rfl, hw.pick [] rfl⟩)
    · replace hM := cond_f hM c8
      refine WP.skip ?_
      refine WP.seq ?_
      refine WP.region ?_
      refine WL.run 3 [0, 0, 0, 0, 0, 0, 0, 0] [6, 7, 34, 35, 36] (fun _ => [(6, .pointer (some ⟨(b1 + 1), 0, none⟩)), (7, .pointer (some ⟨(b1 + 2), 0, none⟩)), (34, .int .u64 a0), (35, .int .u32 a1), (36, .agg #[.int .u64 a2.Dst, .int .u64 a2.Src, .bool a2.Tag.Has, .int .i64 a2.Tag.Pri, .bool a2.Tag.Dei, .int .i64 a2.Tag.Vid, .int .i64 a2.Type_, .string a2.Body])]) (fun _ => [(b1, .cells #[.int .u64 a2.Dst, .int .u64 a2.Src, .bool a2.Tag.Has, .int .i64 a2.Tag.Pri, .bool a2.Tag.Dei, .int .i64 a2.Tag.Vid, .int .i64 a2.Type_, .string a2.Body] 29 (0, 0)), ((b1 + 1), .cells #[.int .i64 0, .int .u32 0, .int .i64 0, .int .i64 0, .bool false, .string (⟨#[]⟩ : ByteArray)] 47 (0, 0)), ((b1 + 2), .cells #[.int .i64 0, .int .u64 0, .int .u32 0, .int .u64 0, .int .u32 0] 49 (0, 0))]) (fun _ => [b1, b1, b1, b1, b1, b1, b1, b1]) (fun _ => by kernel_rfl) (fun _ => ?_)
      obtain ⟨⟨r15, r16⟩, h17, hM⟩ := bind_some hM
      dsimp only at hM
      refine WL.callP [] [] (station_got_calls k a0 a1 a2 _ h17) (fun _ h => h) (by kernel_rfl) (by kernel_rfl) rfl ?_
      refine WL.run 6 [3, 3, 3, 3, 3, 3] [6, 7, 10, 11] (fun b18 => [(6, .pointer (some ⟨(b1 + 1), 0, none⟩)), (7, .pointer (some ⟨(b1 + 2), 0, none⟩)), (10, .pointer (some ⟨b18, 0, none⟩)), (11, Un2.v r16)]) (fun b18 => [(b1, .cells #[.int .u64 a2.Dst, .int .u64 a2.Src, .bool a2.Tag.Has, .int .i64 a2.Tag.Pri, .bool a2.Tag.Dei, .int .i64 a2.Tag.Vid, .int .i64 a2.Type_, .string a2.Body] 29 (0, 0)), ((b1 + 1), .cells #[.int .i64 0, .int .u32 0, .int .i64 0, .int .i64 0, .bool false, .string (⟨#[]⟩ : ByteArray)] 47 (0, 0)), ((b1 + 2), .cells #[.int .i64 0, .int .u64 0, .int .u32 0, .int .u64 0, .int .u32 0] 49 (0, 0)), (b18, .cells #[.int .i64 r15.Why, .int .u32 r15.Src, .int .i64 r15.U.Src, .int .i64 r15.U.Dst, .bool r15.U.NoSum, .string r15.U.Body] 47 (0, 0))]) (fun b18 => [b18, b18, b18, b18, b18, b18]) (fun b18 => by kernel_rfl) (fun b18 => ?_)
      refine WP.done ?_
      refine WP.keep [false, true, true, true] (by kernel_rfl : _ = [((b1 + 1), .cells #[.int .i64 0, .int .u32 0, .int .i64 0, .int .i64 0, .bool false, .string (⟨#[]⟩ : ByteArray)] 47 (0, 0)), ((b1 + 2), .cells #[.int .i64 0, .int .u64 0, .int .u32 0, .int .u64 0, .int .u32 0] 49 (0, 0)), (b18, .cells #[.int .i64 r15.Why, .int .u32 r15.Src, .int .i64 r15.U.Src, .int .i64 r15.U.Dst, .bool r15.U.NoSum, .string r15.U.Body] 47 (0, 0))]) ?_
      refine WP.seq ?_
      refine WP.run [] [6, 7, 10, 11, 12] (fun b19 => [(6, .pointer (some ⟨(b1 + 1), 0, none⟩)), (7, .pointer (some ⟨(b1 + 2), 0, none⟩)), (10, .pointer (some ⟨b18, 0, none⟩)), (11, Un2.v r16), (12, .pointer (some ⟨b19, 0, none⟩))]) (fun b19 => [((b1 + 1), .cells #[.int .i64 0, .int .u32 0, .int .i64 0, .int .i64 0, .bool false, .string (⟨#[]⟩ : ByteArray)] 47 (0, 0)), ((b1 + 2), .cells #[.int .i64 0, .int .u64 0, .int .u32 0, .int .u64 0, .int .u32 0] 49 (0, 0)), (b18, .cells #[.int .i64 r15.Why, .int .u32 r15.Src, .int .i64 r15.U.Src, .int .i64 r15.U.Dst, .bool r15.U.NoSum, .string r15.U.Body] 47 (0, 0)), (b19, .cells #[.int .i64 0] 80 (0, 0))]) (fun b19 => []) (fun b19 => by kernel_rfl) (fun b19 => ?_)
      refine WP.seqJoin (σ := Int) (fun st => station_Take.k2 r15 st = some r) (fun st => [(6, .pointer (some ⟨(b1 + 1), 0, none⟩)), (7, .pointer (some ⟨(b1 + 2), 0, none⟩)), (10, .pointer (some ⟨b18, 0, none⟩))]) (fun st => Sat w Z [((b1 + 1), .cells #[.int .i64 0, .int .u32 0, .int .i64 0, .int .i64 0, .bool false, .string (⟨#[]⟩ : ByteArray)] 47 (0, 0)), ((b1 + 2), .cells #[.int .i64 0, .int .u64 0, .int .u32 0, .int .u64 0, .int .u32 0] 49 (0, 0)), (b18, .cells #[.int .i64 r15.Why, .int .u32 r15.Src, .int .i64 r15.U.Src, .int .i64 r15.U.Dst, .bool r15.U.NoSum, .string r15.U.Body] 47 (0, 0))] [] Glob) (fun st hM => ?_) (fun K2 => ?_)
      ·
        obtain ⟨x29, rfl⟩ : ∃ y, y = st := ⟨st, rfl⟩
        replace hM : station_Take.k2 r15 x29 = some r := hM
        unfold station_Take.k2 at hM
        show WP _ _ _ _ _ [(6, .pointer (some ⟨(b1 + 1), 0, none⟩)), (7, .pointer (some ⟨(b1 + 2), 0, none⟩)), (10, .pointer (some ⟨b18, 0, none⟩))] (Sat w Z [((b1 + 1), .cells #[.int .i64 0, .int .u32 0, .int .i64 0, .int .i64 0, .bool false, .string (⟨#[]⟩ : ByteArray)] 47 (0, 0)), ((b1 + 2), .cells #[.int .i64 0, .int .u64 0, .int .u32 0, .int .u64 0, .int .u32 0] 49 (0, 0)), (b18, .cells #[.int .i64 r15.Why, .int .u32 r15.Src, .int .i64 r15.U.Src, .int .i64 r15.U.Dst, .bool r15.U.NoSum, .string r15.U.Body] 47 (0, 0))] [] Glob)
        refine WP.seq ?_
        refine WP.run [2, 2, 2, 2, 2, 2, 0, 0, 0, 0, 0, 0, 1, 1, 1, 1, 1] [6, 7] (fun _ => [(6, .pointer (some ⟨(b1 + 1), 0, none⟩)), (7, .pointer (some ⟨(b1 + 2), 0, none⟩))]) (fun _ => [((b1 + 1), .cells #[.int .i64 r15.Why, .int .u32 r15.Src, .int .i64 r15.U.Src, .int .i64 r15.U.Dst, .bool r15.U.NoSum, .string r15.U.Body] 47 (0, 0)), ((b1 + 2), .cells #[.int .i64 0, .int .u64 0, .int .u32 0, .int .u64 0, .int .u32 0] 49 (0, 0)), (b18, .cells #[.int .i64 r15.Why, .int .u32 r15.Src, .int .i64 r15.U.Src, .int .i64 r15.U.Dst, .bool r15.U.NoSum, .string r15.U.Body] 47 (0, 0))]) (fun _ => [(b1 + 2), (b1 + 2), (b1 + 2), (b1 + 2), (b1 + 2), (b1 + 1), (b1 + 1), (b1 + 1), (b1 + 1), (b1 + 1), (b1 + 1), b18, b18, b18, b18, b18, b18]) (fun _ => by kernel_rfl) (fun _ => ?_)
        refine WP.keep [true, true, false] (by kernel_rfl : _ = [((b1 + 1), .cells #[.int .i64 r15.Why, .int .u32 r15.Src, .int .i64 r15.U.Src, .int .i64 r15.U.Dst, .bool r15.U.NoSum, .string r15.U.Body] 47 (0, 0)), ((b1 + 2), .cells #[.int .i64 0, .int .u64 0, .int .u32 0, .int .u64 0, .int .u32 0] 49 (0, 0))]) ?_
        obtain rfl := Option.some.inj hM
        exact WP.ret [0, 0, 0, 0, 0, 0, 1, 1, 1, 1, 1] [(b1 + 1), (b1 + 1), (b1 + 1), (b1 + 1), (b1 + 1), (b1 + 1), (b1 + 2), (b1 + 2), (b1 + 2), (b1 + 2), (b1 + 2)] (.tuple #[.agg #[.int .i64 r15.Why, .int .u32 r15.Src, .int .i64 r15.U.Src, .int .i64 r15.U.Dst, .bool r15.U.NoSum, .string r15.U.Body], .agg #[.int .i64 0, .int .u64 0, .int .u32 0, .int .u64 0, .int .u32 0]]) (by kernel_rfl) (fun w' hw => ⟨rfl, hw.pick [] rfl⟩)
      ·
        refine WP.seq ?_
        refine WP.region ?_
        refine WL.run 2 [] [6, 7, 10, 12, 40, 41] (fun _ => [(6, .pointer (some ⟨(b1 + 1), 0, none⟩)), (7, .pointer (some ⟨(b1 + 2), 0, none⟩)), (10, .pointer (some ⟨b18, 0, none⟩)), (12, .pointer (some ⟨b19, 0, none⟩)), (40, Un2.v r16), (41, .iface 82 (.pointer (some ⟨b19, 0, none⟩)))]) (fun _ => [((b1 + 1), .cells #[.int .i64 0, .int .u32 0, .int .i64 0, .int .i64 0, .bool false, .string (⟨#[]⟩ : ByteArray)] 47 (0, 0)), ((b1 + 2), .cells #[.int .i64 0, .int .u64 0, .int .u32 0, .int .u64 0, .int .u32 0] 49 (0, 0)), (b18, .cells #[.int .i64 r15.Why, .int .u32 r15.Src, .int .i64 r15.U.Src, .int .i64 r15.U.Dst, .bool r15.U.NoSum, .string r15.U.Body] 47 (0, 0)), (b19, .cells #[.int .i64 0] 80 (0, 0))]) (fun _ => []) (fun _ => by kernel_rfl) (fun _ => ?_)
        rcases r16 with _ | ⟨q23, q24⟩
        · dsimp only at hM
          obtain ⟨r20, h21, hM⟩ := bind_some hM
          refine WL.callE (X := Unit) [] [] [false, false, false, true] (fun _ => _) (errors_As_3_calls b19 (station_why.mk 0) _ h21) rfl rfl (fun _ h => h) (by kernel_rfl) (by kernel_rfl) (fun _ => rfl) (fun _ => ?_)
          refine WP.done ?_
          refine WP.cond r20 rfl rfl (fun c22 => ?_) (fun c22 => ?_)
          · replace hM := cond_t hM c22
            refine WP.seq ?_
            refine WP.run [0, 1, 1, 1, 1, 1, 1, 2, 2, 2, 2, 2] [6, 7, 10] (fun _ => [(6, .pointer (some ⟨(b1 + 1), 0, none⟩)), (7, .pointer (some ⟨(b1 + 2), 0, none⟩)), (10, .pointer (some ⟨b18, 0, none⟩))]) (fun _ => [(b19, .cells #[.int .i64 0] 80 (0, 0)), ((b1 + 1), .cells #[.int .i64 0, .int .u32 0, .int .i64 0, .int .i64 0, .bool false, .string (⟨#[]⟩ : ByteArray)] 47 (0, 0)), ((b1 + 2), .cells #[.int .i64 0, .int .u64 0, .int .u32 0, .int .u64 0, .int .u32 0] 49 (0, 0)), (b18, .cells #[.int .i64 r15.Why, .int .u32 r15.Src, .int .i64 r15.U.Src, .int .i64 r15.U.Dst, .bool r15.U.NoSum, .string r15.U.Body] 47 (0, 0))]) (fun _ => [(b1 + 2), (b1 + 2), (b1 + 2), (b1 + 2), (b1 + 2), (b1 + 1), (b1 + 1), (b1 + 1), (b1 + 1), (b1 + 1), (b1 + 1), b19]) (fun _ => by kernel_rfl) (fun _ => ?_)
            refine WP.keep [false, true, true, true] (by kernel_rfl : _ = [((b1 + 1), .cells #[.int .i64 0, .int .u32 0, .int .i64 0, .int .i64 0, .bool false, .string (⟨#[]⟩ : ByteArray)] 47 (0, 0)), ((b1 + 2), .cells #[.int .i64 0, .int .u64 0, .int .u32 0, .int .u64 0, .int .u32 0] 49 (0, 0)), (b18, .cells #[.int .i64 r15.Why, .int .u32 r15.Src, .int .i64 r15.U.Src, .int .i64 r15.U.Dst, .bool r15.U.NoSum, .string r15.U.Body] 47 (0, 0))]) ?_
            obtain rfl := Option.some.inj hM
            exact WP.ret [0, 0, 0, 0, 0, 0, 1, 1, 1, 1, 1] [(b1 + 1), (b1 + 1), (b1 + 1), (b1 + 1), (b1 + 1), (b1 + 1), (b1 + 2), (b1 + 2), (b1 + 2), (b1 + 2), (b1 + 2)] (.tuple #[.agg #[.int .i64 0, .int .u32 0, .int .i64 0, .int .i64 0, .bool false, .string (⟨#[]⟩ : ByteArray)], .agg #[.int .i64 0, .int .u64 0, .int .u32 0, .int .u64 0, .int .u32 0]]) (by kernel_rfl) (fun w' hw => ⟨rfl, hw.pick [] rfl⟩)
          · replace hM := cond_f hM c22
            refine WP.skip ?_
            exact WP.sub [6, 7, 10] (by kernel_rfl) (WP.pick [1, 2, 3] (by kernel_rfl) (by kernel_rfl) (K2 0 hM))
        · dsimp only at hM
          obtain ⟨⟨r25, r26⟩, h27, hM⟩ := bind_some hM
          dsimp only at hM
          refine WL.callE (X := Unit) [] [] [false, false, false, true] (fun _ => _) (errors_As_4_calls b19 q23 q24 (station_why.mk 0) _ h27) rfl rfl (fun _ h => h) (by kernel_rfl) (by kernel_rfl) (fun _ => rfl) (fun _ => ?_)
          refine WP.done ?_
          refine WP.cond r25 rfl rfl (fun c28 => ?_) (fun c28 => ?_)
          · replace hM := cond_t hM c28
            refine WP.seq ?_
            refine WP.run [0, 1, 1, 1, 1, 1, 1, 2, 2, 2, 2, 2] [6, 7, 10] (fun _ => [(6, .pointer (some ⟨(b1 + 1), 0, none⟩)), (7, .pointer (some ⟨(b1 + 2), 0, none⟩)), (10, .pointer (some ⟨b18, 0, none⟩))]) (fun _ => [(b19, .cells #[.int .i64 r26.n] 80 (0, 0)), ((b1 + 1), .cells #[.int .i64 r26.n, .int .u32 0, .int .i64 0, .int .i64 0, .bool false, .string (⟨#[]⟩ : ByteArray)] 47 (0, 0)), ((b1 + 2), .cells #[.int .i64 0, .int .u64 0, .int .u32 0, .int .u64 0, .int .u32 0] 49 (0, 0)), (b18, .cells #[.int .i64 r15.Why, .int .u32 r15.Src, .int .i64 r15.U.Src, .int .i64 r15.U.Dst, .bool r15.U.NoSum, .string r15.U.Body] 47 (0, 0))]) (fun _ => [(b1 + 2), (b1 + 2), (b1 + 2), (b1 + 2), (b1 + 2), (b1 + 1), (b1 + 1), (b1 + 1), (b1 + 1), (b1 + 1), (b1 + 1), b19]) (fun _ => by kernel_rfl) (fun _ => ?_)
            refine WP.keep [false, true, true, true] (by kernel_rfl : _ = [((b1 + 1), .cells #[.int .i64 r26.n, .int .u32 0, .int .i64 0, .int .i64 0, .bool false, .string (⟨#[]⟩ : ByteArray)] 47 (0, 0)), ((b1 + 2), .cells #[.int .i64 0, .int .u64 0, .int .u32 0, .int .u64 0, .int .u32 0] 49 (0, 0)), (b18, .cells #[.int .i64 r15.Why, .int .u32 r15.Src, .int .i64 r15.U.Src, .int .i64 r15.U.Dst, .bool r15.U.NoSum, .string r15.U.Body] 47 (0, 0))]) ?_
            obtain rfl := Option.some.inj hM
            exact WP.ret [0, 0, 0, 0, 0, 0, 1, 1, 1, 1, 1] [(b1 + 1), (b1 + 1), (b1 + 1), (b1 + 1), (b1 + 1), (b1 + 1), (b1 + 2), (b1 + 2), (b1 + 2), (b1 + 2), (b1 + 2)] (.tuple #[.agg #[.int .i64 r26.n, .int .u32 0, .int .i64 0, .int .i64 0, .bool false, .string (⟨#[]⟩ : ByteArray)], .agg #[.int .i64 0, .int .u64 0, .int .u32 0, .int .u64 0, .int .u32 0]]) (by kernel_rfl) (fun w' hw => ⟨rfl, hw.pick [] rfl⟩)
          · replace hM := cond_f hM c28
            refine WP.skip ?_
            exact WP.sub [6, 7, 10] (by kernel_rfl) (WP.pick [1, 2, 3] (by kernel_rfl) (by kernel_rfl) (K2 r26.n hM))
  ·
    refine WL.split (fun b' => [(0, .int .u64 a0), (1, .int .u32 a1), (5, .pointer (some ⟨b1, 0, none⟩)), (6, .pointer (some ⟨(b1 + 1), 0, none⟩)), (7, .pointer (some ⟨(b1 + 2), 0, none⟩)), (16, .bool b')]) (a2.Type_ == 2054) (fun c2 => ?_) (fun c2 => ?_)
    · replace hM := cond_t hM c2
      refine WL.run 2 [0, 0, 0, 0, 0, 0, 0, 0] [0, 1, 5, 6, 7, 16, 17, 18] (fun _ => [(0, .int .u64 a0), (1, .int .u32 a1), (5, .pointer (some ⟨b1, 0, none⟩)), (6, .pointer (some ⟨(b1 + 1), 0, none⟩)), (7, .pointer (some ⟨(b1 + 2), 0, none⟩)), (16, .bool true), (17, .int .u64 a0), (18, .agg #[.int .u64 a2.Dst, .int .u64 a2.Src, .bool a2.Tag.Has, .int .i64 a2.Tag.Pri, .bool a2.Tag.Dei, .int .i64 a2.Tag.Vid, .int .i64 a2.Type_, .string a2.Body])]) (fun _ => [(b1, .cells #[.int .u64 a2.Dst, .int .u64 a2.Src, .bool a2.Tag.Has, .int .i64 a2.Tag.Pri, .bool a2.Tag.Dei, .int .i64 a2.Tag.Vid, .int .i64 a2.Type_, .string a2.Body] 29 (0, 0)), ((b1 + 1), .cells #[.int .i64 0, .int .u32 0, .int .i64 0, .int .i64 0, .bool false, .string (⟨#[]⟩ : ByteArray)] 47 (0, 0)), ((b1 + 2), .cells #[.int .i64 0, .int .u64 0, .int .u32 0, .int .u64 0, .int .u32 0] 49 (0, 0))]) (fun _ => [b1, b1, b1, b1, b1, b1, b1, b1]) (fun _ => by kernel_rfl) (fun _ => ?_)
      obtain ⟨r3, h4, hM⟩ := bind_some hM
      refine WL.callP [] [] (station_framed_calls a0 a2 _ h4) (fun _ h => h) (by kernel_rfl) (by kernel_rfl) rfl ?_
      rcases r3 with _ | ⟨q5, q6⟩
      · dsimp only at hM
        refine WL.run 2 [] [0, 1, 5, 6, 7, 21] (fun _ => [(0, .int .u64 a0), (1, .int .u32 a1), (5, .pointer (some ⟨b1, 0, none⟩)), (6, .pointer (some ⟨(b1 + 1), 0, none⟩)), (7, .pointer (some ⟨(b1 + 2), 0, none⟩)), (21, .bool true)]) (fun _ => [(b1, .cells #[.int .u64 a2.Dst, .int .u64 a2.Src, .bool a2.Tag.Has, .int .i64 a2.Tag.Pri, .bool a2.Tag.Dei, .int .i64 a2.Tag.Vid, .int .i64 a2.Type_, .string a2.Body] 29 (0, 0)), ((b1 + 1), .cells #[.int .i64 0, .int .u32 0, .int .i64 0, .int .i64 0, .bool false, .string (⟨#[]⟩ : ByteArray)] 47 (0, 0)), ((b1 + 2), .cells #[.int .i64 0, .int .u64 0, .int .u32 0, .int .u64 0, .int .u32 0] 49 (0, 0))]) (fun _ => []) (fun _ => by kernel_rfl) (fun _ => ?_)
        exact WL.sub [0, 1, 5, 6, 7, 21] (by kernel_rfl) (WL.pick [0, 1, 2] (by kernel_rfl) (by kernel_rfl) (K1 true hM))
      · dsimp only at hM
        refine WL.run 2 [] [0, 1, 5, 6, 7, 21] (fun _ => [(0, .int .u64 a0), (1, .int .u32 a1), (5, .pointer (some ⟨b1, 0, none⟩)), (6, .pointer (some ⟨(b1 + 1), 0, none⟩)), (7, .pointer (some ⟨(b1 + 2), 0, none⟩)), (21, .bool false)]) (fun _ => [(b1, .cells #[.int .u64 a2.Dst, .int .u64 a2.Src, .bool a2.Tag.Has, .int .i64 a2.Tag.Pri, .bool a2.Tag.Dei, .int .i64 a2.Tag.Vid, .int .i64 a2.Type_, .string a2.Body] 29 (0, 0)), ((b1 + 1), .cells #[.int .i64 0, .int .u32 0, .int .i64 0, .int .i64 0, .bool false, .string (⟨#[]⟩ : ByteArray)] 47 (0, 0)), ((b1 + 2), .cells #[.int .i64 0, .int .u64 0, .int .u32 0, .int .u64 0, .int .u32 0] 49 (0, 0))]) (fun _ => []) (fun _ => by kernel_rfl) (fun _ => ?_)
        exact WL.sub [0, 1, 5, 6, 7, 21] (by kernel_rfl) (WL.pick [0, 1, 2] (by kernel_rfl) (by kernel_rfl) (K1 false hM))
    · replace hM := cond_f hM c2
      refine WL.run 5 [] [0, 1, 5, 6, 7, 21] (fun _ => [(0, .int .u64 a0), (1, .int .u32 a1), (5, .pointer (some ⟨b1, 0, none⟩)), (6, .pointer (some ⟨(b1 + 1), 0, none⟩)), (7, .pointer (some ⟨(b1 + 2), 0, none⟩)), (21, .bool false)]) (fun _ => [(b1, .cells #[.int .u64 a2.Dst, .int .u64 a2.Src, .bool a2.Tag.Has, .int .i64 a2.Tag.Pri, .bool a2.Tag.Dei, .int .i64 a2.Tag.Vid, .int .i64 a2.Type_, .string a2.Body] 29 (0, 0)), ((b1 + 1), .cells #[.int .i64 0, .int .u32 0, .int .i64 0, .int .i64 0, .bool false, .string (⟨#[]⟩ : ByteArray)] 47 (0, 0)), ((b1 + 2), .cells #[.int .i64 0, .int .u64 0, .int .u32 0, .int .u64 0, .int .u32 0] 49 (0, 0))]) (fun _ => []) (fun _ => by kernel_rfl) (fun _ => ?_)
      exact WL.sub [0, 1, 5, 6, 7, 21] (by kernel_rfl) (WL.pick [0, 1, 2] (by kernel_rfl) (by kernel_rfl) (K1 false hM))

end Go.Proofs.YtbodofjnfmjbpaaGreatDoor

namespace Go.Proofs.YtbodofjnfmjbpaaGreatDoor
open Go Eng
set_option linter.unusedVariables false
set_option linter.unusedSimpArgs false

/-! ### gangway/ether.Bare: function 17 -/
def ether_Bare.f (a0 : api_Frame) : Option (api_Frame) :=
  some (api_Frame.mk a0.Dst a0.Src (api_Tag.mk false 0 false 0) a0.Type_ a0.Body)

set_option maxRecDepth 100000 in
theorem ether_Bare_calls (a0 : api_Frame) (r : api_Frame) (h : ether_Bare.f a0 = some r) : Pure Tryz.prog Glob 17 #[.agg #[.int .u64 a0.Dst, .int .u64 a0.Src, .bool a0.Tag.Has, .int .i64 a0.Tag.Pri, .bool a0.Tag.Dei, .int .i64 a0.Tag.Vid, .int .i64 a0.Type_, .string a0.Body]] (.agg #[.int .u64 r.Dst, .int .u64 r.Src, .bool r.Tag.Has, .int .i64 r.Tag.Pri, .bool r.Tag.Dei, .int .i64 r.Tag.Vid, .int .i64 r.Type_, .string r.Body]) := by
  intro w Z hS
  refine calls_of (args := [.agg #[.int .u64 a0.Dst, .int .u64 a0.Src, .bool a0.Tag.Has, .int .i64 a0.Tag.Pri, .bool a0.Tag.Dei, .int .i64 a0.Tag.Vid, .int .i64 a0.Type_, .string a0.Body]]) (L := [(0, .agg #[.int .u64 a0.Dst, .int .u64 a0.Src, .bool a0.Tag.Has, .int .i64 a0.Tag.Pri, .bool a0.Tag.Dei, .int .i64 a0.Tag.Vid, .int .i64 a0.Type_, .string a0.Body])]) (N := 6) (S := Sat w Z [] [] Glob) Tryz.func17 rfl rfl (Nat.le_of_ble_eq_true rfl) rfl hS ?_
  have hM := h
  clear h hS
  unfold ether_Bare.f at hM
  refine WP.seq ?_
  refine WP.run [] [1, 2] (fun b1 => [(1, .pointer (some ⟨b1, 0, none⟩)), (2, .pointer (some ⟨(b1 + 1), 0, none⟩))]) (fun b1 => [(b1, .cells #[.int .u64 a0.Dst, .int .u64 a0.Src, .bool a0.Tag.Has, .int .i64 a0.Tag.Pri, .bool a0.Tag.Dei, .int .i64 a0.Tag.Vid, .int .i64 a0.Type_, .string a0.Body] 29 (0, 0)), ((b1 + 1), .cells #[.int .u64 0, .int .u64 0, .bool false, .int .i64 0, .bool false, .int .i64 0, .int .i64 0, .string (⟨#[]⟩ : ByteArray)] 29 (0, 0))]) (fun b1 => []) (fun b1 => by kernel_rfl) (fun b1 => ?_)
  refine WP.seq ?_
  refine WP.run [0, 0, 0, 0] [1, 2] (fun _ => [(1, .pointer (some ⟨b1, 0, none⟩)), (2, .pointer (some ⟨(b1 + 1), 0, none⟩))]) (fun _ => [(b1, .cells #[.int .u64 a0.Dst, .int .u64 a0.Src, .bool false, .int .i64 0, .bool false, .int .i64 0, .int .i64 a0.Type_, .string a0.Body] 29 (0, 0)), ((b1 + 1), .cells #[.int .u64 0, .int .u64 0, .bool false, .int .i64 0, .bool false, .int .i64 0, .int .i64 0, .string (⟨#[]⟩ : ByteArray)] 29 (0, 0))]) (fun _ => [b1, b1, b1, b1]) (fun _ => by kernel_rfl) (fun _ => ?_)
  refine WP.seq ?_
  refine WP.run [0, 0, 0, 0, 0, 0, 0, 0, 1, 1, 1, 1, 1, 1, 1, 1] [2] (fun _ => [(2, .pointer (some ⟨(b1 + 1), 0, none⟩))]) (fun _ => [(b1, .cells #[.int .u64 a0.Dst, .int .u64 a0.Src, .bool false, .int .i64 0, .bool false, .int .i64 0, .int .i64 a0.Type_, .string a0.Body] 29 (0, 0)), ((b1 + 1), .cells #[.int .u64 a0.Dst, .int .u64 a0.Src, .bool false, .int .i64 0, .bool false, .int .i64 0, .int .i64 a0.Type_, .string a0.Body] 29 (0, 0))]) (fun _ => [(b1 + 1), (b1 + 1), (b1 + 1), (b1 + 1), (b1 + 1), (b1 + 1), (b1 + 1), (b1 + 1), b1, b1, b1, b1, b1, b1, b1, b1]) (fun _ => by kernel_rfl) (fun _ => ?_)
  refine WP.keep [false, true] (by kernel_rfl : _ = [((b1 + 1), .cells #[.int .u64 a0.Dst, .int .u64 a0.Src, .bool false, .int .i64 0, .bool false, .int .i64 0, .int .i64 a0.Type_, .string a0.Body] 29 (0, 0))]) ?_
  obtain rfl := Option.some.inj hM
  exact WP.ret [0, 0, 0, 0, 0, 0, 0, 0] [(b1 + 1), (b1 + 1), (b1 + 1), (b1 + 1), (b1 + 1), (b1 + 1), (b1 + 1), (b1 + 1)] (.agg #[.int .u64 a0.Dst, .int .u64 a0.Src, .bool false, .int .i64 0, .bool false, .int .i64 0, .int .i64 a0.Type_, .string a0.Body]) (by kernel_rfl) (fun w' hw => ⟨rfl, hw.pick [] rfl⟩)

end Go.Proofs.YtbodofjnfmjbpaaGreatDoor

namespace Go.Proofs.YtbodofjnfmjbpaaGreatDoor
open Go Eng
set_option linter.unusedVariables false
set_option linter.unusedSimpArgs false

/-! ### gangway/ether.tag: function 63 -/
def ether_tag.f (a0 : api_Tag) : Option (Bool) :=
  bif !a0.Has then
    some ((a0.Has == false) && ((a0.Pri == 0) && ((a0.Dei == false) && ((a0.Vid == 0) && true))))
  else
    some ((((decide (a0.Pri ≥ 0)) && (decide (a0.Pri < 8))) && (decide (a0.Vid ≥ 0))) && (decide (a0.Vid < 4096)))

set_option maxRecDepth 100000 in
theorem ether_tag_calls (a0 : api_Tag) (r : Bool) (h : ether_tag.f a0 = some r) : Pure Tryz.prog Glob 63 #[.agg #[.bool a0.Has, .int .i64 a0.Pri, .bool a0.Dei, .int .i64 a0.Vid]] (.bool r) := by
  intro w Z hS
  refine calls_of (args := [.agg #[.bool a0.Has, .int .i64 a0.Pri, .bool a0.Dei, .int .i64 a0.Vid]]) (L := [(0, .agg #[.bool a0.Has, .int .i64 a0.Pri, .bool a0.Dei, .int .i64 a0.Vid])]) (N := 27) (S := Sat w Z [] [] Glob) Tryz.func63 rfl rfl (Nat.le_of_ble_eq_true rfl) rfl hS ?_
  have hM := h
  clear h hS
  unfold ether_tag.f at hM
  refine WP.seq ?_
  refine WP.run [] [1, 2] (fun b1 => [(1, .pointer (some ⟨b1, 0, none⟩)), (2, .bool false)]) (fun b1 => [(b1, .cells #[.bool a0.Has, .int .i64 a0.Pri, .bool a0.Dei, .int .i64 a0.Vid] 27 (0, 0))]) (fun b1 => []) (fun b1 => by kernel_rfl) (fun b1 => ?_)
  refine WP.seq ?_
  refine WP.seq ?_
  refine WP.run [0] [1, 2, 5] (fun _ => [(1, .pointer (some ⟨b1, 0, none⟩)), (2, .bool false), (5, .bool (!a0.Has))]) (fun _ => [(b1, .cells #[.bool a0.Has, .int .i64 a0.Pri, .bool a0.Dei, .int .i64 a0.Vid] 27 (0, 0))]) (fun _ => [b1]) (fun _ => by kernel_rfl) (fun _ => ?_)
  refine WP.cond (!a0.Has) rfl rfl (fun c2 => ?_) (fun c2 => ?_)
  · replace hM := cond_t hM c2
    refine WP.seq ?_
    refine WP.region ?_
    refine WL.run 2 [0, 0, 0, 0] [1, 2, 6, 7] (fun _ => [(1, .pointer (some ⟨b1, 0, none⟩)), (2, .bool false), (6, .agg #[.bool a0.Has, .int .i64 a0.Pri, .bool a0.Dei, .int .i64 a0.Vid]), (7, .agg #[.bool false, .int .i64 0, .bool false, .int .i64 0])]) (fun _ => [(b1, .cells #[.bool a0.Has, .int .i64 a0.Pri, .bool a0.Dei, .int .i64 a0.Vid] 27 (0, 0))]) (fun _ => [b1, b1, b1, b1]) (fun _ => by kernel_rfl) (fun _ => ?_)
    refine WL.val (fun _ => run_structEq (xs := #[.bool a0.Has, .int .i64 a0.Pri, .bool a0.Dei, .int .i64 a0.Vid]) (ys := #[.bool false, .int .i64 0, .bool false, .int .i64 0]) (b := ((a0.Has == false) && ((a0.Pri == 0) && ((a0.Dei == false) && ((a0.Vid == 0) && true))))) (by kernel_rfl) (by kernel_rfl) (by kernel_rfl) (by kernel_rfl)) (by kernel_rfl) (by kernel_rfl) rfl ?_
    refine WL.run 1 [] [1, 2] (fun _ => [(1, .pointer (some ⟨b1, 0, none⟩)), (2, .bool ((a0.Has == false) && ((a0.Pri == 0) && ((a0.Dei == false) && ((a0.Vid == 0) && true)))))]) (fun _ => [(b1, .cells #[.bool a0.Has, .int .i64 a0.Pri, .bool a0.Dei, .int .i64 a0.Vid] 27 (0, 0))]) (fun _ => []) (fun _ => by kernel_rfl) (fun _ => ?_)
    refine WP.done ?_
    obtain rfl := Option.some.inj hM
    exact WP.ret [] [] (.bool ((a0.Has == false) && ((a0.Pri == 0) && ((a0.Dei == false) && ((a0.Vid == 0) && true))))) (by kernel_rfl) (fun w' hw => ⟨rfl, hw.pick [] rfl⟩)
  · replace hM := cond_f hM c2
    refine WP.skip ?_
    refine WP.seq ?_
    refine WP.region ?_
    refine WL.run 4 [0] [1, 2, 12] (fun _ => [(1, .pointer (some ⟨b1, 0, none⟩)), (2, .bool false), (12, .bool (decide (a0.Pri ≥ 0)))]) (fun _ => [(b1, .cells #[.bool a0.Has, .int .i64 a0.Pri, .bool a0.Dei, .int .i64 a0.Vid] 27 (0, 0))]) (fun _ => [b1]) (fun _ => by kernel_rfl) (fun _ => ?_)
    refine WL.sub [1, 2, 12] (L' := [(1, .pointer (some ⟨b1, 0, none⟩)), (2, .bool false), (12, .bool (decide (a0.Pri ≥ 0)))]) (by kernel_rfl) ?_
    refine WL.both (fun b' => [(1, .pointer (some ⟨b1, 0, none⟩)), (2, .bool false), (12, .bool b')]) (decide (a0.Pri ≥ 0)) 4 [0] [] [1, 2, 16] (fun b' => [(1, .pointer (some ⟨b1, 0, none⟩)), (2, .bool false), (16, .bool (b' && (decide (a0.Pri < 8))))]) [b1] [] (fun _ => by kernel_rfl) (fun _ => by kernel_rfl) ?_
    refine WL.run 1 [] [1, 2, 17] (fun _ => [(1, .pointer (some ⟨b1, 0, none⟩)), (2, .bool false), (17, .bool ((decide (a0.Pri ≥ 0)) && (decide (a0.Pri < 8))))]) (fun _ => [(b1, .cells #[.bool a0.Has, .int .i64 a0.Pri, .bool a0.Dei, .int .i64 a0.Vid] 27 (0, 0))]) (fun _ => []) (fun _ => by kernel_rfl) (fun _ => ?_)
    refine WL.sub [1, 2, 17] (L' := [(1, .pointer (some ⟨b1, 0, none⟩)), (2, .bool false), (17, .bool ((decide (a0.Pri ≥ 0)) && (decide (a0.Pri < 8))))]) (by kernel_rfl) ?_
    refine WL.both (fun b' => [(1, .pointer (some ⟨b1, 0, none⟩)), (2, .bool false), (17, .bool b')]) ((decide (a0.Pri ≥ 0)) && (decide (a0.Pri < 8))) 4 [0] [] [1, 2, 21] (fun b' => [(1, .pointer (some ⟨b1, 0, none⟩)), (2, .bool false), (21, .bool (b' && (decide (a0.Vid ≥ 0))))]) [b1] [] (fun _ => by kernel_rfl) (fun _ => by kernel_rfl) ?_
    refine WL.run 1 [] [1, 2, 22] (fun _ => [(1, .pointer (some ⟨b1, 0, none⟩)), (2, .bool false), (22, .bool (((decide (a0.Pri ≥ 0)) && (decide (a0.Pri < 8))) && (decide (a0.Vid ≥ 0))))]) (fun _ => [(b1, .cells #[.bool a0.Has, .int .i64 a0.Pri, .bool a0.Dei, .int .i64 a0.Vid] 27 (0, 0))]) (fun _ => []) (fun _ => by kernel_rfl) (fun _ => ?_)
    refine WL.sub [1, 2, 22] (L' := [(1, .pointer (some ⟨b1, 0, none⟩)), (2, .bool false), (22, .bool (((decide (a0.Pri ≥ 0)) && (decide (a0.Pri < 8))) && (decide (a0.Vid ≥ 0))))]) (by kernel_rfl) ?_
    refine WL.both (fun b' => [(1, .pointer (some ⟨b1, 0, none⟩)), (2, .bool false), (22, .bool b')]) (((decide (a0.Pri ≥ 0)) && (decide (a0.Pri < 8))) && (decide (a0.Vid ≥ 0))) 4 [0] [] [2, 26] (fun b' => [(2, .bool false), (26, .bool (b' && (decide (a0.Vid < 4096))))]) [b1] [] (fun _ => by kernel_rfl) (fun _ => by kernel_rfl) ?_
    refine WL.run 1 [] [2] (fun _ => [(2, .bool ((((decide (a0.Pri ≥ 0)) && (decide (a0.Pri < 8))) && (decide (a0.Vid ≥ 0))) && (decide (a0.Vid < 4096))))]) (fun _ => [(b1, .cells #[.bool a0.Has, .int .i64 a0.Pri, .bool a0.Dei, .int .i64 a0.Vid] 27 (0, 0))]) (fun _ => []) (fun _ => by kernel_rfl) (fun _ => ?_)
    refine WP.done ?_
    refine WP.keep [false] (by kernel_rfl : _ = []) ?_
    obtain rfl := Option.some.inj hM
    exact WP.ret [] [] (.bool ((((decide (a0.Pri ≥ 0)) && (decide (a0.Pri < 8))) && (decide (a0.Vid ≥ 0))) && (decide (a0.Vid < 4096)))) (by kernel_rfl) (fun w' hw => ⟨rfl, hw.pick [] rfl⟩)

end Go.Proofs.YtbodofjnfmjbpaaGreatDoor

namespace Go.Proofs.YtbodofjnfmjbpaaGreatDoor
open Go Eng
set_option linter.unusedVariables false
set_option linter.unusedSimpArgs false

/-! ### gangway/ether.size: function 64 -/
def ether_size.k1 (x3 : Int) : Option (Int) :=
  some x3

def ether_size.f (a0 : api_Frame) : Option (Int) :=
  bif a0.Tag.Has then
    ether_size.k1 (i64 ((i64 (14 + (a0.Body.size : Int))) + 4))
  else
    ether_size.k1 (i64 (14 + (a0.Body.size : Int)))

set_option maxRecDepth 100000 in
theorem ether_size_calls (a0 : api_Frame) (r : Int) (h : ether_size.f a0 = some r) : Pure Tryz.prog Glob 64 #[.agg #[.int .u64 a0.Dst, .int .u64 a0.Src, .bool a0.Tag.Has, .int .i64 a0.Tag.Pri, .bool a0.Tag.Dei, .int .i64 a0.Tag.Vid, .int .i64 a0.Type_, .string a0.Body]] (.int .i64 r) := by
  intro w Z hS
  refine calls_of (args := [.agg #[.int .u64 a0.Dst, .int .u64 a0.Src, .bool a0.Tag.Has, .int .i64 a0.Tag.Pri, .bool a0.Tag.Dei, .int .i64 a0.Tag.Vid, .int .i64 a0.Type_, .string a0.Body]]) (L := [(0, .agg #[.int .u64 a0.Dst, .int .u64 a0.Src, .bool a0.Tag.Has, .int .i64 a0.Tag.Pri, .bool a0.Tag.Dei, .int .i64 a0.Tag.Vid, .int .i64 a0.Type_, .string a0.Body])]) (N := 14) (S := Sat w Z [] [] Glob) Tryz.func64 rfl rfl (Nat.le_of_ble_eq_true rfl) rfl hS ?_
  have hM := h
  clear h hS
  unfold ether_size.f at hM
  refine WP.seq ?_
  refine WP.run [] [1, 2] (fun b1 => [(1, .pointer (some ⟨b1, 0, none⟩)), (2, .int .i64 0)]) (fun b1 => [(b1, .cells #[.int .u64 a0.Dst, .int .u64 a0.Src, .bool a0.Tag.Has, .int .i64 a0.Tag.Pri, .bool a0.Tag.Dei, .int .i64 a0.Tag.Vid, .int .i64 a0.Type_, .string a0.Body] 29 (0, 0))]) (fun b1 => []) (fun b1 => by kernel_rfl) (fun b1 => ?_)
  refine WP.seq ?_
  refine WP.run [0] [1, 2, 3] (fun _ => [(1, .pointer (some ⟨b1, 0, none⟩)), (2, .int .i64 0), (3, .int .i64 (i64 (14 + (a0.Body.size : Int))))]) (fun _ => [(b1, .cells #[.int .u64 a0.Dst, .int .u64 a0.Src, .bool a0.Tag.Has, .int .i64 a0.Tag.Pri, .bool a0.Tag.Dei, .int .i64 a0.Tag.Vid, .int .i64 a0.Type_, .string a0.Body] 29 (0, 0))]) (fun _ => [b1]) (fun _ => by kernel_rfl) (fun _ => ?_)
  refine WP.seqJoin (σ := Int) (fun st => ether_size.k1 st = some r) (fun st => [(2, .int .i64 0), (3, .int .i64 st)]) (fun st => Sat w Z [] [] Glob) (fun st hM => ?_) (fun K1 => ?_)
  ·
    obtain ⟨x3, rfl⟩ : ∃ y, y = st := ⟨st, rfl⟩
    replace hM : ether_size.k1 x3 = some r := hM
    unfold ether_size.k1 at hM
    show WP _ _ _ _ _ [(2, .int .i64 0), (3, .int .i64 x3)] (Sat w Z [] [] Glob)
    refine WP.seq ?_
    refine WP.run [] [2] (fun _ => [(2, .int .i64 x3)]) (fun _ => []) (fun _ => []) (fun _ => by kernel_rfl) (fun _ => ?_)
    obtain rfl := Option.some.inj hM
    exact WP.ret [] [] (.int .i64 x3) (by kernel_rfl) (fun w' hw => ⟨rfl, hw.pick [] rfl⟩)
  ·
    refine WP.seq ?_
    refine WP.run [0] [2, 3, 10] (fun _ => [(2, .int .i64 0), (3, .int .i64 (i64 (14 + (a0.Body.size : Int)))), (10, .bool a0.Tag.Has)]) (fun _ => [(b1, .cells #[.int .u64 a0.Dst, .int .u64 a0.Src, .bool a0.Tag.Has, .int .i64 a0.Tag.Pri, .bool a0.Tag.Dei, .int .i64 a0.Tag.Vid, .int .i64 a0.Type_, .string a0.Body] 29 (0, 0))]) (fun _ => [b1]) (fun _ => by kernel_rfl) (fun _ => ?_)
    refine WP.keep [false] (by kernel_rfl : _ = []) ?_
    refine WP.cond a0.Tag.Has rfl rfl (fun c2 => ?_) (fun c2 => ?_)
    · replace hM := cond_t hM c2
      refine WP.run [] [2, 3] (fun _ => [(2, .int .i64 0), (3, .int .i64 (i64 ((i64 (14 + (a0.Body.size : Int))) + 4)))]) (fun _ => []) (fun _ => []) (fun _ => by kernel_rfl) (fun _ => ?_)
      exact WP.sub [2, 3] (by kernel_rfl) (WP.pick [] (by kernel_rfl) (by kernel_rfl) (K1 (i64 ((i64 (14 + (a0.Body.size : Int))) + 4)) hM))
    · replace hM := cond_f hM c2
      refine WP.skip ?_
      exact WP.sub [2, 3] (by kernel_rfl) (WP.pick [] (by kernel_rfl) (by kernel_rfl) (K1 (i64 (14 + (a0.Body.size : Int))) hM))

end Go.Proofs.YtbodofjnfmjbpaaGreatDoor

namespace Go.Proofs.YtbodofjnfmjbpaaGreatDoor
open Go Eng
set_option linter.unusedVariables false
set_option linter.unusedSimpArgs false

/-! ### gangway/ether.Check: function 35 -/
def ether_Check.k1 (a0 : api_Frame) (x7 : Bool) : Option (Int) :=
  bif x7 then
    some 41
  else
    bif ((a0.Type_ == 0) && (decide ((a0.Body.size : Int) > 1500))) then
      some 40
    else
      (ether_size.f a0).bind fun r10 =>
      bif decide (r10 > 1600) then
        some 41
      else
        some 0

def ether_Check.k2 (a0 : api_Frame) (x5 : Bool) : Option (Int) :=
  bif x5 then
    ether_Check.k1 a0 true
  else
    ether_Check.k1 a0 ((a0.Type_ != 0) && (!(((decide (a0.Type_ ≥ 1536)) && (decide (a0.Type_ ≤ 65535))) && (a0.Type_ != 33024))))

def ether_Check.f (a0 : api_Frame) : Option (Int) :=
  bif ((decide (a0.Dst ≥ 281474976710656)) || (decide (a0.Src ≥ 281474976710656))) then
    ether_Check.k2 a0 true
  else
    (ether_tag.f a0.Tag).bind fun r3 =>
    ether_Check.k2 a0 (!r3)

set_option maxRecDepth 100000 in
theorem ether_Check_calls (a0 : api_Frame) (r : Int) (h : ether_Check.f a0 = some r) : Pure Tryz.prog Glob 35 #[.agg #[.int .u64 a0.Dst, .int .u64 a0.Src, .bool a0.Tag.Has, .int .i64 a0.Tag.Pri, .bool a0.Tag.Dei, .int .i64 a0.Tag.Vid, .int .i64 a0.Type_, .string a0.Body]] (.int .i64 r) := by
  intro w Z hS
  refine calls_of (args := [.agg #[.int .u64 a0.Dst, .int .u64 a0.Src, .bool a0.Tag.Has, .int .i64 a0.Tag.Pri, .bool a0.Tag.Dei, .int .i64 a0.Tag.Vid, .int .i64 a0.Type_, .string a0.Body]]) (L := [(0, .agg #[.int .u64 a0.Dst, .int .u64 a0.Src, .bool a0.Tag.Has, .int .i64 a0.Tag.Pri, .bool a0.Tag.Dei, .int .i64 a0.Tag.Vid, .int .i64 a0.Type_, .string a0.Body])]) (N := 55) (S := Sat w Z [] [] Glob) Tryz.func35 rfl rfl (Nat.le_of_ble_eq_true rfl) rfl hS ?_
  have hM := h
  clear h hS
  unfold ether_Check.f at hM
  refine WP.seq ?_
  refine WP.run [] [1, 2] (fun b1 => [(1, .pointer (some ⟨b1, 0, none⟩)), (2, .int .i64 0)]) (fun b1 => [(b1, .cells #[.int .u64 a0.Dst, .int .u64 a0.Src, .bool a0.Tag.Has, .int .i64 a0.Tag.Pri, .bool a0.Tag.Dei, .int .i64 a0.Tag.Vid, .int .i64 a0.Type_, .string a0.Body] 29 (0, 0))]) (fun b1 => []) (fun b1 => by kernel_rfl) (fun b1 => ?_)
  refine WP.seq ?_
  refine WP.region ?_
  refine WL.run 4 [0] [1, 2, 7] (fun _ => [(1, .pointer (some ⟨b1, 0, none⟩)), (2, .int .i64 0), (7, .bool (decide (a0.Type_ ≥ 1536)))]) (fun _ => [(b1, .cells #[.int .u64 a0.Dst, .int .u64 a0.Src, .bool a0.Tag.Has, .int .i64 a0.Tag.Pri, .bool a0.Tag.Dei, .int .i64 a0.Tag.Vid, .int .i64 a0.Type_, .string a0.Body] 29 (0, 0))]) (fun _ => [b1]) (fun _ => by kernel_rfl) (fun _ => ?_)
  refine WL.sub [1, 2, 7] (L' := [(1, .pointer (some ⟨b1, 0, none⟩)), (2, .int .i64 0), (7, .bool (decide (a0.Type_ ≥ 1536)))]) (by kernel_rfl) ?_
  refine WL.both (fun b' => [(1, .pointer (some ⟨b1, 0, none⟩)), (2, .int .i64 0), (7, .bool b')]) (decide (a0.Type_ ≥ 1536)) 4 [0] [] [1, 2, 11] (fun b' => [(1, .pointer (some ⟨b1, 0, none⟩)), (2, .int .i64 0), (11, .bool (b' && (decide (a0.Type_ ≤ 65535))))]) [b1] [] (fun _ => by kernel_rfl) (fun _ => by kernel_rfl) ?_
  refine WL.run 1 [] [1, 2, 12] (fun _ => [(1, .pointer (some ⟨b1, 0, none⟩)), (2, .int .i64 0), (12, .bool ((decide (a0.Type_ ≥ 1536)) && (decide (a0.Type_ ≤ 65535))))]) (fun _ => [(b1, .cells #[.int .u64 a0.Dst, .int .u64 a0.Src, .bool a0.Tag.Has, .int .i64 a0.Tag.Pri, .bool a0.Tag.Dei, .int .i64 a0.Tag.Vid, .int .i64 a0.Type_, .string a0.Body] 29 (0, 0))]) (fun _ => []) (fun _ => by kernel_rfl) (fun _ => ?_)
  refine WL.sub [1, 2, 12] (L' := [(1, .pointer (some ⟨b1, 0, none⟩)), (2, .int .i64 0), (12, .bool ((decide (a0.Type_ ≥ 1536)) && (decide (a0.Type_ ≤ 65535))))]) (by kernel_rfl) ?_
  refine WL.both (fun b' => [(1, .pointer (some ⟨b1, 0, none⟩)), (2, .int .i64 0), (12, .bool b')]) ((decide (a0.Type_ ≥ 1536)) && (decide (a0.Type_ ≤ 65535))) 4 [0] [] [1, 2, 16] (fun b' => [(1, .pointer (some ⟨b1, 0, none⟩)), (2, .int .i64 0), (16, .bool (b' && (a0.Type_ != 33024)))]) [b1] [] (fun _ => by kernel_rfl) (fun _ => by kernel_rfl) ?_
  refine WL.run 1 [] [1, 2, 3] (fun _ => [(1, .pointer (some ⟨b1, 0, none⟩)), (2, .int .i64 0), (3, .bool (((decide (a0.Type_ ≥ 1536)) && (decide (a0.Type_ ≤ 65535))) && (a0.Type_ != 33024)))]) (fun _ => [(b1, .cells #[.int .u64 a0.Dst, .int .u64 a0.Src, .bool a0.Tag.Has, .int .i64 a0.Tag.Pri, .bool a0.Tag.Dei, .int .i64 a0.Tag.Vid, .int .i64 a0.Type_, .string a0.Body] 29 (0, 0))]) (fun _ => []) (fun _ => by kernel_rfl) (fun _ => ?_)
  refine WP.done ?_
  refine WP.seq ?_
  refine WP.block ?_
  refine WP.seq ?_
  refine WP.region ?_
  refine WL.run 4 [0] [1, 2, 3, 21] (fun _ => [(1, .pointer (some ⟨b1, 0, none⟩)), (2, .int .i64 0), (3, .bool (((decide (a0.Type_ ≥ 1536)) && (decide (a0.Type_ ≤ 65535))) && (a0.Type_ != 33024))), (21, .bool (decide (a0.Dst ≥ 281474976710656)))]) (fun _ => [(b1, .cells #[.int .u64 a0.Dst, .int .u64 a0.Src, .bool a0.Tag.Has, .int .i64 a0.Tag.Pri, .bool a0.Tag.Dei, .int .i64 a0.Tag.Vid, .int .i64 a0.Type_, .string a0.Body] 29 (0, 0))]) (fun _ => [b1]) (fun _ => by kernel_rfl) (fun _ => ?_)
  refine WL.sub [1, 2, 3, 21] (L' := [(1, .pointer (some ⟨b1, 0, none⟩)), (2, .int .i64 0), (3, .bool (((decide (a0.Type_ ≥ 1536)) && (decide (a0.Type_ ≤ 65535))) && (a0.Type_ != 33024))), (21, .bool (decide (a0.Dst ≥ 281474976710656)))]) (by kernel_rfl) ?_
  refine WL.both (fun b' => [(1, .pointer (some ⟨b1, 0, none⟩)), (2, .int .i64 0), (3, .bool (((decide (a0.Type_ ≥ 1536)) && (decide (a0.Type_ ≤ 65535))) && (a0.Type_ != 33024))), (21, .bool b')]) (decide (a0.Dst ≥ 281474976710656)) 4 [] [0] [1, 2, 3, 25] (fun b' => [(1, .pointer (some ⟨b1, 0, none⟩)), (2, .int .i64 0), (3, .bool (((decide (a0.Type_ ≥ 1536)) && (decide (a0.Type_ ≤ 65535))) && (a0.Type_ != 33024))), (25, .bool (b' || (decide (a0.Src ≥ 281474976710656))))]) [] [b1] (fun _ => by kernel_rfl) (fun _ => by kernel_rfl) ?_
  refine WL.run 1 [] [1, 2, 3, 26] (fun _ => [(1, .pointer (some ⟨b1, 0, none⟩)), (2, .int .i64 0), (3, .bool (((decide (a0.Type_ ≥ 1536)) && (decide (a0.Type_ ≤ 65535))) && (a0.Type_ != 33024))), (26, .bool ((decide (a0.Dst ≥ 281474976710656)) || (decide (a0.Src ≥ 281474976710656))))]) (fun _ => [(b1, .cells #[.int .u64 a0.Dst, .int .u64 a0.Src, .bool a0.Tag.Has, .int .i64 a0.Tag.Pri, .bool a0.Tag.Dei, .int .i64 a0.Tag.Vid, .int .i64 a0.Type_, .string a0.Body] 29 (0, 0))]) (fun _ => []) (fun _ => by kernel_rfl) (fun _ => ?_)
  refine WL.sub [1, 2, 3, 26] (L' := [(1, .pointer (some ⟨b1, 0, none⟩)), (2, .int .i64 0), (3, .bool (((decide (a0.Type_ ≥ 1536)) && (decide (a0.Type_ ≤ 65535))) && (a0.Type_ != 33024))), (26, .bool ((decide (a0.Dst ≥ 281474976710656)) || (decide (a0.Src ≥ 281474976710656))))]) (by kernel_rfl) ?_
  refine WL.join (σ := Bool) 5 (fun st => ether_Check.k2 a0 st = some r) (fun st => [(1, .pointer (some ⟨b1, 0, none⟩)), (2, .int .i64 0), (3, .bool (((decide (a0.Type_ ≥ 1536)) && (decide (a0.Type_ ≤ 65535))) && (a0.Type_ != 33024))), (31, .bool st)]) (fun st => Sat w Z [(b1, .cells #[.int .u64 a0.Dst, .int .u64 a0.Src, .bool a0.Tag.Has, .int .i64 a0.Tag.Pri, .bool a0.Tag.Dei, .int .i64 a0.Tag.Vid, .int .i64 a0.Type_, .string a0.Body] 29 (0, 0))] [] Glob) (fun st hM => ?_) (fun K2 => ?_)
  ·
    obtain ⟨x5, rfl⟩ : ∃ y, y = st := ⟨st, rfl⟩
    replace hM : ether_Check.k2 a0 x5 = some r := hM
    unfold ether_Check.k2 at hM
    show WL _ _ _ _ _ [(1, .pointer (some ⟨b1, 0, none⟩)), (2, .int .i64 0), (3, .bool (((decide (a0.Type_ ≥ 1536)) && (decide (a0.Type_ ≤ 65535))) && (a0.Type_ != 33024))), (31, .bool x5)] (Sat w Z [(b1, .cells #[.int .u64 a0.Dst, .int .u64 a0.Src, .bool a0.Tag.Has, .int .i64 a0.Tag.Pri, .bool a0.Tag.Dei, .int .i64 a0.Tag.Vid, .int .i64 a0.Type_, .string a0.Body] 29 (0, 0))] [] Glob)
    refine WL.run 1 [] [1, 2, 3, 32] (fun _ => [(1, .pointer (some ⟨b1, 0, none⟩)), (2, .int .i64 0), (3, .bool (((decide (a0.Type_ ≥ 1536)) && (decide (a0.Type_ ≤ 65535))) && (a0.Type_ != 33024))), (32, .bool x5)]) (fun _ => [(b1, .cells #[.int .u64 a0.Dst, .int .u64 a0.Src, .bool a0.Tag.Has, .int .i64 a0.Tag.Pri, .bool a0.Tag.Dei, .int .i64 a0.Tag.Vid, .int .i64 a0.Type_, .string a0.Body] 29 (0, 0))]) (fun _ => []) (fun _ => by kernel_rfl) (fun _ => ?_)
    refine WL.sub [1, 2, 3, 32] (L' := [(1, .pointer (some ⟨b1, 0, none⟩)), (2, .int .i64 0), (3, .bool (((decide (a0.Type_ ≥ 1536)) && (decide (a0.Type_ ≤ 65535))) && (a0.Type_ != 33024))), (32, .bool x5)]) (by kernel_rfl) ?_
    refine WL.join (σ := Bool) 8 (fun st => ether_Check.k1 a0 st = some r) (fun st => [(1, .pointer (some ⟨b1, 0, none⟩)), (2, .int .i64 0), (40, .bool st)]) (fun st => Sat w Z [(b1, .cells #[.int .u64 a0.Dst, .int .u64 a0.Src, .bool a0.Tag.Has, .int .i64 a0.Tag.Pri, .bool a0.Tag.Dei, .int .i64 a0.Tag.Vid, .int .i64 a0.Type_, .string a0.Body] 29 (0, 0))] [] Glob) (fun st hM => ?_) (fun K1 => ?_)
    ·
      obtain ⟨x7, rfl⟩ : ∃ y, y = st := ⟨st, rfl⟩
      replace hM : ether_Check.k1 a0 x7 = some r := hM
      unfold ether_Check.k1 at hM
      show WL _ _ _ _ _ [(1, .pointer (some ⟨b1, 0, none⟩)), (2, .int .i64 0), (40, .bool x7)] (Sat w Z [(b1, .cells #[.int .u64 a0.Dst, .int .u64 a0.Src, .bool a0.Tag.Has, .int .i64 a0.Tag.Pri, .bool a0.Tag.Dei, .int .i64 a0.Tag.Vid, .int .i64 a0.Type_, .string a0.Body] 29 (0, 0))] [] Glob)
      refine WL.run 1 [] [1, 2, 17] (fun _ => [(1, .pointer (some ⟨b1, 0, none⟩)), (2, .int .i64 0), (17, .bool x7)]) (fun _ => [(b1, .cells #[.int .u64 a0.Dst, .int .u64 a0.Src, .bool a0.Tag.Has, .int .i64 a0.Tag.Pri, .bool a0.Tag.Dei, .int .i64 a0.Tag.Vid, .int .i64 a0.Type_, .string a0.Body] 29 (0, 0))]) (fun _ => []) (fun _ => by kernel_rfl) (fun _ => ?_)
      refine WP.done ?_
      refine WP.cond x7 rfl rfl (fun c8 => ?_) (fun c8 => ?_)
      · replace hM := cond_t hM c8
        refine WP.seq ?_
        refine WP.run [] [2] (fun _ => [(2, .int .i64 41)]) (fun _ => [(b1, .cells #[.int .u64 a0.Dst, .int .u64 a0.Src, .bool a0.Tag.Has, .int .i64 a0.Tag.Pri, .bool a0.Tag.Dei, .int .i64 a0.Tag.Vid, .int .i64 a0.Type_, .string a0.Body] 29 (0, 0))]) (fun _ => []) (fun _ => by kernel_rfl) (fun _ => ?_)
        refine WP.keep [false] (by kernel_rfl : _ = []) ?_
        obtain rfl := Option.some.inj hM
        exact WP.ret [] [] (.int .i64 41) (by kernel_rfl) (fun w' hw => ⟨rfl, hw.pick [] rfl⟩)
      · replace hM := cond_f hM c8
        refine WP.seq ?_
        refine WP.region ?_
        refine WL.run 4 [0] [1, 2, 45] (fun _ => [(1, .pointer (some ⟨b1, 0, none⟩)), (2, .int .i64 0), (45, .bool (a0.Type_ == 0))]) (fun _ => [(b1, .cells #[.int .u64 a0.Dst, .int .u64 a0.Src, .bool a0.Tag.Has, .int .i64 a0.Tag.Pri, .bool a0.Tag.Dei, .int .i64 a0.Tag.Vid, .int .i64 a0.Type_, .string a0.Body] 29 (0, 0))]) (fun _ => [b1]) (fun _ => by kernel_rfl) (fun _ => ?_)
        refine WL.sub [1, 2, 45] (L' := [(1, .pointer (some ⟨b1, 0, none⟩)), (2, .int .i64 0), (45, .bool (a0.Type_ == 0))]) (by kernel_rfl) ?_
        refine WL.both (fun b' => [(1, .pointer (some ⟨b1, 0, none⟩)), (2, .int .i64 0), (45, .bool b')]) (a0.Type_ == 0) 5 [0] [] [1, 2, 50] (fun b' => [(1, .pointer (some ⟨b1, 0, none⟩)), (2, .int .i64 0), (50, .bool (b' && (decide ((a0.Body.size : Int) > 1500))))]) [b1] [] (fun _ => by kernel_rfl) (fun _ => by kernel_rfl) ?_
        refine WL.run 1 [] [1, 2, 41] (fun _ => [(1, .pointer (some ⟨b1, 0, none⟩)), (2, .int .i64 0), (41, .bool ((a0.Type_ == 0) && (decide ((a0.Body.size : Int) > 1500))))]) (fun _ => [(b1, .cells #[.int .u64 a0.Dst, .int .u64 a0.Src, .bool a0.Tag.Has, .int .i64 a0.Tag.Pri, .bool a0.Tag.Dei, .int .i64 a0.Tag.Vid, .int .i64 a0.Type_, .string a0.Body] 29 (0, 0))]) (fun _ => []) (fun _ => by kernel_rfl) (fun _ => ?_)
        refine WP.done ?_
        refine WP.cond ((a0.Type_ == 0) && (decide ((a0.Body.size : Int) > 1500))) rfl rfl (fun c9 => ?_) (fun c9 => ?_)
        · replace hM := cond_t hM c9
          refine WP.seq ?_
          refine WP.run [] [2] (fun _ => [(2, .int .i64 40)]) (fun _ => [(b1, .cells #[.int .u64 a0.Dst, .int .u64 a0.Src, .bool a0.Tag.Has, .int .i64 a0.Tag.Pri, .bool a0.Tag.Dei, .int .i64 a0.Tag.Vid, .int .i64 a0.Type_, .string a0.Body] 29 (0, 0))]) (fun _ => []) (fun _ => by kernel_rfl) (fun _ => ?_)
          refine WP.keep [false] (by kernel_rfl : _ = []) ?_
          obtain rfl := Option.some.inj hM
          exact WP.ret [] [] (.int .i64 40) (by kernel_rfl) (fun w' hw => ⟨rfl, hw.pick [] rfl⟩)
        · replace hM := cond_f hM c9
          refine WP.seq ?_
          refine WP.region ?_
          refine WL.run 1 [0, 0, 0, 0, 0, 0, 0, 0] [2, 52] (fun _ => [(2, .int .i64 0), (52, .agg #[.int .u64 a0.Dst, .int .u64 a0.Src, .bool a0.Tag.Has, .int .i64 a0.Tag.Pri, .bool a0.Tag.Dei, .int .i64 a0.Tag.Vid, .int .i64 a0.Type_, .string a0.Body])]) (fun _ => [(b1, .cells #[.int .u64 a0.Dst, .int .u64 a0.Src, .bool a0.Tag.Has, .int .i64 a0.Tag.Pri, .bool a0.Tag.Dei, .int .i64 a0.Tag.Vid, .int .i64 a0.Type_, .string a0.Body] 29 (0, 0))]) (fun _ => [b1, b1, b1, b1, b1, b1, b1, b1]) (fun _ => by kernel_rfl) (fun _ => ?_)
          obtain ⟨r10, h11, hM⟩ := bind_some hM
          refine WL.callP [] [] (ether_size_calls a0 _ h11) (fun _ h => h) (by kernel_rfl) (by kernel_rfl) rfl ?_
          refine WL.run 2 [] [2, 51] (fun _ => [(2, .int .i64 0), (51, .bool (decide (r10 > 1600)))]) (fun _ => [(b1, .cells #[.int .u64 a0.Dst, .int .u64 a0.Src, .bool a0.Tag.Has, .int .i64 a0.Tag.Pri, .bool a0.Tag.Dei, .int .i64 a0.Tag.Vid, .int .i64 a0.Type_, .string a0.Body] 29 (0, 0))]) (fun _ => []) (fun _ => by kernel_rfl) (fun _ => ?_)
          refine WP.done ?_
          refine WP.keep [false] (by kernel_rfl : _ = []) ?_
          refine WP.cond (decide (r10 > 1600)) rfl rfl (fun c12 => ?_) (fun c12 => ?_)
          · replace hM := cond_t hM c12
            refine WP.seq ?_
            refine WP.run [] [2] (fun _ => [(2, .int .i64 41)]) (fun _ => []) (fun _ => []) (fun _ => by kernel_rfl) (fun _ => ?_)
            obtain rfl := Option.some.inj hM
            exact WP.ret [] [] (.int .i64 41) (by kernel_rfl) (fun w' hw => ⟨rfl, hw.pick [] rfl⟩)
          · replace hM := cond_f hM c12
            refine WP.skip ?_
            refine WP.leave ?_
            refine WP.seq ?_
            refine WP.run [] [2] (fun _ => [(2, .int .i64 0)]) (fun _ => []) (fun _ => []) (fun _ => by kernel_rfl) (fun _ => ?_)
            obtain rfl := Option.some.inj hM
            exact WP.ret [] [] (.int .i64 0) (by kernel_rfl) (fun w' hw => ⟨rfl, hw.pick [] rfl⟩)
    ·
      refine WL.split (fun b' => [(1, .pointer (some ⟨b1, 0, none⟩)), (2, .int .i64 0), (3, .bool (((decide (a0.Type_ ≥ 1536)) && (decide (a0.Type_ ≤ 65535))) && (a0.Type_ != 33024))), (32, .bool b')]) x5 (fun c6 => ?_) (fun c6 => ?_)
      · replace hM := cond_t hM c6
        refine WL.run 8 [] [1, 2, 40] (fun _ => [(1, .pointer (some ⟨b1, 0, none⟩)), (2, .int .i64 0), (40, .bool true)]) (fun _ => [(b1, .cells #[.int .u64 a0.Dst, .int .u64 a0.Src, .bool a0.Tag.Has, .int .i64 a0.Tag.Pri, .bool a0.Tag.Dei, .int .i64 a0.Tag.Vid, .int .i64 a0.Type_, .string a0.Body] 29 (0, 0))]) (fun _ => []) (fun _ => by kernel_rfl) (fun _ => ?_)
        exact WL.sub [1, 2, 40] (by kernel_rfl) (WL.pick [0] (by kernel_rfl) (by kernel_rfl) (K1 true hM))
      · replace hM := cond_f hM c6
        refine WL.run 4 [0] [1, 2, 3, 32, 36] (fun _ => [(1, .pointer (some ⟨b1, 0, none⟩)), (2, .int .i64 0), (3, .bool (((decide (a0.Type_ ≥ 1536)) && (decide (a0.Type_ ≤ 65535))) && (a0.Type_ != 33024))), (32, .bool false), (36, .bool (a0.Type_ != 0))]) (fun _ => [(b1, .cells #[.int .u64 a0.Dst, .int .u64 a0.Src, .bool a0.Tag.Has, .int .i64 a0.Tag.Pri, .bool a0.Tag.Dei, .int .i64 a0.Tag.Vid, .int .i64 a0.Type_, .string a0.Body] 29 (0, 0))]) (fun _ => [b1]) (fun _ => by kernel_rfl) (fun _ => ?_)
        refine WL.sub [1, 2, 3, 32, 36] (L' := [(1, .pointer (some ⟨b1, 0, none⟩)), (2, .int .i64 0), (3, .bool (((decide (a0.Type_ ≥ 1536)) && (decide (a0.Type_ ≤ 65535))) && (a0.Type_ != 33024))), (32, .bool false), (36, .bool (a0.Type_ != 0))]) (by kernel_rfl) ?_
        refine WL.both (fun b' => [(1, .pointer (some ⟨b1, 0, none⟩)), (2, .int .i64 0), (3, .bool (((decide (a0.Type_ ≥ 1536)) && (decide (a0.Type_ ≤ 65535))) && (a0.Type_ != 33024))), (32, .bool false), (36, .bool b')]) (a0.Type_ != 0) 3 [] [] [1, 2, 32, 39] (fun b' => [(1, .pointer (some ⟨b1, 0, none⟩)), (2, .int .i64 0), (32, .bool false), (39, .bool (b' && (!(((decide (a0.Type_ ≥ 1536)) && (decide (a0.Type_ ≤ 65535))) && (a0.Type_ != 33024)))))]) [] [] (fun _ => by kernel_rfl) (fun _ => by kernel_rfl) ?_
        refine WL.run 1 [] [1, 2, 40] (fun _ => [(1, .pointer (some ⟨b1, 0, none⟩)), (2, .int .i64 0), (40, .bool ((a0.Type_ != 0) && (!(((decide (a0.Type_ ≥ 1536)) && (decide (a0.Type_ ≤ 65535))) && (a0.Type_ != 33024)))))]) (fun _ => [(b1, .cells #[.int .u64 a0.Dst, .int .u64 a0.Src, .bool a0.Tag.Has, .int .i64 a0.Tag.Pri, .bool a0.Tag.Dei, .int .i64 a0.Tag.Vid, .int .i64 a0.Type_, .string a0.Body] 29 (0, 0))]) (fun _ => []) (fun _ => by kernel_rfl) (fun _ => ?_)
        exact WL.sub [1, 2, 40] (by kernel_rfl) (WL.pick [0] (by kernel_rfl) (by kernel_rfl) (K1 ((a0.Type_ != 0) && (!(((decide (a0.Type_ ≥ 1536)) && (decide (a0.Type_ ≤ 65535))) && (a0.Type_ != 33024)))) hM))
  ·
    refine WL.split (fun b' => [(1, .pointer (some ⟨b1, 0, none⟩)), (2, .int .i64 0), (3, .bool (((decide (a0.Type_ ≥ 1536)) && (decide (a0.Type_ ≤ 65535))) && (a0.Type_ != 33024))), (26, .bool b')]) ((decide (a0.Dst ≥ 281474976710656)) || (decide (a0.Src ≥ 281474976710656))) (fun c2 => ?_) (fun c2 => ?_)
    · replace hM := cond_t hM c2
      refine WL.run 5 [] [1, 2, 3, 31] (fun _ => [(1, .pointer (some ⟨b1, 0, none⟩)), (2, .int .i64 0), (3, .bool (((decide (a0.Type_ ≥ 1536)) && (decide (a0.Type_ ≤ 65535))) && (a0.Type_ != 33024))), (31, .bool true)]) (fun _ => [(b1, .cells #[.int .u64 a0.Dst, .int .u64 a0.Src, .bool a0.Tag.Has, .int .i64 a0.Tag.Pri, .bool a0.Tag.Dei, .int .i64 a0.Tag.Vid, .int .i64 a0.Type_, .string a0.Body] 29 (0, 0))]) (fun _ => []) (fun _ => by kernel_rfl) (fun _ => ?_)
      exact WL.sub [1, 2, 3, 31] (by kernel_rfl) (WL.pick [0] (by kernel_rfl) (by kernel_rfl) (K2 true hM))
    · replace hM := cond_f hM c2
      refine WL.run 2 [0, 0, 0, 0] [1, 2, 3, 26, 28] (fun _ => [(1, .pointer (some ⟨b1, 0, none⟩)), (2, .int .i64 0), (3, .bool (((decide (a0.Type_ ≥ 1536)) && (decide (a0.Type_ ≤ 65535))) && (a0.Type_ != 33024))), (26, .bool false), (28, .agg #[.bool a0.Tag.Has, .int .i64 a0.Tag.Pri, .bool a0.Tag.Dei, .int .i64 a0.Tag.Vid])]) (fun _ => [(b1, .cells #[.int .u64 a0.Dst, .int .u64 a0.Src, .bool a0.Tag.Has, .int .i64 a0.Tag.Pri, .bool a0.Tag.Dei, .int .i64 a0.Tag.Vid, .int .i64 a0.Type_, .string a0.Body] 29 (0, 0))]) (fun _ => [b1, b1, b1, b1]) (fun _ => by kernel_rfl) (fun _ => ?_)
      obtain ⟨r3, h4, hM⟩ := bind_some hM
      refine WL.callP [] [] (ether_tag_calls a0.Tag _ h4) (fun _ h => h) (by kernel_rfl) (by kernel_rfl) rfl ?_
      refine WL.run 2 [] [1, 2, 3, 31] (fun _ => [(1, .pointer (some ⟨b1, 0, none⟩)), (2, .int .i64 0), (3, .bool (((decide (a0.Type_ ≥ 1536)) && (decide (a0.Type_ ≤ 65535))) && (a0.Type_ != 33024))), (31, .bool (!r3))]) (fun _ => [(b1, .cells #[.int .u64 a0.Dst, .int .u64 a0.Src, .bool a0.Tag.Has, .int .i64 a0.Tag.Pri, .bool a0.Tag.Dei, .int .i64 a0.Tag.Vid, .int .i64 a0.Type_, .string a0.Body] 29 (0, 0))]) (fun _ => []) (fun _ => by kernel_rfl) (fun _ => ?_)
      exact WL.sub [1, 2, 3, 31] (by kernel_rfl) (WL.pick [0] (by kernel_rfl) (by kernel_rfl) (K2 (!r3) hM))

end Go.Proofs.YtbodofjnfmjbpaaGreatDoor

namespace Go.Proofs.YtbodofjnfmjbpaaGreatDoor
open Go Eng
set_option linter.unusedVariables false
set_option linter.unusedSimpArgs false

/-! ### gangway/ether.put: function 36 -/
def ether_put.f (k : Nat) (a0 : Int) (a1 : Int) : Option (ByteArray) :=
  (octets_Put.f k a0 a1).bind fun (r1, r2) =>
  some r1

set_option maxRecDepth 100000 in
theorem ether_put_calls (k : Nat) (a0 : Int) (a1 : Int) (r : ByteArray) (h : ether_put.f k a0 a1 = some r) : Pure Tryz.prog Glob 36 #[.int .u64 a0, .int .i64 a1] (.string r) := by
  intro w Z hS
  refine calls_of (args := [.int .u64 a0, .int .i64 a1]) (L := [(0, .int .u64 a0), (1, .int .i64 a1)]) (N := 14) (S := Sat w Z [] [] Glob) Tryz.func36 rfl rfl (Nat.le_of_ble_eq_true rfl) rfl hS ?_
  have hM := h
  clear h hS
  unfold ether_put.f at hM
  refine WP.seq ?_
  refine WP.run [] [0, 1, 4] (fun _ => [(0, .int .u64 a0), (1, .int .i64 a1), (4, .string (⟨#[]⟩ : ByteArray))]) (fun _ => []) (fun _ => []) (fun _ => by kernel_rfl) (fun _ => ?_)
  refine WP.seq ?_
  refine WP.region ?_
  refine WL.run 2 [] [4, 8, 9] (fun _ => [(4, .string (⟨#[]⟩ : ByteArray)), (8, .int .u64 a0), (9, .int .i64 a1)]) (fun _ => []) (fun _ => []) (fun _ => by kernel_rfl) (fun _ => ?_)
  obtain ⟨⟨r1, r2⟩, h3, hM⟩ := bind_some hM
  dsimp only at hM
  refine WL.callP [] [] (octets_Put_calls k a0 a1 _ h3) (fun _ h => h) (by kernel_rfl) (by kernel_rfl) rfl ?_
  refine WL.run 5 [] [4, 5] (fun _ => [(4, .string (⟨#[]⟩ : ByteArray)), (5, .string r1)]) (fun _ => []) (fun _ => []) (fun _ => by kernel_rfl) (fun _ => ?_)
  refine WP.done ?_
  refine WP.seq ?_
  refine WP.run [] [4] (fun _ => [(4, .string r1)]) (fun _ => []) (fun _ => []) (fun _ => by kernel_rfl) (fun _ => ?_)
  obtain rfl := Option.some.inj hM
  exact WP.ret [] [] (.string r1) (by kernel_rfl) (fun w' hw => ⟨rfl, hw.pick [] rfl⟩)

end Go.Proofs.YtbodofjnfmjbpaaGreatDoor

namespace Go.Proofs.YtbodofjnfmjbpaaGreatDoor
open Go Eng
set_option linter.unusedVariables false
set_option linter.unusedSimpArgs false

/-! ### gangway/ether.info: function 37 -/
def ether_info.k1 (x3 : Int) : Option (Int) :=
  some (u64 x3)

def ether_info.f (a0 : api_Tag) : Option (Int) :=
  bif a0.Dei then
    ether_info.k1 (bOr .i64 (bOr .i64 (i64 (a0.Pri * 8192)) a0.Vid) 4096)
  else
    ether_info.k1 (bOr .i64 (i64 (a0.Pri * 8192)) a0.Vid)

set_option maxRecDepth 100000 in
theorem ether_info_calls (a0 : api_Tag) (r : Int) (h : ether_info.f a0 = some r) : Pure Tryz.prog Glob 37 #[.agg #[.bool a0.Has, .int .i64 a0.Pri, .bool a0.Dei, .int .i64 a0.Vid]] (.int .u64 r) := by
  intro w Z hS
  refine calls_of (args := [.agg #[.bool a0.Has, .int .i64 a0.Pri, .bool a0.Dei, .int .i64 a0.Vid]]) (L := [(0, .agg #[.bool a0.Has, .int .i64 a0.Pri, .bool a0.Dei, .int .i64 a0.Vid])]) (N := 16) (S := Sat w Z [] [] Glob) Tryz.func37 rfl rfl (Nat.le_of_ble_eq_true rfl) rfl hS ?_
  have hM := h
  clear h hS
  unfold ether_info.f at hM
  refine WP.seq ?_
  refine WP.run [] [1, 2] (fun b1 => [(1, .pointer (some ⟨b1, 0, none⟩)), (2, .int .u64 0)]) (fun b1 => [(b1, .cells #[.bool a0.Has, .int .i64 a0.Pri, .bool a0.Dei, .int .i64 a0.Vid] 27 (0, 0))]) (fun b1 => []) (fun b1 => by kernel_rfl) (fun b1 => ?_)
  refine WP.seq ?_
  refine WP.run [0, 0] [1, 2, 3] (fun _ => [(1, .pointer (some ⟨b1, 0, none⟩)), (2, .int .u64 0), (3, .int .i64 (bOr .i64 (i64 (a0.Pri * 8192)) a0.Vid))]) (fun _ => [(b1, .cells #[.bool a0.Has, .int .i64 a0.Pri, .bool a0.Dei, .int .i64 a0.Vid] 27 (0, 0))]) (fun _ => [b1, b1]) (fun _ => by kernel_rfl) (fun _ => ?_)
  refine WP.seqJoin (σ := Int) (fun st => ether_info.k1 st = some r) (fun st => [(2, .int .u64 0), (3, .int .i64 st)]) (fun st => Sat w Z [] [] Glob) (fun st hM => ?_) (fun K1 => ?_)
  ·
    obtain ⟨x3, rfl⟩ : ∃ y, y = st := ⟨st, rfl⟩
    replace hM : ether_info.k1 x3 = some r := hM
    unfold ether_info.k1 at hM
    show WP _ _ _ _ _ [(2, .int .u64 0), (3, .int .i64 x3)] (Sat w Z [] [] Glob)
    refine WP.seq ?_
    refine WP.run [] [2] (fun _ => [(2, .int .u64 (u64 x3))]) (fun _ => []) (fun _ => []) (fun _ => by kernel_rfl) (fun _ => ?_)
    obtain rfl := Option.some.inj hM
    exact WP.ret [] [] (.int .u64 (u64 x3)) (by kernel_rfl) (fun w' hw => ⟨rfl, hw.pick [] rfl⟩)
  ·
    refine WP.seq ?_
    refine WP.run [0] [2, 3, 11] (fun _ => [(2, .int .u64 0), (3, .int .i64 (bOr .i64 (i64 (a0.Pri * 8192)) a0.Vid)), (11, .bool a0.Dei)]) (fun _ => [(b1, .cells #[.bool a0.Has, .int .i64 a0.Pri, .bool a0.Dei, .int .i64 a0.Vid] 27 (0, 0))]) (fun _ => [b1]) (fun _ => by kernel_rfl) (fun _ => ?_)
    refine WP.keep [false] (by kernel_rfl : _ = []) ?_
    refine WP.cond a0.Dei rfl rfl (fun c2 => ?_) (fun c2 => ?_)
    · replace hM := cond_t hM c2
      refine WP.run [] [2, 3] (fun _ => [(2, .int .u64 0), (3, .int .i64 (bOr .i64 (bOr .i64 (i64 (a0.Pri * 8192)) a0.Vid) 4096))]) (fun _ => []) (fun _ => []) (fun _ => by kernel_rfl) (fun _ => ?_)
      exact WP.sub [2, 3] (by kernel_rfl) (WP.pick [] (by kernel_rfl) (by kernel_rfl) (K1 (bOr .i64 (bOr .i64 (i64 (a0.Pri * 8192)) a0.Vid) 4096) hM))
    · replace hM := cond_f hM c2
      refine WP.skip ?_
      exact WP.sub [2, 3] (by kernel_rfl) (WP.pick [] (by kernel_rfl) (by kernel_rfl) (K1 (bOr .i64 (i64 (a0.Pri * 8192)) a0.Vid) hM))

end Go.Proofs.YtbodofjnfmjbpaaGreatDoor

namespace Go.Proofs.YtbodofjnfmjbpaaGreatDoor
open Go Eng
set_option linter.unusedVariables false
set_option linter.unusedSimpArgs false

/-! ### gangway/ether.Build: function 16 -/
def ether_Build.k1 (k : Nat) (x22 : ByteArray) (a0 : api_Frame) (x24 : Int) : Option (ByteArray × Int) :=
  (ether_put.f k (u64 x24) 2).bind fun r25 =>
  (catS x22 r25).bind fun t27 =>
  (catS t27 a0.Body).bind fun t29 =>
  some (t29, 0)

def ether_Build.k2 (a0 : api_Frame) (k : Nat) (x22 : ByteArray) : Option (ByteArray × Int) :=
  bif (a0.Type_ == 0) then
    ether_Build.k1 k x22 a0 (a0.Body.size : Int)
  else
    ether_Build.k1 k x22 a0 a0.Type_

def ether_Build.f (k : Nat) (a0 : api_Frame) : Option (ByteArray × Int) :=
  (ether_Check.f a0).bind fun r2 =>
  bif (r2 != 0) then
    some ((⟨#[]⟩ : ByteArray), r2)
  else
    (ether_put.f k a0.Dst 6).bind fun r5 =>
    (ether_put.f k a0.Src 6).bind fun r7 =>
    (catS r5 r7).bind fun t9 =>
    bif a0.Tag.Has then
      (ether_put.f k 33024 2).bind fun r12 =>
      (ether_info.f a0.Tag).bind fun r14 =>
      (ether_put.f k r14 2).bind fun r16 =>
      (catS r12 r16).bind fun t18 =>
      (catS t9 t18).bind fun t20 =>
      ether_Build.k2 a0 k t20
    else
      ether_Build.k2 a0 k t9

set_option maxRecDepth 100000 in
theorem ether_Build_calls (k : Nat) (a0 : api_Frame) (r : ByteArray × Int) (h : ether_Build.f k a0 = some r) : Pure Tryz.prog Glob 16 #[.agg #[.int .u64 a0.Dst, .int .u64 a0.Src, .bool a0.Tag.Has, .int .i64 a0.Tag.Pri, .bool a0.Tag.Dei, .int .i64 a0.Tag.Vid, .int .i64 a0.Type_, .string a0.Body]] (.tuple #[.string r.1, .int .i64 r.2]) := by
  intro w Z hS
  refine calls_of (args := [.agg #[.int .u64 a0.Dst, .int .u64 a0.Src, .bool a0.Tag.Has, .int .i64 a0.Tag.Pri, .bool a0.Tag.Dei, .int .i64 a0.Tag.Vid, .int .i64 a0.Type_, .string a0.Body]]) (L := [(0, .agg #[.int .u64 a0.Dst, .int .u64 a0.Src, .bool a0.Tag.Has, .int .i64 a0.Tag.Pri, .bool a0.Tag.Dei, .int .i64 a0.Tag.Vid, .int .i64 a0.Type_, .string a0.Body])]) (N := 45) (S := Sat w Z [] [] Glob) Tryz.func16 rfl rfl (Nat.le_of_ble_eq_true rfl) rfl hS ?_
  have hM := h
  clear h hS
  unfold ether_Build.f at hM
  refine WP.seq ?_
  refine WP.run [] [1, 2, 3] (fun b1 => [(1, .pointer (some ⟨b1, 0, none⟩)), (2, .string (⟨#[]⟩ : ByteArray)), (3, .int .i64 0)]) (fun b1 => [(b1, .cells #[.int .u64 a0.Dst, .int .u64 a0.Src, .bool a0.Tag.Has, .int .i64 a0.Tag.Pri, .bool a0.Tag.Dei, .int .i64 a0.Tag.Vid, .int .i64 a0.Type_, .string a0.Body] 29 (0, 0))]) (fun b1 => []) (fun b1 => by kernel_rfl) (fun b1 => ?_)
  refine WP.seq ?_
  refine WP.seq ?_
  refine WP.region ?_
  refine WL.run 1 [0, 0, 0, 0, 0, 0, 0, 0] [1, 2, 3, 7] (fun _ => [(1, .pointer (some ⟨b1, 0, none⟩)), (2, .string (⟨#[]⟩ : ByteArray)), (3, .int .i64 0), (7, .agg #[.int .u64 a0.Dst, .int .u64 a0.Src, .bool a0.Tag.Has, .int .i64 a0.Tag.Pri, .bool a0.Tag.Dei, .int .i64 a0.Tag.Vid, .int .i64 a0.Type_, .string a0.Body])]) (fun _ => [(b1, .cells #[.int .u64 a0.Dst, .int .u64 a0.Src, .bool a0.Tag.Has, .int .i64 a0.Tag.Pri, .bool a0.Tag.Dei, .int .i64 a0.Tag.Vid, .int .i64 a0.Type_, .string a0.Body] 29 (0, 0))]) (fun _ => [b1, b1, b1, b1, b1, b1, b1, b1]) (fun _ => by kernel_rfl) (fun _ => ?_)
  obtain ⟨r2, h3, hM⟩ := bind_some hM
  refine WL.callP [] [] (ether_Check_calls a0 _ h3) (fun _ h => h) (by kernel_rfl) (by kernel_rfl) rfl ?_
  refine WL.run 1 [] [1, 2, 3, 4] (fun _ => [(1, .pointer (some ⟨b1, 0, none⟩)), (2, .string (⟨#[]⟩ : ByteArray)), (3, .int .i64 0), (4, .int .i64 r2)]) (fun _ => [(b1, .cells #[.int .u64 a0.Dst, .int .u64 a0.Src, .bool a0.Tag.Has, .int .i64 a0.Tag.Pri, .bool a0.Tag.Dei, .int .i64 a0.Tag.Vid, .int .i64 a0.Type_, .string a0.Body] 29 (0, 0))]) (fun _ => []) (fun _ => by kernel_rfl) (fun _ => ?_)
  refine WP.done ?_
  refine WP.seq ?_
  refine WP.run [] [1, 2, 3, 4, 10] (fun _ => [(1, .pointer (some ⟨b1, 0, none⟩)), (2, .string (⟨#[]⟩ : ByteArray)), (3, .int .i64 0), (4, .int .i64 r2), (10, .bool (r2 != 0))]) (fun _ => [(b1, .cells #[.int .u64 a0.Dst, .int .u64 a0.Src, .bool a0.Tag.Has, .int .i64 a0.Tag.Pri, .bool a0.Tag.Dei, .int .i64 a0.Tag.Vid, .int .i64 a0.Type_, .string a0.Body] 29 (0, 0))]) (fun _ => []) (fun _ => by kernel_rfl) (fun _ => ?_)
  refine WP.cond (r2 != 0) rfl rfl (fun c4 => ?_) (fun c4 => ?_)
  · replace hM := cond_t hM c4
    refine WP.seq ?_
    refine WP.run [] [1, 2, 3] (fun _ => [(1, .pointer (some ⟨b1, 0, none⟩)), (2, .string (⟨#[]⟩ : ByteArray)), (3, .int .i64 r2)]) (fun _ => [(b1, .cells #[.int .u64 a0.Dst, .int .u64 a0.Src, .bool a0.Tag.Has, .int .i64 a0.Tag.Pri, .bool a0.Tag.Dei, .int .i64 a0.Tag.Vid, .int .i64 a0.Type_, .string a0.Body] 29 (0, 0))]) (fun _ => []) (fun _ => by kernel_rfl) (fun _ => ?_)
    obtain rfl := Option.some.inj hM
    exact WP.ret [] [] (.tuple #[.string (⟨#[]⟩ : ByteArray), .int .i64 r2]) (by kernel_rfl) (fun w' hw => ⟨rfl, hw.pick [] rfl⟩)
  · replace hM := cond_f hM c4
    refine WP.skip ?_
    refine WP.seq ?_
    refine WP.quiet (by kernel_rfl) (by kernel_rfl) ?_
    refine QL.run 2 [0] [1, 2, 3, 13] [b1] [(1, .pointer (some ⟨b1, 0, none⟩)), (2, .string (⟨#[]⟩ : ByteArray)), (3, .int .i64 0), (13, .int .u64 a0.Dst)] (by kernel_rfl) ?_
    obtain ⟨r5, h6, hM⟩ := bind_some hM
    refine QL.callP [] [] (ether_put_calls k a0.Dst 6 _ h6) (fun _ h => h) (by kernel_rfl) (by kernel_rfl) rfl ?_
    refine QL.run 2 [0] [1, 2, 3, 14, 16] [b1] [(1, .pointer (some ⟨b1, 0, none⟩)), (2, .string (⟨#[]⟩ : ByteArray)), (3, .int .i64 0), (14, .string r5), (16, .int .u64 a0.Src)] (by kernel_rfl) ?_
    obtain ⟨r7, h8, hM⟩ := bind_some hM
    refine QL.callP [] [] (ether_put_calls k a0.Src 6 _ h8) (fun _ h => h) (by kernel_rfl) (by kernel_rfl) rfl ?_
    obtain ⟨t9, h10, hM⟩ := bind_some hM
    refine QL.val (fun _ => run_catS (a := r5) (b := r7) (by kernel_rfl) (by kernel_rfl) h10) (by kernel_rfl) (by kernel_rfl) rfl ?_
    refine QL.run 1 [] [1, 2, 3, 5] [] [(1, .pointer (some ⟨b1, 0, none⟩)), (2, .string (⟨#[]⟩ : ByteArray)), (3, .int .i64 0), (5, .string t9)] (by kernel_rfl) ?_
    refine QL.done ?_
    refine WP.seqJoin (σ := ByteArray) (fun st => ether_Build.k2 a0 k st = some r) (fun st => [(1, .pointer (some ⟨b1, 0, none⟩)), (2, .string (⟨#[]⟩ : ByteArray)), (3, .int .i64 0), (5, .string st)]) (fun st => Sat w Z [(b1, .cells #[.int .u64 a0.Dst, .int .u64 a0.Src, .bool a0.Tag.Has, .int .i64 a0.Tag.Pri, .bool a0.Tag.Dei, .int .i64 a0.Tag.Vid, .int .i64 a0.Type_, .string a0.Body] 29 (0, 0))] [] Glob) (fun st hM => ?_) (fun K2 => ?_)
    ·
      obtain ⟨x22, rfl⟩ : ∃ y, y = st := ⟨st, rfl⟩
      replace hM : ether_Build.k2 a0 k x22 = some r := hM
      unfold ether_Build.k2 at hM
      show WP _ _ _ _ _ [(1, .pointer (some ⟨b1, 0, none⟩)), (2, .string (⟨#[]⟩ : ByteArray)), (3, .int .i64 0), (5, .string x22)] (Sat w Z [(b1, .cells #[.int .u64 a0.Dst, .int .u64 a0.Src, .bool a0.Tag.Has, .int .i64 a0.Tag.Pri, .bool a0.Tag.Dei, .int .i64 a0.Tag.Vid, .int .i64 a0.Type_, .string a0.Body] 29 (0, 0))] [] Glob)
      refine WP.seq ?_
      refine WP.run [0] [1, 2, 3, 5, 6] (fun _ => [(1, .pointer (some ⟨b1, 0, none⟩)), (2, .string (⟨#[]⟩ : ByteArray)), (3, .int .i64 0), (5, .string x22), (6, .int .i64 a0.Type_)]) (fun _ => [(b1, .cells #[.int .u64 a0.Dst, .int .u64 a0.Src, .bool a0.Tag.Has, .int .i64 a0.Tag.Pri, .bool a0.Tag.Dei, .int .i64 a0.Tag.Vid, .int .i64 a0.Type_, .string a0.Body] 29 (0, 0))]) (fun _ => [b1]) (fun _ => by kernel_rfl) (fun _ => ?_)
      refine WP.seqJoin (σ := Int) (fun st => ether_Build.k1 k x22 a0 st = some r) (fun st => [(1, .pointer (some ⟨b1, 0, none⟩)), (2, .string (⟨#[]⟩ : ByteArray)), (3, .int .i64 0), (5, .string x22), (6, .int .i64 st)]) (fun st => Sat w Z [(b1, .cells #[.int .u64 a0.Dst, .int .u64 a0.Src, .bool a0.Tag.Has, .int .i64 a0.Tag.Pri, .bool a0.Tag.Dei, .int .i64 a0.Tag.Vid, .int .i64 a0.Type_, .string a0.Body] 29 (0, 0))] [] Glob) (fun st hM => ?_) (fun K1 => ?_)
      ·
        obtain ⟨x24, rfl⟩ : ∃ y, y = st := ⟨st, rfl⟩
        replace hM : ether_Build.k1 k x22 a0 x24 = some r := hM
        unfold ether_Build.k1 at hM
        show WP _ _ _ _ _ [(1, .pointer (some ⟨b1, 0, none⟩)), (2, .string (⟨#[]⟩ : ByteArray)), (3, .int .i64 0), (5, .string x22), (6, .int .i64 x24)] (Sat w Z [(b1, .cells #[.int .u64 a0.Dst, .int .u64 a0.Src, .bool a0.Tag.Has, .int .i64 a0.Tag.Pri, .bool a0.Tag.Dei, .int .i64 a0.Tag.Vid, .int .i64 a0.Type_, .string a0.Body] 29 (0, 0))] [] Glob)
        refine WP.seq ?_
        refine WP.quiet (by kernel_rfl) (by kernel_rfl) ?_
        refine QL.run 3 [] [1, 2, 3, 37, 39] [] [(1, .pointer (some ⟨b1, 0, none⟩)), (2, .string (⟨#[]⟩ : ByteArray)), (3, .int .i64 0), (37, .string x22), (39, .int .u64 (u64 x24))] (by kernel_rfl) ?_
        obtain ⟨r25, h26, hM⟩ := bind_some hM
        refine QL.callP [] [] (ether_put_calls k (u64 x24) 2 _ h26) (fun _ h => h) (by kernel_rfl) (by kernel_rfl) rfl ?_
        obtain ⟨t27, h28, hM⟩ := bind_some hM
        refine QL.val (fun _ => run_catS (a := x22) (b := r25) (by kernel_rfl) (by kernel_rfl) h28) (by kernel_rfl) (by kernel_rfl) rfl ?_
        refine QL.run 2 [0] [2, 3, 41, 43] [b1] [(2, .string (⟨#[]⟩ : ByteArray)), (3, .int .i64 0), (41, .string t27), (43, .string a0.Body)] (by kernel_rfl) ?_
        obtain ⟨t29, h30, hM⟩ := bind_some hM
        refine QL.val (fun _ => run_catS (a := t27) (b := a0.Body) (by kernel_rfl) (by kernel_rfl) h30) (by kernel_rfl) (by kernel_rfl) rfl ?_
        refine QL.run 2 [] [2, 3] [] [(2, .string t29), (3, .int .i64 0)] (by kernel_rfl) ?_
        refine QL.done ?_
        refine WP.keep [false] (by kernel_rfl : _ = []) ?_
        obtain rfl := Option.some.inj hM
        exact WP.ret [] [] (.tuple #[.string t29, .int .i64 0]) (by kernel_rfl) (fun w' hw => ⟨rfl, hw.pick [] rfl⟩)
      ·
        refine WP.seq ?_
        refine WP.run [] [1, 2, 3, 5, 6, 33] (fun _ => [(1, .pointer (some ⟨b1, 0, none⟩)), (2, .string (⟨#[]⟩ : ByteArray)), (3, .int .i64 0), (5, .string x22), (6, .int .i64 a0.Type_), (33, .bool (a0.Type_ == 0))]) (fun _ => [(b1, .cells #[.int .u64 a0.Dst, .int .u64 a0.Src, .bool a0.Tag.Has, .int .i64 a0.Tag.Pri, .bool a0.Tag.Dei, .int .i64 a0.Tag.Vid, .int .i64 a0.Type_, .string a0.Body] 29 (0, 0))]) (fun _ => []) (fun _ => by kernel_rfl) (fun _ => ?_)
        refine WP.cond (a0.Type_ == 0) rfl rfl (fun c23 => ?_) (fun c23 => ?_)
        · replace hM := cond_t hM c23
          refine WP.run [0] [1, 2, 3, 5, 6] (fun _ => [(1, .pointer (some ⟨b1, 0, none⟩)), (2, .string (⟨#[]⟩ : ByteArray)), (3, .int .i64 0), (5, .string x22), (6, .int .i64 (a0.Body.size : Int))]) (fun _ => [(b1, .cells #[.int .u64 a0.Dst, .int .u64 a0.Src, .bool a0.Tag.Has, .int .i64 a0.Tag.Pri, .bool a0.Tag.Dei, .int .i64 a0.Tag.Vid, .int .i64 a0.Type_, .string a0.Body] 29 (0, 0))]) (fun _ => [b1]) (fun _ => by kernel_rfl) (fun _ => ?_)
          exact WP.sub [1, 2, 3, 5, 6] (by kernel_rfl) (WP.pick [0] (by kernel_rfl) (by kernel_rfl) (K1 (a0.Body.size : Int) hM))
        · replace hM := cond_f hM c23
          refine WP.skip ?_
          exact WP.sub [1, 2, 3, 5, 6] (by kernel_rfl) (WP.pick [0] (by kernel_rfl) (by kernel_rfl) (K1 a0.Type_ hM))
    ·
      refine WP.seq ?_
      refine WP.run [0] [1, 2, 3, 5, 21] (fun _ => [(1, .pointer (some ⟨b1, 0, none⟩)), (2, .string (⟨#[]⟩ : ByteArray)), (3, .int .i64 0), (5, .string t9), (21, .bool a0.Tag.Has)]) (fun _ => [(b1, .cells #[.int .u64 a0.Dst, .int .u64 a0.Src, .bool a0.Tag.Has, .int .i64 a0.Tag.Pri, .bool a0.Tag.Dei, .int .i64 a0.Tag.Vid, .int .i64 a0.Type_, .string a0.Body] 29 (0, 0))]) (fun _ => [b1]) (fun _ => by kernel_rfl) (fun _ => ?_)
      refine WP.cond a0.Tag.Has rfl rfl (fun c11 => ?_) (fun c11 => ?_)
      · replace hM := cond_t hM c11
        refine WP.quiet (by kernel_rfl) (by kernel_rfl) ?_
        refine QL.run 1 [] [1, 2, 3, 5, 22] [] [(1, .pointer (some ⟨b1, 0, none⟩)), (2, .string (⟨#[]⟩ : ByteArray)), (3, .int .i64 0), (5, .string t9), (22, .string t9)] (by kernel_rfl) ?_
        obtain ⟨r12, h13, hM⟩ := bind_some hM
        refine QL.callP [] [] (ether_put_calls k 33024 2 _ h13) (fun _ h => h) (by kernel_rfl) (by kernel_rfl) rfl ?_
        refine QL.run 2 [0, 0, 0, 0] [1, 2, 3, 5, 22, 23, 25] [b1, b1, b1, b1] [(1, .pointer (some ⟨b1, 0, none⟩)), (2, .string (⟨#[]⟩ : ByteArray)), (3, .int .i64 0), (5, .string t9), (22, .string t9), (23, .string r12), (25, .agg #[.bool a0.Tag.Has, .int .i64 a0.Tag.Pri, .bool a0.Tag.Dei, .int .i64 a0.Tag.Vid])] (by kernel_rfl) ?_
        obtain ⟨r14, h15, hM⟩ := bind_some hM
        refine QL.callP [] [] (ether_info_calls a0.Tag _ h15) (fun _ h => h) (by kernel_rfl) (by kernel_rfl) rfl ?_
        obtain ⟨r16, h17, hM⟩ := bind_some hM
        refine QL.callP [] [] (ether_put_calls k r14 2 _ h17) (fun _ h => h) (by kernel_rfl) (by kernel_rfl) rfl ?_
        obtain ⟨t18, h19, hM⟩ := bind_some hM
        refine QL.val (fun _ => run_catS (a := r12) (b := r16) (by kernel_rfl) (by kernel_rfl) h19) (by kernel_rfl) (by kernel_rfl) rfl ?_
        obtain ⟨t20, h21, hM⟩ := bind_some hM
        refine QL.val (fun _ => run_catS (a := t9) (b := t18) (by kernel_rfl) (by kernel_rfl) h21) (by kernel_rfl) (by kernel_rfl) rfl ?_
        refine QL.run 1 [] [1, 2, 3, 5] [] [(1, .pointer (some ⟨b1, 0, none⟩)), (2, .string (⟨#[]⟩ : ByteArray)), (3, .int .i64 0), (5, .string t20)] (by kernel_rfl) ?_
        refine QL.done ?_
        exact WP.sub [1, 2, 3, 5] (by kernel_rfl) (WP.pick [0] (by kernel_rfl) (by kernel_rfl) (K2 t20 hM))
      · replace hM := cond_f hM c11
        refine WP.skip ?_
        exact WP.sub [1, 2, 3, 5] (by kernel_rfl) (WP.pick [0] (by kernel_rfl) (by kernel_rfl) (K2 t9 hM))

end Go.Proofs.YtbodofjnfmjbpaaGreatDoor

namespace Go.Proofs.YtbodofjnfmjbpaaGreatDoor
open Go Eng
set_option linter.unusedVariables false
set_option linter.unusedSimpArgs false

/-! ### gangway/vxlan.Build: function 18 -/
def vxlan_Build.f (k : Nat) (a0 : Int) (a1 : ByteArray) : Option (ByteArray × Int) :=
  bif ((decide (a0 < 0)) || (decide (a0 > 16777215))) then
    some ((⟨#[]⟩ : ByteArray), 1)
  else
    (octets_Put.f k (u64 a0) 3).bind fun (r2, r3) =>
    (catS (ByteArray.push (ByteArray.push (ByteArray.push (ByteArray.push ByteArray.empty (UInt8.ofNat (Int.toNat 8))) (UInt8.ofNat (Int.toNat 0))) (UInt8.ofNat (Int.toNat 0))) (UInt8.ofNat (Int.toNat 0))) r2).bind fun t6 =>
    (catS t6 (⟨#[0]⟩ : ByteArray)).bind fun t8 =>
    (catS t8 a1).bind fun t10 =>
    some (t10, 0)

set_option maxRecDepth 100000 in
theorem vxlan_Build_calls (k : Nat) (a0 : Int) (a1 : ByteArray) (r : ByteArray × Int) (h : vxlan_Build.f k a0 a1 = some r) : Pure Tryz.prog Glob 18 #[.int .i64 a0, .string a1] (.tuple #[.string r.1, .int .i64 r.2]) := by
  intro w Z hS
  refine calls_of (args := [.int .i64 a0, .string a1]) (L := [(0, .int .i64 a0), (1, .string a1)]) (N := 27) (S := Sat w Z [] [] Glob) Tryz.func18 rfl rfl (Nat.le_of_ble_eq_true rfl) rfl hS ?_
  have hM := h
  clear h hS
  unfold vxlan_Build.f at hM
  refine WP.seq ?_
  refine WP.run [] [0, 1, 4, 5] (fun _ => [(0, .int .i64 a0), (1, .string a1), (4, .string (⟨#[]⟩ : ByteArray)), (5, .int .i64 0)]) (fun _ => []) (fun _ => []) (fun _ => by kernel_rfl) (fun _ => ?_)
  refine WP.seq ?_
  refine WP.seq ?_
  refine WP.region ?_
  refine WL.run 3 [] [0, 1, 4, 5, 10] (fun _ => [(0, .int .i64 a0), (1, .string a1), (4, .string (⟨#[]⟩ : ByteArray)), (5, .int .i64 0), (10, .bool (decide (a0 < 0)))]) (fun _ => []) (fun _ => []) (fun _ => by kernel_rfl) (fun _ => ?_)
  refine WL.sub [0, 1, 4, 5, 10] (L' := [(0, .int .i64 a0), (1, .string a1), (4, .string (⟨#[]⟩ : ByteArray)), (5, .int .i64 0), (10, .bool (decide (a0 < 0)))]) (by kernel_rfl) ?_
  refine WL.both (fun b' => [(0, .int .i64 a0), (1, .string a1), (4, .string (⟨#[]⟩ : ByteArray)), (5, .int .i64 0), (10, .bool b')]) (decide (a0 < 0)) 3 [] [] [0, 1, 4, 5, 13] (fun b' => [(0, .int .i64 a0), (1, .string a1), (4, .string (⟨#[]⟩ : ByteArray)), (5, .int .i64 0), (13, .bool (b' || (decide (a0 > 16777215))))]) [] [] (fun _ => by kernel_rfl) (fun _ => by kernel_rfl) ?_
  refine WP.done ?_
  refine WP.cond ((decide (a0 < 0)) || (decide (a0 > 16777215))) rfl rfl (fun c1 => ?_) (fun c1 => ?_)
  · replace hM := cond_t hM c1
    refine WP.seq ?_
    refine WP.run [] [0, 1, 4, 5] (fun _ => [(0, .int .i64 a0), (1, .string a1), (4, .string (⟨#[]⟩ : ByteArray)), (5, .int .i64 1)]) (fun _ => []) (fun _ => []) (fun _ => by kernel_rfl) (fun _ => ?_)
    obtain rfl := Option.some.inj hM
    exact WP.ret [] [] (.tuple #[.string (⟨#[]⟩ : ByteArray), .int .i64 1]) (by kernel_rfl) (fun w' hw => ⟨rfl, hw.pick [] rfl⟩)
  · replace hM := cond_f hM c1
    refine WP.skip ?_
    refine WP.seq ?_
    refine WP.region ?_
    refine WL.run 2 [] [1, 4, 5, 16] (fun _ => [(1, .string a1), (4, .string (⟨#[]⟩ : ByteArray)), (5, .int .i64 0), (16, .int .u64 (u64 a0))]) (fun _ => []) (fun _ => []) (fun _ => by kernel_rfl) (fun _ => ?_)
    obtain ⟨⟨r2, r3⟩, h4, hM⟩ := bind_some hM
    dsimp only at hM
    refine WL.callP [] [] (octets_Put_calls k (u64 a0) 3 _ h4) (fun _ h => h) (by kernel_rfl) (by kernel_rfl) rfl ?_
    refine WL.run 5 [] [1, 4, 5, 6] (fun _ => [(1, .string a1), (4, .string (⟨#[]⟩ : ByteArray)), (5, .int .i64 0), (6, .string r2)]) (fun _ => []) (fun _ => []) (fun _ => by kernel_rfl) (fun _ => ?_)
    refine WP.done ?_
    refine WP.seq ?_
    refine WP.region ?_
    refine WL.run 3 [0, 0, 0, 0] [1, 4, 5, 21, 22] (fun b5 => [(1, .string a1), (4, .string (⟨#[]⟩ : ByteArray)), (5, .int .i64 0), (21, .string (ByteArray.push (ByteArray.push (ByteArray.push (ByteArray.push ByteArray.empty (UInt8.ofNat (Int.toNat 8))) (UInt8.ofNat (Int.toNat 0))) (UInt8.ofNat (Int.toNat 0))) (UInt8.ofNat (Int.toNat 0)))), (22, .string r2)]) (fun b5 => [(b5, .cells #[.int .u8 8, .int .u8 0, .int .u8 0, .int .u8 0] 5 (0, 0))]) (fun b5 => [b5, b5, b5, b5]) (fun b5 => by kernel_rfl) (fun b5 => ?_)
    obtain ⟨t6, h7, hM⟩ := bind_some hM
    refine WL.val (fun _ => run_catS (a := (ByteArray.push (ByteArray.push (ByteArray.push (ByteArray.push ByteArray.empty (UInt8.ofNat (Int.toNat 8))) (UInt8.ofNat (Int.toNat 0))) (UInt8.ofNat (Int.toNat 0))) (UInt8.ofNat (Int.toNat 0)))) (b := r2) (by kernel_rfl) (by kernel_rfl) h7) (by kernel_rfl) (by kernel_rfl) rfl ?_
    obtain ⟨t8, h9, hM⟩ := bind_some hM
    refine WL.val (fun _ => run_catS (a := t6) (b := (⟨#[0]⟩ : ByteArray)) (by kernel_rfl) (by kernel_rfl) h9) (by kernel_rfl) (by kernel_rfl) rfl ?_
    refine WL.run 1 [] [4, 5, 24, 25] (fun _ => [(4, .string (⟨#[]⟩ : ByteArray)), (5, .int .i64 0), (24, .string t8), (25, .string a1)]) (fun _ => [(b5, .cells #[.int .u8 8, .int .u8 0, .int .u8 0, .int .u8 0] 5 (0, 0))]) (fun _ => []) (fun _ => by kernel_rfl) (fun _ => ?_)
    obtain ⟨t10, h11, hM⟩ := bind_some hM
    refine WL.val (fun _ => run_catS (a := t8) (b := a1) (by kernel_rfl) (by kernel_rfl) h11) (by kernel_rfl) (by kernel_rfl) rfl ?_
    refine WL.run 2 [] [4, 5] (fun _ => [(4, .string t10), (5, .int .i64 0)]) (fun _ => [(b5, .cells #[.int .u8 8, .int .u8 0, .int .u8 0, .int .u8 0] 5 (0, 0))]) (fun _ => []) (fun _ => by kernel_rfl) (fun _ => ?_)
    refine WP.done ?_
    refine WP.keep [false] (by kernel_rfl : _ = []) ?_
    obtain rfl := Option.some.inj hM
    exact WP.ret [] [] (.tuple #[.string t10, .int .i64 0]) (by kernel_rfl) (fun w' hw => ⟨rfl, hw.pick [] rfl⟩)

end Go.Proofs.YtbodofjnfmjbpaaGreatDoor

namespace Go.Proofs.YtbodofjnfmjbpaaGreatDoor
open Go Eng
set_option linter.unusedVariables false
set_option linter.unusedSimpArgs false

/-! ### gangway/vxlan.Hash: function 39 -/
def vxlan_Hash.l1 (a0 : ByteArray) : Nat → Int → Int → Option (Int)
  | 0, _, _ => none
  | n + 1, x1, x2 =>
    bif decide (x2 < (a0.size : Int)) then
      (idxS a0 x2).bind fun t4 =>
      vxlan_Hash.l1 a0 n (u32 ((bXor .u32 x1 (u32 t4)) * 16777619)) (i64 (x2 + 1))
    else
      some x1

def vxlan_Hash.f (k : Nat) (a0 : ByteArray) : Option (Int) :=
  vxlan_Hash.l1 a0 k 2166136261 0

set_option maxRecDepth 100000 in
theorem vxlan_Hash_calls (k : Nat) (a0 : ByteArray) (r : Int) (h : vxlan_Hash.f k a0 = some r) : Pure Tryz.prog Glob 39 #[.string a0] (.int .u32 r) := by
  intro w Z hS
  refine calls_of (args := [.string a0]) (L := [(0, .string a0)]) (N := 19) (S := Sat w Z [] [] Glob) Tryz.func39 rfl rfl (Nat.le_of_ble_eq_true rfl) rfl hS ?_
  have hM := h
  clear h hS
  unfold vxlan_Hash.f at hM
  refine WP.seq ?_
  refine WP.run [] [0, 2] (fun _ => [(0, .string a0), (2, .int .u32 0)]) (fun _ => []) (fun _ => []) (fun _ => by kernel_rfl) (fun _ => ?_)
  refine WP.seq ?_
  refine WP.run [] [0, 2, 3] (fun _ => [(0, .string a0), (2, .int .u32 0), (3, .int .u32 2166136261)]) (fun _ => []) (fun _ => []) (fun _ => by kernel_rfl) (fun _ => ?_)
  refine WP.seq ?_
  refine WP.seq ?_
  refine WP.run [] [0, 2, 3, 6, 7] (fun _ => [(0, .string a0), (2, .int .u32 0), (3, .int .u32 2166136261), (6, .int .i64 (a0.size : Int)), (7, .int .i64 0)]) (fun _ => []) (fun _ => []) (fun _ => by kernel_rfl) (fun _ => ?_)
  refine WP.block ?_
  refine WP.sub [0, 2, 3, 6, 7] (L' := [(0, .string a0), (2, .int .u32 0), (3, .int .u32 2166136261), (6, .int .i64 (a0.size : Int)), (7, .int .i64 0)]) (by kernel_rfl) ?_
  refine WP.loop (σ := Int × Int) (fun n st => vxlan_Hash.l1 a0 n st.1 st.2) r (fun st => [(0, .string a0), (2, .int .u32 0), (3, .int .u32 st.1), (6, .int .i64 (a0.size : Int)), (7, .int .i64 st.2)]) (fun st => Sat w Z [] [] Glob) (st := (2166136261, 0)) (fun n st hM => ?_) hM
  rcases n with _ | n
  · exact nomatch (show (none : Option _) = some r from hM)
  obtain ⟨x1, x2⟩ := st
  replace hM : vxlan_Hash.l1 a0 (n + 1) x1 x2 = some r := hM
  rw [vxlan_Hash.l1] at hM
  show WP _ _ _ _ _ [(0, .string a0), (2, .int .u32 0), (3, .int .u32 x1), (6, .int .i64 (a0.size : Int)), (7, .int .i64 x2)] (Sat w Z [] [] Glob)
  refine WP.seq ?_
  refine WP.run [] [0, 2, 3, 6, 7, 8] (fun _ => [(0, .string a0), (2, .int .u32 0), (3, .int .u32 x1), (6, .int .i64 (a0.size : Int)), (7, .int .i64 x2), (8, .bool (decide (x2 < (a0.size : Int))))]) (fun _ => []) (fun _ => []) (fun _ => by kernel_rfl) (fun _ => ?_)
  refine WP.seq ?_
  refine WP.cond (decide (x2 < (a0.size : Int))) rfl rfl (fun c3 => ?_) (fun c3 => ?_)
  · replace hM := cond_t hM c3
    refine WP.skip ?_
    refine WP.seq ?_
    refine WP.block ?_
    refine WP.seq ?_
    refine WP.run [] [0, 2, 3, 4, 6, 7, 8, 9] (fun _ => [(0, .string a0), (2, .int .u32 0), (3, .int .u32 x1), (4, .int .i64 x2), (6, .int .i64 (a0.size : Int)), (7, .int .i64 x2), (8, .bool (decide (x2 < (a0.size : Int)))), (9, .int .i64 x2)]) (fun _ => []) (fun _ => []) (fun _ => by kernel_rfl) (fun _ => ?_)
    refine WP.region ?_
    refine WL.run 3 [] [0, 2, 3, 4, 6, 7, 8, 9, 10, 11, 12] (fun _ => [(0, .string a0), (2, .int .u32 0), (3, .int .u32 x1), (4, .int .i64 x2), (6, .int .i64 (a0.size : Int)), (7, .int .i64 x2), (8, .bool (decide (x2 < (a0.size : Int)))), (9, .int .i64 x2), (10, .int .u32 x1), (11, .string a0), (12, .int .i64 x2)]) (fun _ => []) (fun _ => []) (fun _ => by kernel_rfl) (fun _ => ?_)
    obtain ⟨t4, h5, hM⟩ := bind_some hM
    refine WL.val (fun _ => run_idxS (s := a0) (k := .i64) (i := x2) (by kernel_rfl) (by kernel_rfl) (by kernel_rfl) h5) (by kernel_rfl) (by kernel_rfl) rfl ?_
    refine WL.run 4 [] [0, 2, 3, 4, 6, 7, 8, 9, 10, 11, 12, 13, 14, 15, 16] (fun _ => [(0, .string a0), (2, .int .u32 0), (3, .int .u32 (u32 ((bXor .u32 x1 (u32 t4)) * 16777619))), (4, .int .i64 x2), (6, .int .i64 (a0.size : Int)), (7, .int .i64 x2), (8, .bool (decide (x2 < (a0.size : Int)))), (9, .int .i64 x2), (10, .int .u32 x1), (11, .string a0), (12, .int .i64 x2), (13, .int .u8 t4), (14, .int .u32 (u32 t4)), (15, .int .u32 (bXor .u32 x1 (u32 t4))), (16, .int .u32 (u32 ((bXor .u32 x1 (u32 t4)) * 16777619)))]) (fun _ => []) (fun _ => []) (fun _ => by kernel_rfl) (fun _ => ?_)
    refine WP.done ?_
    refine WP.leave ?_
    refine WP.run [] [0, 2, 3, 4, 6, 7, 8, 9, 10, 11, 12, 13, 14, 15, 16, 17] (fun _ => [(0, .string a0), (2, .int .u32 0), (3, .int .u32 (u32 ((bXor .u32 x1 (u32 t4)) * 16777619))), (4, .int .i64 x2), (6, .int .i64 (a0.size : Int)), (7, .int .i64 (i64 (x2 + 1))), (8, .bool (decide (x2 < (a0.size : Int)))), (9, .int .i64 x2), (10, .int .u32 x1), (11, .string a0), (12, .int .i64 x2), (13, .int .u8 t4), (14, .int .u32 (u32 t4)), (15, .int .u32 (bXor .u32 x1 (u32 t4))), (16, .int .u32 (u32 ((bXor .u32 x1 (u32 t4)) * 16777619))), (17, .int .i64 (i64 (x2 + 1)))]) (fun _ => []) (fun _ => []) (fun _ => by kernel_rfl) (fun _ => ?_)
    exact WP.again' [0, 2, 3, 6, 7] (u32 ((bXor .u32 x1 (u32 t4)) * 16777619), i64 (x2 + 1)) hM (by kernel_rfl) (fun _ h => h.pick [] (by kernel_rfl))
  · replace hM := cond_f hM c3
    refine WP.exit rfl ?_
    refine WP.seq ?_
    refine WP.run [] [2] (fun _ => [(2, .int .u32 x1)]) (fun _ => []) (fun _ => []) (fun _ => by kernel_rfl) (fun _ => ?_)
    obtain rfl := Option.some.inj hM
    exact WP.ret [] [] (.int .u32 x1) (by kernel_rfl) (fun w' hw => ⟨rfl, hw.pick [] rfl⟩)

end Go.Proofs.YtbodofjnfmjbpaaGreatDoor

namespace Go.Proofs.YtbodofjnfmjbpaaGreatDoor
open Go Eng
set_option linter.unusedVariables false
set_option linter.unusedSimpArgs false

/-! ### gangway/vxlan.Port: function 19 -/
def vxlan_Port.f (k : Nat) (a0 : ByteArray) : Option (Int) :=
  (sliceS a0 0 (imin (a0.size : Int) 14)).bind fun t1 =>
  (vxlan_Hash.f k t1).bind fun r3 =>
  some (i64 (49152 + (i64 (Int.tmod r3 16384))))

set_option maxRecDepth 100000 in
theorem vxlan_Port_calls (k : Nat) (a0 : ByteArray) (r : Int) (h : vxlan_Port.f k a0 = some r) : Pure Tryz.prog Glob 19 #[.string a0] (.int .i64 r) := by
  intro w Z hS
  refine calls_of (args := [.string a0]) (L := [(0, .string a0)]) (N := 12) (S := Sat w Z [] [] Glob) Tryz.func19 rfl rfl (Nat.le_of_ble_eq_true rfl) rfl hS ?_
  have hM := h
  clear h hS
  unfold vxlan_Port.f at hM
  refine WP.seq ?_
  refine WP.run [] [0, 2] (fun _ => [(0, .string a0), (2, .int .i64 0)]) (fun _ => []) (fun _ => []) (fun _ => by kernel_rfl) (fun _ => ?_)
  refine WP.seq ?_
  refine WP.region ?_
  refine WL.run 4 [] [2, 3, 6] (fun _ => [(2, .int .i64 0), (3, .string a0), (6, .int .i64 (imin (a0.size : Int) 14))]) (fun _ => []) (fun _ => []) (fun _ => by kernel_rfl) (fun _ => ?_)
  obtain ⟨t1, h2, hM⟩ := bind_some hM
  refine WL.val (fun _ => run_sliceS_hi (s := a0) (kh := .i64) (h := imin (a0.size : Int) 14) (by kernel_rfl) (by kernel_rfl) (by kernel_rfl) h2) (by kernel_rfl) (by kernel_rfl) rfl ?_
  obtain ⟨r3, h4, hM⟩ := bind_some hM
  refine WL.callP [] [] (vxlan_Hash_calls k t1 _ h4) (fun _ h => h) (by kernel_rfl) (by kernel_rfl) rfl ?_
  refine WL.run 4 [] [2] (fun _ => [(2, .int .i64 (i64 (49152 + (i64 (Int.tmod r3 16384)))))]) (fun _ => []) (fun _ => []) (fun _ => by kernel_rfl) (fun _ => ?_)
  refine WP.done ?_
  obtain rfl := Option.some.inj hM
  exact WP.ret [] [] (.int .i64 (i64 (49152 + (i64 (Int.tmod r3 16384))))) (by kernel_rfl) (fun w' hw => ⟨rfl, hw.pick [] rfl⟩)

end Go.Proofs.YtbodofjnfmjbpaaGreatDoor

namespace Go.Proofs.YtbodofjnfmjbpaaGreatDoor
open Go Eng
set_option linter.unusedVariables false
set_option linter.unusedSimpArgs false

/-! ### gangway/udp.Check$1: function 95 -/
def udp_Check_1.f (a0 : Int) : Option (Bool) :=
  some ((decide (a0 ≥ 0)) && (decide (a0 < 65536)))

set_option maxRecDepth 100000 in
theorem udp_Check_1_calls (a0 : Int) (r : Bool) (h : udp_Check_1.f a0 = some r) : Pure Tryz.prog Glob 95 #[.int .i64 a0] (.bool r) := by
  intro w Z hS
  refine calls_of (args := [.int .i64 a0]) (L := [(0, .int .i64 a0)]) (N := 9) (S := Sat w Z [] [] Glob) Tryz.func95 rfl rfl (Nat.le_of_ble_eq_true rfl) rfl hS ?_
  have hM := h
  clear h hS
  unfold udp_Check_1.f at hM
  refine WP.seq ?_
  refine WP.run [] [0, 2] (fun _ => [(0, .int .i64 a0), (2, .bool false)]) (fun _ => []) (fun _ => []) (fun _ => by kernel_rfl) (fun _ => ?_)
  refine WP.seq ?_
  refine WP.region ?_
  refine WL.run 3 [] [0, 2, 5] (fun _ => [(0, .int .i64 a0), (2, .bool false), (5, .bool (decide (a0 ≥ 0)))]) (fun _ => []) (fun _ => []) (fun _ => by kernel_rfl) (fun _ => ?_)
  refine WL.sub [0, 2, 5] (L' := [(0, .int .i64 a0), (2, .bool false), (5, .bool (decide (a0 ≥ 0)))]) (by kernel_rfl) ?_
  refine WL.both (fun b' => [(0, .int .i64 a0), (2, .bool false), (5, .bool b')]) (decide (a0 ≥ 0)) 3 [] [] [2, 8] (fun b' => [(2, .bool false), (8, .bool (b' && (decide (a0 < 65536))))]) [] [] (fun _ => by kernel_rfl) (fun _ => by kernel_rfl) ?_
  refine WL.run 1 [] [2] (fun _ => [(2, .bool ((decide (a0 ≥ 0)) && (decide (a0 < 65536))))]) (fun _ => []) (fun _ => []) (fun _ => by kernel_rfl) (fun _ => ?_)
  refine WP.done ?_
  obtain rfl := Option.some.inj hM
  exact WP.ret [] [] (.bool ((decide (a0 ≥ 0)) && (decide (a0 < 65536)))) (by kernel_rfl) (fun w' hw => ⟨rfl, hw.pick [] rfl⟩)

end Go.Proofs.YtbodofjnfmjbpaaGreatDoor

namespace Go.Proofs.YtbodofjnfmjbpaaGreatDoor
open Go Eng
set_option linter.unusedVariables false
set_option linter.unusedSimpArgs false

/-! ### gangway/udp.Check: function 65 -/
def udp_Check.k1 (a0 : api_Udp) (x7 : Bool) : Option (Int) :=
  bif (x7 && (decide ((a0.Body.size : Int) ≤ 65507))) then
    some 0
  else
    some 71

def udp_Check.f (a0 : api_Udp) : Option (Int) :=
  (udp_Check_1.f a0.Src).bind fun r2 =>
  bif r2 then
    (udp_Check_1.f a0.Dst).bind fun r5 =>
    udp_Check.k1 a0 r5
  else
    udp_Check.k1 a0 false

set_option maxRecDepth 100000 in
theorem udp_Check_calls (a0 : api_Udp) (r : Int) (h : udp_Check.f a0 = some r) : Pure Tryz.prog Glob 65 #[.agg #[.int .i64 a0.Src, .int .i64 a0.Dst, .bool a0.NoSum, .string a0.Body]] (.int .i64 r) := by
  intro w Z hS
  refine calls_of (args := [.agg #[.int .i64 a0.Src, .int .i64 a0.Dst, .bool a0.NoSum, .string a0.Body]]) (L := [(0, .agg #[.int .i64 a0.Src, .int .i64 a0.Dst, .bool a0.NoSum, .string a0.Body])]) (N := 20) (S := Sat w Z [] [] Glob) Tryz.func65 rfl rfl (Nat.le_of_ble_eq_true rfl) rfl hS ?_
  have hM := h
  clear h hS
  unfold udp_Check.f at hM
  refine WP.seq ?_
  refine WP.run [] [1, 2] (fun b1 => [(1, .pointer (some ⟨b1, 0, none⟩)), (2, .int .i64 0)]) (fun b1 => [(b1, .cells #[.int .i64 a0.Src, .int .i64 a0.Dst, .bool a0.NoSum, .string a0.Body] 40 (0, 0))]) (fun b1 => []) (fun b1 => by kernel_rfl) (fun b1 => ?_)
  refine WP.seq ?_
  refine WP.run [] [1, 2, 3] (fun _ => [(1, .pointer (some ⟨b1, 0, none⟩)), (2, .int .i64 0), (3, .func (.func 95) #[] #[])]) (fun _ => [(b1, .cells #[.int .i64 a0.Src, .int .i64 a0.Dst, .bool a0.NoSum, .string a0.Body] 40 (0, 0))]) (fun _ => []) (fun _ => by kernel_rfl) (fun _ => ?_)
  refine WP.seq ?_
  refine WP.seq ?_
  refine WP.region ?_
  refine WL.run 3 [0] [1, 2, 3, 4, 6] (fun _ => [(1, .pointer (some ⟨b1, 0, none⟩)), (2, .int .i64 0), (3, .func (.func 95) #[] #[]), (4, .func (.func 95) #[] #[]), (6, .int .i64 a0.Src)]) (fun _ => [(b1, .cells #[.int .i64 a0.Src, .int .i64 a0.Dst, .bool a0.NoSum, .string a0.Body] 40 (0, 0))]) (fun _ => [b1]) (fun _ => by kernel_rfl) (fun _ => ?_)
  obtain ⟨r2, h3, hM⟩ := bind_some hM
  refine WL.callP [] [] (udp_Check_1_calls a0.Src _ h3) (fun _ h => h) (by kernel_rfl) (by kernel_rfl) rfl ?_
  refine WL.run 1 [] [1, 2, 3, 8] (fun _ => [(1, .pointer (some ⟨b1, 0, none⟩)), (2, .int .i64 0), (3, .func (.func 95) #[] #[]), (8, .bool r2)]) (fun _ => [(b1, .cells #[.int .i64 a0.Src, .int .i64 a0.Dst, .bool a0.NoSum, .string a0.Body] 40 (0, 0))]) (fun _ => []) (fun _ => by kernel_rfl) (fun _ => ?_)
  refine WL.sub [1, 2, 3, 8] (L' := [(1, .pointer (some ⟨b1, 0, none⟩)), (2, .int .i64 0), (3, .func (.func 95) #[] #[]), (8, .bool r2)]) (by kernel_rfl) ?_
  refine WL.join (σ := Bool) 5 (fun st => udp_Check.k1 a0 st = some r) (fun st => [(1, .pointer (some ⟨b1, 0, none⟩)), (2, .int .i64 0), (13, .bool st)]) (fun st => Sat w Z [(b1, .cells #[.int .i64 a0.Src, .int .i64 a0.Dst, .bool a0.NoSum, .string a0.Body] 40 (0, 0))] [] Glob) (fun st hM => ?_) (fun K1 => ?_)
  ·
    obtain ⟨x7, rfl⟩ : ∃ y, y = st := ⟨st, rfl⟩
    replace hM : udp_Check.k1 a0 x7 = some r := hM
    unfold udp_Check.k1 at hM
    show WL _ _ _ _ _ [(1, .pointer (some ⟨b1, 0, none⟩)), (2, .int .i64 0), (13, .bool x7)] (Sat w Z [(b1, .cells #[.int .i64 a0.Src, .int .i64 a0.Dst, .bool a0.NoSum, .string a0.Body] 40 (0, 0))] [] Glob)
    refine WL.run 1 [] [1, 2, 14] (fun _ => [(1, .pointer (some ⟨b1, 0, none⟩)), (2, .int .i64 0), (14, .bool x7)]) (fun _ => [(b1, .cells #[.int .i64 a0.Src, .int .i64 a0.Dst, .bool a0.NoSum, .string a0.Body] 40 (0, 0))]) (fun _ => []) (fun _ => by kernel_rfl) (fun _ => ?_)
    refine WL.sub [1, 2, 14] (L' := [(1, .pointer (some ⟨b1, 0, none⟩)), (2, .int .i64 0), (14, .bool x7)]) (by kernel_rfl) ?_
    refine WL.both (fun b' => [(1, .pointer (some ⟨b1, 0, none⟩)), (2, .int .i64 0), (14, .bool b')]) x7 5 [0] [] [2, 19] (fun b' => [(2, .int .i64 0), (19, .bool (b' && (decide ((a0.Body.size : Int) ≤ 65507))))]) [b1] [] (fun _ => by kernel_rfl) (fun _ => by kernel_rfl) ?_
    refine WP.done ?_
    refine WP.keep [false] (by kernel_rfl : _ = []) ?_
    refine WP.cond (x7 && (decide ((a0.Body.size : Int) ≤ 65507))) rfl rfl (fun c8 => ?_) (fun c8 => ?_)
    · replace hM := cond_t hM c8
      refine WP.seq ?_
      refine WP.run [] [2] (fun _ => [(2, .int .i64 0)]) (fun _ => []) (fun _ => []) (fun _ => by kernel_rfl) (fun _ => ?_)
      obtain rfl := Option.some.inj hM
      exact WP.ret [] [] (.int .i64 0) (by kernel_rfl) (fun w' hw => ⟨rfl, hw.pick [] rfl⟩)
    · replace hM := cond_f hM c8
      refine WP.skip ?_
      refine WP.seq ?_
      refine WP.run [] [2] (fun _ => [(2, .int .i64 71)]) (fun _ => []) (fun _ => []) (fun _ => by kernel_rfl) (fun _ => ?_)
      obtain rfl := Option.some.inj hM
      exact WP.ret [] [] (.int .i64 71) (by kernel_rfl) (fun w' hw => ⟨rfl, hw.pick [] rfl⟩)
  ·
    refine WL.split (fun b' => [(1, .pointer (some ⟨b1, 0, none⟩)), (2, .int .i64 0), (3, .func (.func 95) #[] #[]), (8, .bool b')]) r2 (fun c4 => ?_) (fun c4 => ?_)
    · replace hM := cond_t hM c4
      refine WL.run 3 [0] [1, 2, 8, 9, 11] (fun _ => [(1, .pointer (some ⟨b1, 0, none⟩)), (2, .int .i64 0), (8, .bool true), (9, .func (.func 95) #[] #[]), (11, .int .i64 a0.Dst)]) (fun _ => [(b1, .cells #[.int .i64 a0.Src, .int .i64 a0.Dst, .bool a0.NoSum, .string a0.Body] 40 (0, 0))]) (fun _ => [b1]) (fun _ => by kernel_rfl) (fun _ => ?_)
      obtain ⟨r5, h6, hM⟩ := bind_some hM
      refine WL.callP [] [] (udp_Check_1_calls a0.Dst _ h6) (fun _ h => h) (by kernel_rfl) (by kernel_rfl) rfl ?_
      refine WL.run 1 [] [1, 2, 13] (fun _ => [(1, .pointer (some ⟨b1, 0, none⟩)), (2, .int .i64 0), (13, .bool r5)]) (fun _ => [(b1, .cells #[.int .i64 a0.Src, .int .i64 a0.Dst, .bool a0.NoSum, .string a0.Body] 40 (0, 0))]) (fun _ => []) (fun _ => by kernel_rfl) (fun _ => ?_)
      exact WL.sub [1, 2, 13] (by kernel_rfl) (WL.pick [0] (by kernel_rfl) (by kernel_rfl) (K1 r5 hM))
    · replace hM := cond_f hM c4
      refine WL.run 5 [] [1, 2, 13] (fun _ => [(1, .pointer (some ⟨b1, 0, none⟩)), (2, .int .i64 0), (13, .bool false)]) (fun _ => [(b1, .cells #[.int .i64 a0.Src, .int .i64 a0.Dst, .bool a0.NoSum, .string a0.Body] 40 (0, 0))]) (fun _ => []) (fun _ => by kernel_rfl) (fun _ => ?_)
      exact WL.sub [1, 2, 13] (by kernel_rfl) (WL.pick [0] (by kernel_rfl) (by kernel_rfl) (K1 false hM))

end Go.Proofs.YtbodofjnfmjbpaaGreatDoor

namespace Go.Proofs.YtbodofjnfmjbpaaGreatDoor
open Go Eng
set_option linter.unusedVariables false
set_option linter.unusedSimpArgs false

/-! ### gangway/udp.word: function 66 -/
def udp_word.f (k : Nat) (a0 : Int) : Option (ByteArray) :=
  (octets_Put.f k (u64 a0) 2).bind fun (r1, r2) =>
  some r1

set_option maxRecDepth 100000 in
theorem udp_word_calls (k : Nat) (a0 : Int) (r : ByteArray) (h : udp_word.f k a0 = some r) : Pure Tryz.prog Glob 66 #[.int .i64 a0] (.string r) := by
  intro w Z hS
  refine calls_of (args := [.int .i64 a0]) (L := [(0, .int .i64 a0)]) (N := 12) (S := Sat w Z [] [] Glob) Tryz.func66 rfl rfl (Nat.le_of_ble_eq_true rfl) rfl hS ?_
  have hM := h
  clear h hS
  unfold udp_word.f at hM
  refine WP.seq ?_
  refine WP.run [] [0, 2] (fun _ => [(0, .int .i64 a0), (2, .string (⟨#[]⟩ : ByteArray))]) (fun _ => []) (fun _ => []) (fun _ => by kernel_rfl) (fun _ => ?_)
  refine WP.seq ?_
  refine WP.region ?_
  refine WL.run 2 [] [2, 7] (fun _ => [(2, .string (⟨#[]⟩ : ByteArray)), (7, .int .u64 (u64 a0))]) (fun _ => []) (fun _ => []) (fun _ => by kernel_rfl) (fun _ => ?_)
  obtain ⟨⟨r1, r2⟩, h3, hM⟩ := bind_some hM
  dsimp only at hM
  refine WL.callP [] [] (octets_Put_calls k (u64 a0) 2 _ h3) (fun _ h => h) (by kernel_rfl) (by kernel_rfl) rfl ?_
  refine WL.run 5 [] [2, 3] (fun _ => [(2, .string (⟨#[]⟩ : ByteArray)), (3, .string r1)]) (fun _ => []) (fun _ => []) (fun _ => by kernel_rfl) (fun _ => ?_)
  refine WP.done ?_
  refine WP.seq ?_
  refine WP.run [] [2] (fun _ => [(2, .string r1)]) (fun _ => []) (fun _ => []) (fun _ => by kernel_rfl) (fun _ => ?_)
  obtain rfl := Option.some.inj hM
  exact WP.ret [] [] (.string r1) (by kernel_rfl) (fun w' hw => ⟨rfl, hw.pick [] rfl⟩)

end Go.Proofs.YtbodofjnfmjbpaaGreatDoor

namespace Go.Proofs.YtbodofjnfmjbpaaGreatDoor
open Go Eng
set_option linter.unusedVariables false
set_option linter.unusedSimpArgs false

/-! ### gangway/csum.Of: function 67 -/
def csum_Of.f (k : Nat) (a0 : (List ByteArray)) : Option (Int) :=
  (csum_total.f k a0).bind fun r1 =>
  some (i64 (65535 - r1))

set_option maxRecDepth 100000 in
theorem csum_Of_calls (k : Nat) (A00 : SkL Unit) (a0 : (List ByteArray)) (r : Int) (h : csum_Of.f k a0 = some r) : Pure Tryz.prog ([Row 1 (pl encS) noK A00 a0] ++ Glob) 67 #[slcV A00 a0.length] (.int .i64 r) := by
  intro w Z hS
  refine calls_of (args := [slcV A00 a0.length]) (L := [(0, slcV A00 a0.length)]) (N := 6) (S := Sat w Z [] [] ([Row 1 (pl encS) noK A00 a0] ++ Glob)) Tryz.func67 rfl rfl (Nat.le_of_ble_eq_true rfl) rfl hS ?_
  have hM := h
  clear h hS
  unfold csum_Of.f at hM
  refine WP.seq ?_
  refine WP.run [] [0, 2] (fun _ => [(0, slcV A00 a0.length), (2, .int .i64 0)]) (fun _ => []) (fun _ => []) (fun _ => by kernel_rfl) (fun _ => ?_)
  refine WP.seq ?_
  refine WP.region ?_
  refine WL.run 1 [] [2, 3] (fun _ => [(2, .int .i64 0), (3, slcV A00 a0.length)]) (fun _ => []) (fun _ => []) (fun _ => by kernel_rfl) (fun _ => ?_)
  obtain ⟨r1, h2, hM⟩ := bind_some hM
  refine WL.callP [] [] (csum_total_calls k A00 a0 _ h2) (sub_pick [0] (by kernel_rfl)) (by kernel_rfl) (by kernel_rfl) rfl ?_
  refine WL.run 2 [] [2] (fun _ => [(2, .int .i64 (i64 (65535 - r1)))]) (fun _ => []) (fun _ => []) (fun _ => by kernel_rfl) (fun _ => ?_)
  refine WP.done ?_
  obtain rfl := Option.some.inj hM
  exact WP.ret [] [] (.int .i64 (i64 (65535 - r1))) (by kernel_rfl) (fun w' hw => ⟨rfl, (hw.pick [] rfl).lessF [0] (by kernel_rfl)⟩)

end Go.Proofs.YtbodofjnfmjbpaaGreatDoor
