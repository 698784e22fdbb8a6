/- Plain arithmetic of the functions' models: no conditions but those that each theorem bears. -/
import Derived.Test.YtlihmahekidkaaaGreatDoorF1
import Derived.Test.YtlihmahekidkaaaGreatDoorE3
import Derived.Test.YtlihmahekidkaaaGreatDoorF2
import Derived.Test.YtlihmahekidkaaaGreatDoorQ

namespace Go.Proofs.YtlihmahekidkaaaGreatDoor
set_option maxRecDepth 100000
set_option linter.unusedVariables false
set_option linter.unusedSimpArgs false
set_option linter.unusedSectionVars false
open Go Eng
theorem pow256 (i : Nat) : (2 : Nat) ^ (8 * i) = 256 ^ i := by rw [Nat.pow_mul]
theorem shr_spec (v i : Nat) (hi : i ≤ 7) : shrI .u64 (v : Int) (i64 (8 * (i : Int))) = some ((v / 256 ^ i : Nat) : Int) := by
 rw [i64_id (by omega)]
 simp only [shrI, IntKind.bits]
 rw [if_neg (by omega)]
 have : (8 * (i : Int)).toNat = 8 * i := by omega
 rw [this, Nat.min_eq_left (by omega), ← pow256, Int.fdiv_eq_ediv_of_nonneg _ (Int.pow_nonneg (by decide)), Int.natCast_ediv, Int.natCast_pow]
 rfl
theorem drop_set {α : Type} (l : List α) (i : Nat) (b : α) (hi : i < l.length) : (l.set i b).drop i = b :: l.drop (i + 1) := by
 apply List.ext_getElem?
 intro j
 rw [List.getElem?_drop]
 cases j with
 | zero => simp [hi]
 | succ j =>
  rw [List.getElem?_cons_succ, List.getElem?_drop, List.getElem?_set_ne (by omega)]
  congr 1; omega
theorem put_loop (v w : Nat) (hw : 1 ≤ w ∧ w ≤ 8) : ∀ (j i : Nat) (xs : List Int) (fuel : Nat), i + j = w → xs.length = w → j < fuel → xs.drop (w - i) = (beL i v).map (fun b => (b.toNat : Int)) →
  octets_Put.l3 w v w fuel i xs = some (be w v, 0)
 | 0, i, xs, 0, hij, hl, hf, hd => by omega
 | 0, i, xs, fuel + 1, hij, hl, hf, hd => by
  obtain rfl : i = w := by omega
  simp only [octets_Put.l3]
  rw [show decide ((i : Int) < (i : Int)) = false by simp]
  simp only [cond_false]
  rw [show i - i = 0 by omega, List.drop_zero] at hd
  have : strOf i xs = some (be i v) := by
   unfold strOf
   rw [if_pos (by omega), List.take_of_length_le (by omega)]
   congr 1
   rw [hd]
   simp only [strOfNums, be, List.map_map]
   congr 1
   rw [show ((fun n : Int => UInt8.ofNat n.toNat) ∘ fun b : UInt8 => (b.toNat : Int)) = id by funext b; simp]
   simp
  rw [this]
  rfl
 | j + 1, i, xs, 0, hij, hl, hf, hd => by omega
 | j + 1, i, xs, fuel + 1, hij, hl, hf, hd => by
  simp only [octets_Put.l3]
  rw [show decide ((i : Int) < (w : Int)) = true by simp; omega]
  simp only [cond_true]
  rw [shr_spec v i (by omega), i64_id (n := (w : Int) - 1) (by omega), i64_id (n := (w : Int) - 1 - (i : Int)) (by omega), i64_id (n := (i : Int) + 1) (by omega)]
  have hg : ((w : Int) - 1 - (i : Int)).toNat = w - (i + 1) := by omega
  obtain ⟨x, hx⟩ : ∃ x, getL w xs ((w : Int) - 1 - (i : Int)) = some x := by
   unfold getL
   rw [if_pos (by omega), hg]
   exact ⟨_, List.getElem?_eq_getElem (by omega)⟩
  rw [hx]
  simp only [Option.bind_some]
  have := put_loop v w hw j (i + 1) (List.set xs (w - (i + 1)) (u8 ((v / 256 ^ i : Nat) : Int))) fuel (by omega) (by simpa using hl) (by omega) (by
   rw [drop_set _ _ _ (by omega)]
   simp only [beL, List.map_cons]
   rw [show w - (i + 1) + 1 = w - i by omega, hd]
   congr 1
   rw [u8_mod]
   simp)
  rw [hg]
  exact this
theorem put_spec (v w : Nat) (hw : 1 ≤ w ∧ w ≤ 8) (hv : v < 256 ^ w) (hv2 : v < 2 ^ 64) : octets_Put.f 2000 v w = some (be w v, 0) := by
 have hk : octets_Put.k2 w v 2000 false = some (be w v, 0) := by
  simp only [octets_Put.k2, cond_false]
  have : mkLen 1 w = some w := by
   unfold mkLen
   rw [if_pos (by omega)]
   simp
  rw [this, Option.bind_some]
  exact put_loop v w hw w 0 _ 2000 (by omega) (by simp) (by omega) (by simp [beL])
 simp only [octets_Put.f]
 rw [show ((decide ((w : Int) < 1)) || (decide ((w : Int) > 8))) = false by simp; omega]
 simp only [cond_false]
 by_cases h8 : w < 8
 ·rw [show decide ((w : Int) < 8) = true by simp; omega]
  simp only [cond_true]
  rw [shr_spec v w (by omega), Option.bind_some, Nat.div_eq_of_lt hv]
  exact hk
 ·rw [show decide ((w : Int) < 8) = false by simp; omega]
  simp only [cond_false]
  exact hk
theorem mul_or {a c : Nat} (ha : a < 72057594037927936) (hc : c < 256) : bOr .u64 (u64 ((a : Int) * 256)) (u64 (c : Int)) = ((a * 256 + c : Nat) : Int) := by
 rw [u64_id (by omega), u64_id (by omega)]
 have e : ((a : Int) * 256) = ((a * 256 : Nat) : Int) := by omega
 rw [e]
 have h1 : a * 256 < 2 ^ 64 := by omega
 have h2 : c < 2 ^ 64 := by omega
 have h3 := bOr_u64 h1 h2
 rw [h3]
 have h4 := or_add 8 (x := a) (y := c) (by omega)
 rw [show (2 : Nat) ^ 8 = 256 from rfl] at h4
 rw [h4]
theorem get_loop (r : ByteArray) (n : Nat) (hn : n ≤ 8) (hr : r.size = n) : ∀ (j i fuel : Nat), i + j = n → j < fuel → octets_Get.l1 n r fuel ((beV ((L r).take i) : Nat) : Int) i = some (((beV (L r) : Nat) : Int), 0)
 | 0, i, 0, hij, hf => by omega
 | 0, i, fuel + 1, hij, hf => by
  obtain rfl : i = n := by omega
  simp only [octets_Get.l1]
  rw [show decide ((i : Int) < (i : Int)) = false by simp]
  rw [List.take_of_length_le (by rw [L_length]; omega)]
  rfl
 | j + 1, i, 0, hij, hf => by omega
 | j + 1, i, fuel + 1, hij, hf => by
  simp only [octets_Get.l1]
  rw [show decide ((i : Int) < (n : Int)) = true by simp; omega]
  simp only [cond_true]
  have hlen : i < (L r).length := by rw [L_length]; omega
  have hidx : idxS r i = some (((L r)[i].toNat : Nat) : Int) := by
   unfold idxS
   rw [if_pos (by omega)]
   have : (r.data[(i : Int).toNat]?) = some (L r)[i] := by
    rw [← Array.getElem?_toList]
    exact List.getElem?_eq_getElem hlen
   rw [this]; rfl
  rw [hidx, Option.bind_some]
  have ht : (L r).take (i + 1) = (L r).take i ++ [(L r)[i]] := by rw [List.take_append_getElem]
  have hb := beV_lt ((L r).take i)
  rw [List.length_take, Nat.min_eq_left (by omega)] at hb
  have hp : 256 ^ i ≤ 256 ^ 7 := Nat.pow_le_pow_right (by decide) (by omega)
  have h7 : (256 : Nat) ^ 7 = 72057594037927936 := by decide
  have hc := (L r)[i].toNat_lt
  have hval : beV ((L r).take (i + 1)) = beV ((L r).take i) * 256 + (L r)[i].toNat := by
   rw [ht]
   show List.foldl _ 0 (_ ++ _) = _
   rw [List.foldl_append]
   rfl
  have hstep := mul_or (a := beV ((L r).take i)) (c := (L r)[i].toNat) (by omega) (by omega)
  rw [← hval] at hstep
  rw [hstep, i64_id (by omega)]
  have := get_loop r n hn hr j (i + 1) fuel (by omega) (by omega)
  exact this
theorem part_in (s : ByteArray) (o n : Nat) (h : o + n ≤ s.size) (hs : s.size ≤ 140737488351232) : octets_part.f s o n = some (s.extract o (o + n), none) := by
 simp only [octets_part.f]
 rw [show ((decide ((o : Int) < 0)) || (decide ((n : Int) < 0))) = false by simp]
 simp only [cond_false]
 rw [i64_id (by omega), i64_id (by omega)]
 rw [show ((decide ((o : Int) > (s.size : Int))) || (decide ((n : Int) > (s.size : Int) - (o : Int)))) = false by simp; omega]
 simp only [cond_false]
 rw [sliceS_eq (by omega)]
 rfl
theorem part_out (s : ByteArray) (o n : Nat) (h : s.size < o + n) (hs : s.size ≤ 140737488351232) : octets_part.f s o n = some ((⟨#[]⟩ : ByteArray), some ((o : Int), 10)) := by
 simp only [octets_part.f]
 rw [show ((decide ((o : Int) < 0)) || (decide ((n : Int) < 0))) = false by simp]
 simp only [cond_false]
 by_cases ho : s.size < o
 ·rw [show decide ((o : Int) > (s.size : Int)) = true by simp; omega]
  rfl
 ·rw [i64_id (by omega)]
  rw [show ((decide ((o : Int) > (s.size : Int))) || (decide ((n : Int) > (s.size : Int) - (o : Int)))) = true by simp; omega]
  rfl
theorem get_in (s : ByteArray) (o n : Nat) (hn : 1 ≤ n ∧ n ≤ 8) (h : o + n ≤ s.size) (hs : s.size ≤ 140737488351232) : octets_Get.f 2000 s o n = some (((beV (((L s).drop o).take n) : Nat) : Int), 0) := by
 simp only [octets_Get.f]
 rw [show ((decide ((n : Int) < 1)) || (decide ((n : Int) > 8))) = false by simp; omega]
 simp only [cond_false]
 rw [part_in s o n h hs, Option.bind_some]
 have e : L (s.extract o (o + n)) = ((L s).drop o).take n := by rw [L_extract]; congr 1; omega
 have hz : (s.extract o (o + n)).size = n := by rw [← L_length, e]; simp [L_length]; omega
 have := get_loop (s.extract o (o + n)) n (by omega) hz n 0 2000 (by omega) (by omega)
 rw [e] at this
 exact this
theorem get_out (s : ByteArray) (o n : Nat) (hn : 1 ≤ n ∧ n ≤ 8) (h : s.size < o + n) (hs : s.size ≤ 140737488351232) : octets_Get.f 2000 s o n = some (0, 10) := by
 simp only [octets_Get.f]
 rw [show ((decide ((n : Int) < 1)) || (decide ((n : Int) > 8))) = false by simp; omega]
 simp only [cond_false]
 rw [part_out s o n h hs, Option.bind_some]
 rfl
def tag0 : api_Tag := ⟨false, 0, false, 0⟩
def frame0 : api_Frame := ⟨0, 0, tag0, 0, ⟨#[]⟩⟩
structure Good (a : api_Frame) : Prop where
 dst : 0 ≤ a.Dst ∧ a.Dst < 281474976710656
 src : 0 ≤ a.Src ∧ a.Src < 281474976710656
 bare : a.Tag.Has = false → a.Tag = tag0
 tag : a.Tag.Has = true → 0 ≤ a.Tag.Pri ∧ a.Tag.Pri < 8 ∧ 0 ≤ a.Tag.Vid ∧ a.Tag.Vid < 4096
 type : (a.Type_ = 0 ∧ a.Body.size ≤ 1500) ∨ (1536 ≤ a.Type_ ∧ a.Type_ ≤ 65535 ∧ a.Type_ ≠ 33024)
 size : 14 + a.Body.size + (if a.Tag.Has then 4 else 0) ≤ 1600
theorem size_spec (a : api_Frame) (hb : a.Body.size ≤ 140737488351232) : ether_size.f a = some (((14 + a.Body.size + (if a.Tag.Has then 4 else 0) : Nat) : Int)) := by
 unfold ether_size.f ether_size.k1
 rw [i64_id (n := 14 + (a.Body.size : Int)) (by omega), i64_id (by omega)]
 cases a.Tag.Has <;> simp <;> omega
theorem tag_spec (t : api_Tag) : ∃ b, ether_tag.f t = some b ∧ (b = true ↔ ((t.Has = false → t = tag0) ∧ (t.Has = true → 0 ≤ t.Pri ∧ t.Pri < 8 ∧ 0 ≤ t.Vid ∧ t.Vid < 4096))) := by
 obtain ⟨h, p, d, v⟩ := t
 unfold ether_tag.f
 cases h
 ·refine ⟨_, rfl, ?_⟩
  simp [tag0]
 ·refine ⟨_, rfl, ?_⟩
  simp [and_assoc]
theorem check_spec (a : api_Frame) (h1 : 0 ≤ a.Dst) (h2 : 0 ≤ a.Src) (hb : a.Body.size ≤ 140737488351232) : ∃ c, ether_Check.f a = some c ∧ (c = 0 ↔ Good a) := by
 have hk1 : ∃ c, ether_Check.k1 a true = some c ∧ c ≠ 0 := ⟨41, rfl, by decide⟩
 have hk2 : ether_Check.k2 a true = ether_Check.k1 a true := rfl
 unfold ether_Check.f
 by_cases hd : a.Dst < 281474976710656 ∧ a.Src < 281474976710656
 ·rw [show ((decide (a.Dst ≥ 281474976710656)) || (decide (a.Src ≥ 281474976710656))) = false by simp; omega]
  simp only [cond_false]
  obtain ⟨b, hb1, hb2⟩ := tag_spec a.Tag
  rw [hb1, Option.bind_some]
  cases b
  ·refine ⟨41, rfl, ⟨fun h => (by cases h), fun g => ?_⟩⟩
   have := hb2.2 ⟨g.bare, g.tag⟩
   cases this
  ·have ht := hb2.1 rfl
   simp only [Bool.not_true, ether_Check.k2, cond_false]
   by_cases hty : a.Type_ = 0 ∨ (1536 ≤ a.Type_ ∧ a.Type_ ≤ 65535 ∧ a.Type_ ≠ 33024)
   ·rw [show ((a.Type_ != 0) && (!(((decide (a.Type_ ≥ 1536)) && (decide (a.Type_ ≤ 65535))) && (a.Type_ != 33024)))) = false by
     rcases hty with h | ⟨x, y, z⟩
     ·simp [h]
     ·simp [x, y, z]]
    simp only [ether_Check.k1, cond_false]
    by_cases hs : a.Type_ = 0 ∧ 1500 < a.Body.size
    ·rw [show ((a.Type_ == 0) && (decide ((a.Body.size : Int) > 1500))) = true by simp [hs.1]; omega]
     refine ⟨40, rfl, ⟨fun h => (by cases h), fun g => ?_⟩⟩
     rcases g.type with h | h <;> omega
    ·rw [show ((a.Type_ == 0) && (decide ((a.Body.size : Int) > 1500))) = false by simp; omega]
     simp only [cond_false]
     rw [size_spec a hb, Option.bind_some]
     by_cases hz : 14 + a.Body.size + (if a.Tag.Has then 4 else 0) ≤ 1600
     ·rw [show decide ((((14 + a.Body.size + (if a.Tag.Has then 4 else 0) : Nat) : Int)) > 1600) = false by simp only [decide_eq_false_iff_not]; omega]
      refine ⟨0, rfl, ⟨fun _ => ⟨⟨h1, hd.1⟩, ⟨h2, hd.2⟩, ht.1, ht.2, ?_, hz⟩, fun _ => rfl⟩⟩
      rcases hty with h | h
      ·exact .inl ⟨h, by omega⟩
      ·exact .inr h
     ·rw [show decide ((((14 + a.Body.size + (if a.Tag.Has then 4 else 0) : Nat) : Int)) > 1600) = true by simp only [decide_eq_true_eq]; omega]
      exact ⟨41, rfl, ⟨fun h => (by cases h), fun g => absurd g.size hz⟩⟩
   ·rw [show ((a.Type_ != 0) && (!(((decide (a.Type_ ≥ 1536)) && (decide (a.Type_ ≤ 65535))) && (a.Type_ != 33024)))) = true by
     simp; omega]
    refine ⟨41, rfl, ⟨fun h => (by cases h), fun g => ?_⟩⟩
    rcases g.type with h | h <;> omega
 ·rw [show ((decide (a.Dst ≥ 281474976710656)) || (decide (a.Src ≥ 281474976710656))) = true by simp; omega]
  refine ⟨41, rfl, ⟨fun h => (by cases h), fun g => ?_⟩⟩
  exact absurd ⟨g.dst.2, g.src.2⟩ hd
def infoN (t : api_Tag) : Nat := t.Pri.toNat * 8192 + ((if t.Dei then 4096 else 0) + t.Vid.toNat)
def tagL (t : api_Tag) : List UInt8 := if t.Has then beL 2 33024 ++ beL 2 (infoN t) else []
def typeN (a : api_Frame) : Nat := if a.Type_ = 0 then a.Body.size else a.Type_.toNat
def frameL (a : api_Frame) : List UInt8 := beL 6 a.Dst.toNat ++ (beL 6 a.Src.toNat ++ (tagL a.Tag ++ (beL 2 (typeN a) ++ L a.Body)))
theorem eput (v wi : Int) (w : Nat) (hwi : wi = (w : Int)) (hw : 1 ≤ w ∧ w ≤ 8) (h0 : 0 ≤ v) (hv : v < ((256 ^ w : Nat) : Int)) (hv2 : v < 18446744073709551616) : ether_put.f 2000 v wi = some (be w v.toNat) := by
 subst hwi
 have : v = ((v.toNat : Nat) : Int) := by omega
 unfold ether_put.f
 have h := put_spec v.toNat w hw (by omega) (by omega)
 rw [← this] at h
 rw [h]
 rfl
theorem info_spec (t : api_Tag) (h : 0 ≤ t.Pri ∧ t.Pri < 8 ∧ 0 ≤ t.Vid ∧ t.Vid < 4096) : ether_info.f t = some ((infoN t : Nat) : Int) ∧ infoN t < 65536 := by
 obtain ⟨ha, p, d, v⟩ := t
 obtain ⟨p, rfl⟩ : ∃ n : Nat, p = n := ⟨p.toNat, by simp only at h; omega⟩
 obtain ⟨v, rfl⟩ : ∃ n : Nat, v = n := ⟨v.toNat, by simp only at h; omega⟩
 simp only at h
 have e1 : bOr .i64 (i64 ((p : Int) * 8192)) (v : Int) = ((p * 8192 + v : Nat) : Int) := by
  rw [i64_id (by omega)]
  have e : ((p : Int) * 8192) = ((p * 8192 : Nat) : Int) := by omega
  rw [e, bOr_i64 (show p * 8192 < 2 ^ 63 by omega) (show v < 2 ^ 63 by omega)]
  have h4 := or_add 13 (x := p) (y := v) (by omega)
  rw [show (2 : Nat) ^ 13 = 8192 from rfl] at h4
  rw [h4]
 unfold ether_info.f
 cases d
 ·simp only [cond_false, e1, ether_info.k1]
  rw [u64_id (by omega)]
  simp only [infoN]
  refine ⟨by simp, by simp; omega⟩
 ·simp only [cond_true, e1, ether_info.k1]
  have e2 : bOr .i64 ((p * 8192 + v : Nat) : Int) 4096 = ((p * 8192 + (4096 + v) : Nat) : Int) := by
   have h1 := bOr_i64 (show p * 8192 + v < 2 ^ 63 by omega) (show 4096 < 2 ^ 63 by decide)
   rw [show ((4096 : Nat) : Int) = 4096 from rfl] at h1
   rw [h1]
   have a1 := or_add 13 (x := p) (y := v) (by omega)
   have a2 := or_add 12 (x := 1) (y := v) (by omega)
   have a3 := or_add 13 (x := p) (y := 4096 + v) (by omega)
   rw [show (2 : Nat) ^ 13 = 8192 from rfl] at a1 a3
   rw [show 1 * (2 : Nat) ^ 12 = 4096 from rfl] at a2
   rw [← a1, Nat.or_assoc, Nat.or_comm v 4096, a2, a3]
  rw [e2, u64_id (by omega)]
  simp only [infoN]
  refine ⟨by simp, by simp; omega⟩
theorem build_good (a : api_Frame) (g : Good a) : ether_Build.f 2000 a = some (⟨(frameL a).toArray⟩, 0) := by
 have hbs : a.Body.size ≤ 1600 := by have := g.size; omega
 obtain ⟨c, hc, hc0⟩ := check_spec a g.dst.1 g.src.1 (by omega)
 have : c = 0 := hc0.2 g
 subst this
 unfold ether_Build.f
 rw [hc, Option.bind_some]
 rw [show ((0 : Int) != 0) = false from rfl]
 simp only [cond_false]
 rw [eput a.Dst 6 6 rfl (by omega) g.dst.1 (by have := g.dst.2; simpa using this) (by have := g.dst.2; omega), Option.bind_some]
 rw [eput a.Src 6 6 rfl (by omega) g.src.1 (by have := g.src.2; simpa using this) (by have := g.src.2; omega), Option.bind_some]
 rw [catS_eq (by simp [be_size]), Option.bind_some]
 -- the rest, behind the tag
 have k1 : ∀ (x : ByteArray) (z : Int), x.size ≤ 100 → z = ((typeN a : Nat) : Int) → ether_Build.k1 2000 x a z = some (⟨(L x ++ (beL 2 (typeN a) ++ L a.Body)).toArray⟩, 0) := fun x z hx hz => by
  have hz2 : z < 65536 := by
   rw [hz]
   rcases g.type with h | h
   ·simp only [typeN, h.1, if_true]; omega
   ·simp only [typeN]; rw [if_neg (by omega)]; omega
  unfold ether_Build.k1
  rw [u64_id (by omega), eput z 2 2 rfl (by omega) (by omega) (by simpa using hz2) (by omega), Option.bind_some]
  have e : z.toNat = typeN a := by omega
  rw [e, catS_eq (by simp [be_size]; omega), Option.bind_some, catS_eq (by simp [be_size]; omega), Option.bind_some]
  refine congrArg (fun z => some (z, (0 : Int))) (L_inj (Eq.trans ?_ (L_mk _).symm))
  rw [L_append, L_append, L_be, List.append_assoc]
 have k2 : ∀ (x : ByteArray), x.size ≤ 100 → ether_Build.k2 a 2000 x = some (⟨(L x ++ (beL 2 (typeN a) ++ L a.Body)).toArray⟩, 0) := fun x hx => by
  unfold ether_Build.k2
  by_cases ht : a.Type_ = 0
  ·rw [show (a.Type_ == 0) = true by simp [ht]]
   exact k1 x _ hx (by simp [typeN, ht])
  ·rw [show (a.Type_ == 0) = false by simp [ht]]
   refine k1 x _ hx ?_
   rcases g.type with h | h
   ·exact absurd h.1 ht
   ·simp only [typeN]; rw [if_neg ht]; omega
 cases hh : a.Tag.Has
 ·simp only [cond_false]
  rw [k2 _ (by simp [be_size])]
  refine congrArg (fun z => some (z, (0 : Int))) (L_inj (Eq.trans (L_mk _) (Eq.trans ?_ (L_mk _).symm)))
  rw [L_append, L_be, L_be]
  simp [frameL, tagL, hh]
 ·simp only [cond_true]
  obtain ⟨hi, hi2⟩ := info_spec a.Tag (g.tag hh)
  rw [eput 33024 2 2 rfl (by omega) (by omega) (by decide) (by omega), Option.bind_some, hi, Option.bind_some, eput _ 2 2 rfl (by omega) (by omega) (Int.ofNat_lt.2 (by simpa using hi2)) (by omega), Option.bind_some]
  rw [catS_eq (by simp [be_size]), Option.bind_some, catS_eq (by simp [be_size]), Option.bind_some, k2 _ (by simp [be_size])]
  refine congrArg (fun z => some (z, (0 : Int))) (L_inj (Eq.trans (L_mk _) (Eq.trans ?_ (L_mk _).symm)))
  rw [L_append, L_append, L_append, L_be, L_be, L_be, L_be]
  simp [frameL, tagL, hh]
theorem build_bad (a : api_Frame) (h1 : 0 ≤ a.Dst) (h2 : 0 ≤ a.Src) (hb : a.Body.size ≤ 140737488351232) (g : ¬ Good a) : ∃ c, c ≠ 0 ∧ ether_Check.f a = some c ∧ ether_Build.f 2000 a = some (⟨#[]⟩, c) := by
 obtain ⟨c, hc, hc0⟩ := check_spec a h1 h2 hb
 have hne : c ≠ 0 := fun h => g (hc0.1 h)
 refine ⟨c, hne, hc, ?_⟩
 unfold ether_Build.f
 rw [hc, Option.bind_some, show (c != 0) = true by simp [hne]]
 rfl
theorem rget_in (s : ByteArray) (o n : Nat) (oi ni : Int) (ho : oi = o) (hni : ni = n) (nm : ByteArray) (hn : 1 ≤ n ∧ n ≤ 8) (h : o + n ≤ s.size) (hs : s.size ≤ 1600) :
  ether_reader_get.f 2000 ⟨s, oi⟩ ni nm = some (((beV (((L s).drop o).take n) : Nat) : Int), none, ⟨s, ((o + n : Nat) : Int)⟩) := by
 subst ho; subst hni
 unfold ether_reader_get.f
 simp only
 rw [get_in s o n hn h (by omega), Option.bind_some]
 simp only [bne_self_eq_false, cond_false]
 rw [i64_id (by omega)]
 rfl
theorem rget_out (s : ByteArray) (o n : Nat) (oi ni : Int) (ho : oi = o) (hni : ni = n) (nm : ByteArray) (hn : 1 ≤ n ∧ n ≤ 8) (h : s.size < o + n) (hs : s.size ≤ 1600) :
  ether_reader_get.f 2000 ⟨s, oi⟩ ni nm = some (0, some (nm, 40), ⟨s, oi⟩) := by
 subst ho; subst hni
 unfold ether_reader_get.f
 simp only
 rw [get_out s o n hn h (by omega), Option.bind_some]
 rfl
def ends (x : api_Frame × Un1 × ether_reader) : api_Frame × Int := match x.2.1 with
 | none => (x.1, 0)
 | some (_, e) => (frame0, e)
theorem parse_of (s : ByteArray) (hs : s.size ≤ 1600) (x : api_Frame × Un1 × ether_reader) (h : ether_reader_frame.f 2000 ⟨s, 0⟩ = some x) : ether_Parse.f 2000 s = some (ends x) := by
 unfold ether_Parse.f
 rw [show decide ((s.size : Int) > 1600) = false by simp; omega]
 simp only [cond_false]
 rw [h, Option.bind_some]
 obtain ⟨g, u, r⟩ := x
 rcases u with _ | ⟨q, e⟩
 ·rfl
 ·simp only [ends]
  by_cases he : e = 40
  ·subst he; rfl
  ·have h1 : errors_Is_1.f q e 40 = some false := by
    unfold errors_Is_1.f errors_is.f ether_odd_Unwrap.f
    rw [Option.bind_some]
    rw [show (true && (e == 40)) = false by simp [he]]
    rfl
   rw [h1, Option.bind_some]
   rfl
def bodyR (s : ByteArray) (p : Nat) (a : api_Frame) (n : Nat) : api_Frame × Int :=
 if n = 33024 ∨ (1500 < n ∧ n < 1536) then (frame0, 41)
 else if 1500 < n then (⟨a.Dst, a.Src, a.Tag, n, s.extract p s.size⟩, 0)
 else if s.size < p + n then (frame0, 40)
 else (⟨a.Dst, a.Src, a.Tag, a.Type_, (s.extract p s.size).extract 0 n⟩, 0)
theorem body_spec (s : ByteArray) (p n : Nat) (pi ni : Int) (hpi : pi = p) (hni : ni = n) (a : api_Frame) (hp : p ≤ s.size) (hs : s.size ≤ 1600) (r : ether_reader) :
  ∃ u g, ether_reader_body.f ⟨s, pi⟩ a ni = some (u, g) ∧ ends (g, u, r) = bodyR s p a n := by
 subst hpi; subst hni
 unfold ether_reader_body.f
 simp only
 rw [sliceS_eq (by omega), Option.bind_some]
 simp only [Int.toNat_natCast]
 have hz : (s.extract p s.size).size = s.size - p := by simp
 by_cases h1 : n = 33024
 ·subst h1
  refine ⟨_, _, rfl, ?_⟩
  simp [ends, bodyR]
 ·rw [show (((n : Int)) == 33024) = false by simp; omega]
  simp only [cond_false]
  by_cases h2 : 1500 < n ∧ n < 1536
  ·rw [show ((decide ((n : Int) > 1500)) && (decide ((n : Int) < 1536))) = true by simp; omega]
   refine ⟨_, _, rfl, ?_⟩
   simp [ends, bodyR, h2]
  ·rw [show ((decide ((n : Int) > 1500)) && (decide ((n : Int) < 1536))) = false by simp; omega]
   simp only [ether_reader_body.k1, cond_false]
   by_cases h3 : 1500 < n
   ·rw [show decide ((n : Int) > 1500) = true by simp; omega]
    refine ⟨_, _, rfl, ?_⟩
    simp only [ends, bodyR]
    rw [if_neg (by omega), if_pos h3]
   ·rw [show decide ((n : Int) > 1500) = false by simp; omega]
    simp only [cond_false]
    by_cases h4 : s.size < p + n
    ·rw [show decide ((n : Int) > ((s.extract p s.size).size : Int)) = true by rw [hz]; simp; omega]
     refine ⟨_, _, rfl, ?_⟩
     simp only [ends, bodyR]
     rw [if_neg (by omega), if_neg h3, if_pos h4]
    ·rw [show decide ((n : Int) > ((s.extract p s.size).size : Int)) = false by rw [hz]; simp; omega]
     simp only [cond_false]
     rw [sliceS_eq (by rw [hz]; omega), Option.bind_some]
     refine ⟨_, _, rfl, ?_⟩
     simp only [ends, bodyR]
     rw [if_neg (by omega), if_neg h3, if_neg h4]
     rfl
theorem k1_spec (s : ByteArray) (p n : Nat) (pi ni d e : Int) (hpi : pi = p) (hni : ni = n) (t : api_Tag) (hp : p ≤ s.size) (hs : s.size ≤ 1600) :
  ∃ x, ether_reader_frame.k1 none ni s pi d e t.Has t.Pri t.Dei t.Vid 0 ⟨#[]⟩ = some x ∧ ends x = bodyR s p ⟨d, e, t, 0, ⟨#[]⟩⟩ n := by
 obtain ⟨u, g, h, he⟩ := body_spec s p n pi ni hpi hni ⟨d, e, t, 0, ⟨#[]⟩⟩ hp hs ⟨s, pi⟩
 unfold ether_reader_frame.k1
 simp only
 rw [h, Option.bind_some]
 rcases u with _ | ⟨q, w⟩
 ·exact ⟨_, rfl, he⟩
 ·exact ⟨_, rfl, he⟩
def at2 (s : ByteArray) (o n : Nat) : Nat := beV (((L s).drop o).take n)
def tagOf (v : Nat) : api_Tag := ⟨true, ((v / 8192 : Nat) : Int), decide (v / 4096 % 2 = 1), ((v % 4096 : Nat) : Int)⟩
def parseR (s : ByteArray) : api_Frame × Int :=
 if 1600 < s.size then (frame0, 41)
 else if s.size < 14 then (frame0, 40)
 else if at2 s 12 2 = 33024 then
  (if s.size < 18 then (frame0, 40) else bodyR s 18 ⟨(at2 s 0 6 : Nat), (at2 s 6 6 : Nat), tagOf (at2 s 14 2), 0, ⟨#[]⟩⟩ (at2 s 16 2))
 else bodyR s 14 ⟨(at2 s 0 6 : Nat), (at2 s 6 6 : Nat), tag0, 0, ⟨#[]⟩⟩ (at2 s 12 2)
theorem at2_lt (s : ByteArray) (o n : Nat) : at2 s o n < 256 ^ n := by
 refine Nat.lt_of_lt_of_le (beV_lt _) (Nat.pow_le_pow_right (by decide) ?_)
 rw [List.length_take]; omega
theorem tagOf_spec (v : Nat) (hv : v < 65536) : (⟨true, Int.fdiv (i64 (v : Int)) 8192, (bAnd .i64 (i64 (v : Int)) 4096) != 0, Int.tmod (i64 (v : Int)) 4096⟩ : api_Tag) = tagOf v := by
 rw [i64_id (by omega), bAnd_4096 (by omega)]
 unfold tagOf
 have e1 : Int.fdiv (v : Int) 8192 = ((v / 8192 : Nat) : Int) := by
  rw [Int.fdiv_eq_ediv_of_nonneg _ (by decide)]; omega
 have e2 : Int.tmod (v : Int) 4096 = ((v % 4096 : Nat) : Int) := by
  rw [Int.tmod_eq_emod_of_nonneg (by omega)]; omega
 have e3 : ((((v / 4096 % 2) * 4096 : Nat) : Int) != 0) = decide (v / 4096 % 2 = 1) := by
  rcases Nat.mod_two_eq_zero_or_one (v / 4096) with h | h <;> simp [h]
 rw [e1, e2, e3]
theorem parse_spec (s : ByteArray) : ether_Parse.f 2000 s = some (parseR s) := by
 by_cases hs : 1600 < s.size
 ·unfold ether_Parse.f parseR
  rw [if_pos hs, show decide ((s.size : Int) > 1600) = true by simp; omega]
  rfl
 ·have hs' : s.size ≤ 1600 := by omega
  suffices h : ∃ x, ether_reader_frame.f 2000 ⟨s, 0⟩ = some x ∧ ends x = parseR s by
   obtain ⟨x, h1, h2⟩ := h
   rw [parse_of s hs' x h1, h2]
  unfold ether_reader_frame.f
  by_cases h6 : s.size < 6
  ·rw [rget_out s 0 6 0 6 rfl rfl _ (by omega) (by omega) hs', Option.bind_some]
   refine ⟨_, rfl, ?_⟩
   simp only [ends, parseR]
   rw [if_neg hs, if_pos (by omega)]
  ·rw [rget_in s 0 6 0 6 rfl rfl _ (by omega) (by omega) hs', Option.bind_some]
   simp only
   by_cases h12 : s.size < 12
   ·rw [rget_out s 6 6 _ 6 rfl rfl _ (by omega) (by omega) hs', Option.bind_some]
    refine ⟨_, rfl, ?_⟩
    simp only [ends, parseR]
    rw [if_neg hs, if_pos (by omega)]
   ·rw [rget_in s 6 6 _ 6 rfl rfl _ (by omega) (by omega) hs', Option.bind_some]
    simp only
    by_cases h14 : s.size < 14
    ·rw [rget_out s 12 2 _ 2 rfl rfl _ (by omega) (by omega) hs', Option.bind_some]
     refine ⟨_, rfl, ?_⟩
     simp only [ends, parseR]
     rw [if_neg hs, if_pos h14]
    ·rw [rget_in s 12 2 _ 2 rfl rfl _ (by omega) (by omega) hs', Option.bind_some]
     simp only
     have h2 := at2_lt s 12 2
     have hi : i64 ((beV (((L s).drop 12).take 2) : Nat) : Int) = ((at2 s 12 2 : Nat) : Int) := i64_id (by unfold at2 at h2; omega)
     rw [hi]
     unfold parseR
     rw [if_neg hs, if_neg h14]
     by_cases h81 : at2 s 12 2 = 33024
     ·rw [if_pos h81, h81, show (((33024 : Nat) : Int) == 33024) = true from rfl]
      simp only [cond_true]
      unfold ether_reader_tagged.f
      by_cases h16 : s.size < 16
      ·rw [rget_out s 14 2 _ 2 rfl rfl _ (by omega) (by omega) hs', Option.bind_some]
       refine ⟨_, rfl, ?_⟩
       rw [if_pos (by omega)]
       rfl
      ·rw [rget_in s 14 2 _ 2 rfl rfl _ (by omega) (by omega) hs', Option.bind_some]
       simp only
       by_cases h18 : s.size < 18
       ·rw [rget_out s 16 2 _ 2 rfl rfl _ (by omega) (by omega) hs', Option.bind_some]
        refine ⟨_, rfl, ?_⟩
        rw [if_pos h18]
        rfl
       ·rw [rget_in s 16 2 _ 2 rfl rfl _ (by omega) (by omega) hs', Option.bind_some, if_neg h18]
        simp only [Option.bind_some]
        have ht := tagOf_spec (at2 s 14 2) (at2_lt s 14 2)
        have e16 := at2_lt s 16 2
        rw [← ht]
        exact k1_spec s 18 (at2 s 16 2) _ _ _ _ rfl (i64_id (by omega)) (⟨true, Int.fdiv (i64 ((at2 s 14 2 : Nat) : Int)) 8192, (bAnd .i64 (i64 ((at2 s 14 2 : Nat) : Int)) 4096) != 0, Int.tmod (i64 ((at2 s 14 2 : Nat) : Int)) 4096⟩ : api_Tag) (by omega) hs'
     ·rw [if_neg h81, show ((((at2 s 12 2 : Nat) : Int)) == 33024) = false by simp; omega]
      simp only [cond_false]
      exact k1_spec s 14 (at2 s 12 2) _ _ _ _ rfl rfl tag0 (by omega) hs'
theorem at2_app (s : ByteArray) (o n v : Nat) (pre post : List UInt8) (h : L s = pre ++ (beL n v ++ post)) (hp : pre.length = o) (hv : v < 256 ^ n) : at2 s o n = v := by
 unfold at2
 rw [h, ← hp, List.drop_left, List.take_append_of_le_length (by rw [beL_length]; exact Nat.le_refl _), List.take_of_length_le (by rw [beL_length]; exact Nat.le_refl _), beV_beL, Nat.mod_eq_of_lt hv]
def more (g : api_Frame) (rest : List UInt8) : api_Frame := ⟨g.Dst, g.Src, g.Tag, g.Type_, if g.Type_ = 0 then g.Body else ⟨(L g.Body ++ rest).toArray⟩⟩
theorem L_drop (s : ByteArray) (p : Nat) : L (s.extract p s.size) = (L s).drop p := by
 rw [L_extract, List.take_of_length_le (by rw [List.length_drop, L_length]; exact Nat.le_refl _)]
theorem frame_eq {d e t t' : Int} {g : api_Tag} {b b' : ByteArray} (ht : t = t') (hb : L b = L b') : ((⟨d, e, g, t, b⟩ : api_Frame), (0 : Int)) = (⟨d, e, g, t', b'⟩, 0) := by
 subst ht
 rw [L_inj hb]
theorem bodyR_app (s : ByteArray) (p : Nat) (g : api_Frame) (hg : Good g) (rest : List UInt8) (h : (L s).drop p = L g.Body ++ rest) (hp : p ≤ s.size) : bodyR s p ⟨g.Dst, g.Src, g.Tag, 0, ⟨#[]⟩⟩ (typeN g) = (more g rest, 0) := by
 have hl := congrArg List.length h
 rw [List.length_drop, L_length, List.length_append, L_length] at hl
 unfold bodyR typeN more
 rcases hg.type with ht | ht
 ·rw [if_pos ht.1, if_neg (by omega), if_neg (by omega), if_neg (by omega), if_pos ht.1]
  refine frame_eq ht.1.symm ?_
  show L (ByteArray.extract _ 0 g.Body.size) = _
  rw [L_extract, L_drop, h, List.drop_zero, Nat.sub_zero, ← L_length, List.take_left]
 ·have hne : g.Type_ ≠ 0 := by omega
  simp only [if_neg hne]
  rw [if_neg (by omega), if_pos (by omega)]
  refine frame_eq ?_ ?_
  ·show ((g.Type_.toNat : Nat) : Int) = g.Type_
   omega
  ·show L (ByteArray.extract _ _ _) = L _
   rw [L_drop, h]
   rfl
theorem parse_build (g : api_Frame) (hg : Good g) (s : ByteArray) (rest : List UInt8) (h : L s = frameL g ++ rest) (hs : s.size ≤ 1600) : parseR s = (more g rest, 0) := by
 have hl := congrArg List.length h
 have hd := hg.dst
 have hsr := hg.src
 have e256 : (256 : Nat) ^ 6 = 281474976710656 := by decide
 have e2562 : (256 : Nat) ^ 2 = 65536 := by decide
 have hty : typeN g < 65536 := by
  unfold typeN
  rcases hg.type with ht | ht
  ·rw [if_pos ht.1]; omega
  ·rw [if_neg (by omega)]; omega
 have h0 : L s = [] ++ (beL 6 g.Dst.toNat ++ (beL 6 g.Src.toNat ++ (tagL g.Tag ++ (beL 2 (typeN g) ++ L g.Body)) ++ rest)) := by rw [h]; simp [frameL]
 have a0 := at2_app s 0 6 g.Dst.toNat [] _ h0 rfl (by omega)
 have h6 : L s = beL 6 g.Dst.toNat ++ (beL 6 g.Src.toNat ++ (tagL g.Tag ++ (beL 2 (typeN g) ++ L g.Body) ++ rest)) := by rw [h]; simp [frameL]
 have a6 := at2_app s 6 6 g.Src.toNat _ _ h6 (by rw [beL_length]) (by omega)
 rw [L_length, List.length_append] at hl
 unfold parseR
 rw [if_neg (by omega)]
 cases hh : g.Tag.Has
 ·have hfl : (frameL g).length = 14 + g.Body.size := by simp [frameL, tagL, hh, beL_length, L_length]; omega
  have h12 : L s = (beL 6 g.Dst.toNat ++ beL 6 g.Src.toNat) ++ (beL 2 (typeN g) ++ (L g.Body ++ rest)) := by rw [h]; simp [frameL, tagL, hh]
  have a12 := at2_app s 12 2 (typeN g) _ _ h12 (by simp [beL_length]) (by omega)
  have h14 : (L s).drop 14 = L g.Body ++ rest := by
   rw [h12, ← List.append_assoc]
   rw [show 14 = (beL 6 g.Dst.toNat ++ beL 6 g.Src.toNat ++ beL 2 (typeN g)).length by simp [beL_length], List.drop_left]
  rw [if_neg (by omega), a12, if_neg (by
   unfold typeN
   rcases hg.type with ht | ht
   ·rw [if_pos ht.1]; omega
   ·rw [if_neg (by omega)]; omega), a0, a6]
  have e1 : ((g.Dst.toNat : Nat) : Int) = g.Dst := by omega
  have e2 : ((g.Src.toNat : Nat) : Int) = g.Src := by omega
  rw [e1, e2, ← hg.bare hh]
  exact bodyR_app s 14 g hg rest h14 (by omega)
 ·have hfl : (frameL g).length = 18 + g.Body.size := by simp [frameL, tagL, hh, beL_length, L_length]; omega
  obtain ⟨_, hi⟩ := info_spec g.Tag (hg.tag hh)
  have hti := hg.tag hh
  have h12 : L s = (beL 6 g.Dst.toNat ++ beL 6 g.Src.toNat) ++ (beL 2 33024 ++ (beL 2 (infoN g.Tag) ++ (beL 2 (typeN g) ++ (L g.Body ++ rest)))) := by rw [h]; simp [frameL, tagL, hh]
  have a12 := at2_app s 12 2 33024 _ _ h12 (by simp [beL_length]) (by omega)
  have h14 : L s = (beL 6 g.Dst.toNat ++ beL 6 g.Src.toNat ++ beL 2 33024) ++ (beL 2 (infoN g.Tag) ++ (beL 2 (typeN g) ++ (L g.Body ++ rest))) := by rw [h]; simp [frameL, tagL, hh]
  have a14 := at2_app s 14 2 (infoN g.Tag) _ _ h14 (by simp [beL_length]) (by omega)
  have h16 : L s = (beL 6 g.Dst.toNat ++ beL 6 g.Src.toNat ++ beL 2 33024 ++ beL 2 (infoN g.Tag)) ++ (beL 2 (typeN g) ++ (L g.Body ++ rest)) := by rw [h]; simp [frameL, tagL, hh]
  have a16 := at2_app s 16 2 (typeN g) _ _ h16 (by simp [beL_length]) (by omega)
  have h18 : (L s).drop 18 = L g.Body ++ rest := by
   rw [h16, ← List.append_assoc]
   rw [show 18 = (beL 6 g.Dst.toNat ++ beL 6 g.Src.toNat ++ beL 2 33024 ++ beL 2 (infoN g.Tag) ++ beL 2 (typeN g)).length by simp [beL_length], List.drop_left]
  rw [if_neg (by omega), a12, if_pos rfl, if_neg (by omega), a14, a16, a0, a6]
  have e1 : ((g.Dst.toNat : Nat) : Int) = g.Dst := by omega
  have e2 : ((g.Src.toNat : Nat) : Int) = g.Src := by omega
  have e3 : tagOf (infoN g.Tag) = g.Tag := by
   obtain ⟨D, S, ⟨th, tp, td, tv⟩, ty, bd⟩ := g
   simp only at hh hti
   subst hh
   simp only [tagOf, infoN]
   cases td
   ·simp only [Bool.false_eq_true, if_false]
    congr 1
    ·omega
    ·simp; omega
    ·omega
   ·simp only [if_true]
    congr 1
    ·omega
    ·simp; omega
    ·omega
  rw [e1, e2, e3]
  exact bodyR_app s 18 g hg rest h18 (by omega)
theorem cut_spec (s : ByteArray) (m : Nat) : ∃ t, sliceS s 0 (imin (s.size : Int) m) = some t ∧ t.size ≤ m := by
 refine ⟨s.extract 0 (imin (s.size : Int) m).toNat, sliceS_eq ?_, ?_⟩
 ·unfold imin; split <;> omega
 ·have : (s.extract 0 (imin (s.size : Int) m).toNat).size = min (imin (s.size : Int) m).toNat s.size - 0 := by simp
  rw [this]
  unfold imin; split <;> omega
theorem more_nil (g : api_Frame) : more g [] = g := by
 unfold more
 split
 ·rfl
 ·have : (⟨(L g.Body ++ []).toArray⟩ : ByteArray) = g.Body := L_inj (by rw [L_mk, List.append_nil])
  rw [this]
theorem frameL_len (g : api_Frame) : (frameL g).length = 14 + g.Body.size + (if g.Tag.Has then 4 else 0) := by
 simp only [frameL, List.length_append, beL_length, L_length, tagL]
 split <;> simp [beL_length] <;> omega
theorem mk_size (l : List UInt8) : (⟨l.toArray⟩ : ByteArray).size = l.length := by simp [ByteArray.size]
theorem idx_L (r : ByteArray) (i : Nat) (h : i < (L r).length) : idxS r (i : Int) = some (((L r)[i].toNat : Nat) : Int) := by
 unfold idxS
 rw [if_pos (by omega)]
 have : (r.data[(i : Int).toNat]?) = some (L r)[i] := by
  rw [← Array.getElem?_toList]
  exact List.getElem?_eq_getElem h
 rw [this]; rfl
theorem num_loop (r : ByteArray) (hn : r.size ≤ 7) : ∀ (j i fuel : Nat), i + j = r.size → j < fuel → gangwayref01_Num.l1 r fuel ((beV ((L r).take i) : Nat) : Int) i = some ((beV (L r) : Nat) : Int)
 | 0, i, 0, hij, hf => by omega
 | 0, i, fuel + 1, hij, hf => by
  simp only [gangwayref01_Num.l1]
  rw [show decide ((i : Int) < (r.size : Int)) = false by simp; omega]
  rw [List.take_of_length_le (by rw [L_length]; omega)]
  rfl
 | j + 1, i, 0, hij, hf => by omega
 | j + 1, i, fuel + 1, hij, hf => by
  simp only [gangwayref01_Num.l1]
  rw [show decide ((i : Int) < (r.size : Int)) = true by simp; omega]
  simp only [cond_true]
  have hlen : i < (L r).length := by rw [L_length]; omega
  rw [idx_L r i hlen, Option.bind_some]
  have ht : (L r).take (i + 1) = (L r).take i ++ [(L r)[i]] := by rw [List.take_append_getElem]
  have hb := beV_lt ((L r).take i)
  rw [List.length_take, Nat.min_eq_left (by omega)] at hb
  have hp : 256 ^ i ≤ 256 ^ 6 := Nat.pow_le_pow_right (by decide) (by omega)
  have h6 : (256 : Nat) ^ 6 = 281474976710656 := by decide
  have hc := (L r)[i].toNat_lt
  have hval : beV ((L r).take (i + 1)) = beV ((L r).take i) * 256 + (L r)[i].toNat := by
   rw [ht]
   show List.foldl _ 0 (_ ++ _) = _
   rw [List.foldl_append]
   rfl
  have hstep : u64 (u64 (((beV ((L r).take i) : Nat) : Int) * 256) + u64 (((L r)[i].toNat : Nat) : Int)) = ((beV ((L r).take (i + 1)) : Nat) : Int) := by
   rw [hval, u64_id (n := ((beV ((L r).take i) : Nat) : Int) * 256) (by omega), u64_id (n := (((L r)[i].toNat : Nat) : Int)) (by omega), u64_id (by omega)]
   omega
  rw [hstep, i64_id (by omega)]
  exact num_loop r hn j (i + 1) fuel (by omega) (by omega)
theorem num_spec (r : ByteArray) (hn : r.size ≤ 7) : gangwayref01_Num.f 2000 r = some ((beV (L r) : Nat) : Int) := num_loop r hn r.size 0 2000 (by omega) (by omega)
theorem ext_at (s : ByteArray) (o n : Nat) (h : o + n ≤ s.size) : beV (L (s.extract o (o + n))) = at2 s o n ∧ (s.extract o (o + n)).size = n := by
 refine ⟨?_, by simp; omega⟩
 rw [L_extract]
 unfold at2
 congr 2
 omega
theorem lt_t {i n : Nat} (h : i < n) : decide ((i : Int) < (n : Int)) = true := by simp; omega
theorem lt_f {i n : Nat} (h : n ≤ i) : decide ((i : Int) < (n : Int)) = false := by simp; omega
theorem lt_lit (n m : Nat) : decide ((m : Int) < (n : Int)) = decide (m < n) := by
 by_cases h : m < n
 ·rw [decide_eq_true h]; exact lt_t h
 ·rw [decide_eq_false h]; exact lt_f (by omega)
theorem and_pow (x n : Nat) : x &&& 2 ^ n = (x / 2 ^ n % 2) * 2 ^ n := by
 refine Nat.eq_of_testBit_eq fun i => ?_
 rw [Nat.testBit_and, Nat.testBit_two_pow, Nat.testBit_mul_two_pow]
 by_cases h : n = i
 ·subst h
  rw [Nat.testBit_eq_decide_div_mod_eq, Nat.testBit_eq_decide_div_mod_eq]
  simp
 ·by_cases h2 : n ≤ i
  ·have : (x / 2 ^ n % 2).testBit (i - n) = false := Nat.testBit_lt_two_pow (Nat.lt_of_lt_of_le (Nat.mod_lt _ (by decide)) (by
    have : 2 ^ 1 ≤ 2 ^ (i - n) := Nat.pow_le_pow_right (by decide) (by omega)
    omega))
   simp [h, this]
  ·simp [h, h2]
theorem bAnd_u64' {x y : Nat} (hx : x < 2 ^ 64) (hy : y < 2 ^ 64) : bAnd .u64 x y = ((x &&& y : Nat) : Int) := by
 have h : x &&& y < 2 ^ 64 := Nat.and_lt_two_pow x hy
 show IntKind.u64.wrap ((BitVec.ofInt 64 x &&& BitVec.ofInt 64 y).toNat : Int) = _
 rw [BitVec.toNat_and, BitVec.ofInt_natCast, BitVec.ofInt_natCast, BitVec.toNat_ofNat, BitVec.toNat_ofNat]
 rw [Nat.mod_eq_of_lt (by omega), Nat.mod_eq_of_lt (by omega)]
 exact u64_id (by omega)
def ownR (v : Nat) : Bool := (decide (0 < v) && decide (v < 281474976710656)) && (v / 1099511627776 % 2 == 0)
theorem own_spec (v : Nat) (h : v < 2 ^ 64) : addrs_Own.f (v : Int) = some (ownR v) := by
 unfold addrs_Own.f addrs_Own.k1 addrs_Group.f ownR
 have e0 : ((v : Int) != 0) = decide (0 < v) := by
  by_cases h : v = 0
  ·subst h; rfl
  ·rw [decide_eq_true (by omega)]; simp; omega
 have e1 : decide ((v : Int) < 281474976710656) = decide (v < 281474976710656) := lt_lit 281474976710656 v
 have e2 : bAnd .u64 (v : Int) 1099511627776 = (((v / 1099511627776 % 2) * 1099511627776 : Nat) : Int) := by
  have := bAnd_u64' (x := v) (y := 2 ^ 40) h (by decide)
  rw [and_pow] at this
  exact this
 rw [e0, e1, e2]
 cases (decide (0 < v) && decide (v < 281474976710656))
 ·rfl
 ·rw [cond_true, Option.bind_some]
  simp only [Bool.true_and]
  rcases Nat.mod_two_eq_zero_or_one (v / 1099511627776) with h | h <;> rw [h] <;> rfl
theorem rown_spec (v : Nat) (h : v < 2 ^ 64) : gangwayref02_Own.f (v : Int) = some (ownR v) := by
 unfold gangwayref02_Own.f gangwayref02_Own.k1 gangwayref02_Group.f ownR
 have e0 : decide ((v : Int) > 0) = decide (0 < v) := by
  by_cases h : 0 < v
  ·rw [decide_eq_true h]; simp; omega
  ·rw [decide_eq_false h]; simp; omega
 have e1 : decide ((v : Int) < 281474976710656) = decide (v < 281474976710656) := lt_lit 281474976710656 v
 have e2 : Int.tmod (u64 (Int.tdiv (v : Int) 1099511627776)) 2 = ((v / 1099511627776 % 2 : Nat) : Int) := by
  rw [show Int.tdiv (v : Int) 1099511627776 = ((v / 1099511627776 : Nat) : Int) from rfl, u64_id (by omega)]
  rfl
 rw [e0, e1, e2]
 cases (decide (0 < v) && decide (v < 281474976710656))
 ·rfl
 ·rw [cond_true, Option.bind_some]
  simp only [Bool.true_and]
  rcases Nat.mod_two_eq_zero_or_one (v / 1099511627776) with h | h <;> rw [h] <;> rfl
def arp0 : api_Arp := ⟨0, 0, 0, 0, 0⟩
def arpAt (s : ByteArray) : api_Arp := ⟨(at2 s 6 2 : Nat), (at2 s 8 6 : Nat), (at2 s 14 4 : Nat), (at2 s 18 6 : Nat), (at2 s 24 4 : Nat)⟩
def arpGood (s : ByteArray) : Bool := (s.extract 0 6 |> L) == [0, 1, 8, 0, 6, 4] && (((at2 s 6 2 == 1) || (at2 s 6 2 == 2)) && ownR (at2 s 8 6))
def arpParseR (s : ByteArray) : api_Arp × Int := if s.size < 28 then (arp0, 50) else if arpGood s then (arpAt s, 0) else (arp0, 51)
def arpR (f : api_Frame) : api_Arp × Bool := if f.Type_ = 2054 ∧ (arpParseR f.Body).2 = 0 then ((arpParseR f.Body).1, true) else (arp0, false)
theorem check_arp (s : ByteArray) : ∃ c, arp_Check.f (arpAt s) = some c ∧ (c != 0) = !(((at2 s 6 2 == 1) || (at2 s 6 2 == 2)) && ownR (at2 s 8 6)) := by
 unfold arp_Check.f arpAt
 have h1 := at2_lt s 6 2
 have h2 := at2_lt s 8 6
 have h3 := at2_lt s 18 6
 have k1 : ∀ b, ∃ c, arp_Check.k1 ⟨(at2 s 6 2 : Nat), (at2 s 8 6 : Nat), (at2 s 14 4 : Nat), (at2 s 18 6 : Nat), (at2 s 24 4 : Nat)⟩ b = some c ∧ (c != 0) = b := fun b => by
  unfold arp_Check.k1
  rw [show decide (((at2 s 18 6 : Nat) : Int) ≥ 281474976710656) = false by simp; omega, Bool.or_false]
  cases b <;> exact ⟨_, rfl, rfl⟩
 have e : ((((at2 s 6 2 : Nat) : Int) != 1) && (((at2 s 6 2 : Nat) : Int) != 2)) = !((at2 s 6 2 == 1) || (at2 s 6 2 == 2)) := by
  rw [Bool.not_or]
  congr 1
  ·by_cases h : at2 s 6 2 = 1
   ·rw [h]; rfl
   ·rw [show ((((at2 s 6 2 : Nat) : Int) != 1)) = true by simp; omega, show (at2 s 6 2 == 1) = false by simpa using h]; rfl
  ·by_cases h : at2 s 6 2 = 2
   ·rw [h]; rfl
   ·rw [show ((((at2 s 6 2 : Nat) : Int) != 2)) = true by simp; omega, show (at2 s 6 2 == 2) = false by simpa using h]; rfl
 dsimp only
 rw [e]
 cases ((at2 s 6 2 == 1) || (at2 s 6 2 == 2))
 ·exact k1 true
 ·simp only [Bool.not_true, cond_false, Bool.true_and]
  rw [own_spec _ (by omega), Option.bind_some]
  exact k1 _
theorem rcheck_arp (s : ByteArray) : ∃ c, gangwayref05_Check.f (arpAt s) = some c ∧ (c != 0) = !(((at2 s 6 2 == 1) || (at2 s 6 2 == 2)) && ownR (at2 s 8 6)) := by
 unfold gangwayref05_Check.f arpAt
 have h1 := at2_lt s 6 2
 have h2 := at2_lt s 8 6
 have h3 := at2_lt s 18 6
 have k1 : ∀ b, ∃ c, gangwayref05_Check.k1 ⟨(at2 s 6 2 : Nat), (at2 s 8 6 : Nat), (at2 s 14 4 : Nat), (at2 s 18 6 : Nat), (at2 s 24 4 : Nat)⟩ b = some c ∧ (c != 0) = b := fun b => by
  unfold gangwayref05_Check.k1
  have : Int.fdiv ((at2 s 18 6 : Nat) : Int) 281474976710656 = 0 := by
   rw [show Int.fdiv ((at2 s 18 6 : Nat) : Int) 281474976710656 = ((at2 s 18 6 / 281474976710656 : Nat) : Int) from Int.fdiv_eq_ediv_of_nonneg _ (by omega)]
   rw [Nat.div_eq_of_lt (by omega)]
   rfl
  dsimp only
  rw [this]
  cases b <;> exact ⟨_, rfl, rfl⟩
 have e : ((decide (((at2 s 6 2 : Nat) : Int) < 1)) || (decide (((at2 s 6 2 : Nat) : Int) > 2))) = !((at2 s 6 2 == 1) || (at2 s 6 2 == 2)) := by
  generalize at2 s 6 2 = n
  by_cases h : n = 1
  ·subst h; rfl
  ·by_cases h' : n = 2
   ·subst h'; rfl
   ·rw [show (n == 1) = false by simpa using h, show (n == 2) = false by simpa using h']
    by_cases h0 : n < 1
    ·rw [show decide ((n : Int) < 1) = true by simp; omega]; rfl
    ·rw [show decide ((n : Int) > 2) = true by simp; omega, Bool.or_true]; rfl
 dsimp only
 rw [e]
 cases ((at2 s 6 2 == 1) || (at2 s 6 2 == 2))
 ·exact k1 true
 ·simp only [Bool.not_true, cond_false, Bool.true_and]
  rw [rown_spec _ (by omega), Option.bind_some]
  exact k1 _
theorem get_at2 (s : ByteArray) (o n : Nat) (oi ni : Int) (ho : oi = o) (hni : ni = n) (hn : 1 ≤ n ∧ n ≤ 8) (h : o + n ≤ s.size) (hs : s.size ≤ 140737488351232) : arp_Parse_1.f 2000 ni s oi = some (((at2 s o n : Nat) : Int), ((o + n : Nat) : Int)) := by
 unfold arp_Parse_1.f
 subst ho hni
 rw [get_in s o n hn h hs, Option.bind_some]
 dsimp only
 rw [i64_id (by omega)]
 rfl
theorem arp_parse (s : ByteArray) (hs : s.size ≤ 100000) : arp_Parse.f 2000 s = some (arpParseR s) := by
 unfold arp_Parse.f arpParseR
 by_cases h : s.size < 28
 ·rw [if_pos h, show decide ((s.size : Int) < 28) = true by simp; omega]
  rfl
 ·rw [if_neg h, show decide ((s.size : Int) < 28) = false by simp; omega, cond_false]
  have h6 := at2_lt s 6 2
  have h14 := at2_lt s 14 4
  have h24 := at2_lt s 24 4
  have g1 : arp_Parse_1.f 2000 2 s 6 = some (((at2 s 6 2 : Nat) : Int), 8) := get_at2 s 6 2 _ _ rfl rfl (by omega) (by omega) (by omega)
  have g2 : arp_Parse_1.f 2000 6 s 8 = some (((at2 s 8 6 : Nat) : Int), 14) := get_at2 s 8 6 _ _ rfl rfl (by omega) (by omega) (by omega)
  have g3 : arp_Parse_1.f 2000 4 s 14 = some (((at2 s 14 4 : Nat) : Int), 18) := get_at2 s 14 4 _ _ rfl rfl (by omega) (by omega) (by omega)
  have g4 : arp_Parse_1.f 2000 6 s 18 = some (((at2 s 18 6 : Nat) : Int), 24) := get_at2 s 18 6 _ _ rfl rfl (by omega) (by omega) (by omega)
  have g5 : arp_Parse_1.f 2000 4 s 24 = some (((at2 s 24 4 : Nat) : Int), 28) := get_at2 s 24 4 _ _ rfl rfl (by omega) (by omega) (by omega)
  simp only [g1, g2, g3, g4, g5, Option.bind_some]
  have u1 : u32 ((at2 s 14 4 : Nat) : Int) = ((at2 s 14 4 : Nat) : Int) := by simp [u32, IntKind.wrap, IntKind.bits, IntKind.signed]; omega
  have u2 : u32 ((at2 s 24 4 : Nat) : Int) = ((at2 s 24 4 : Nat) : Int) := by simp [u32, IntKind.wrap, IntKind.bits, IntKind.signed]; omega
  have hpre : strings_HasPrefix.f s ⟨#[0, 1, 8, 0, 6, 4]⟩ = some (L (s.extract 0 6) == [0, 1, 8, 0, 6, 4]) := by
   unfold strings_HasPrefix.f stringslite_HasPrefix.f stringslite_HasPrefix.k1
   have hz : (⟨#[0, 1, 8, 0, 6, 4]⟩ : ByteArray).size = 6 := rfl
   rw [hz, show decide ((s.size : Int) ≥ ((6 : Nat) : Int)) = true by simp; omega, cond_true, sliceS_eq (by omega), Option.bind_some, Option.bind_some, toList_eq, toList_eq]
   rfl
  rw [hpre, Option.bind_some, i64_id (by omega), u1, u2]
  obtain ⟨c, hc, hc2⟩ := check_arp s
  unfold arpAt at hc
  unfold arpGood arpAt
  have fin : ∀ b, arp_Parse.k1 ((at2 s 6 2 : Nat) : Int) ((at2 s 8 6 : Nat) : Int) ((at2 s 14 4 : Nat) : Int) ((at2 s 18 6 : Nat) : Int) ((at2 s 24 4 : Nat) : Int) b = some (if !b then (⟨(at2 s 6 2 : Nat), (at2 s 8 6 : Nat), (at2 s 14 4 : Nat), (at2 s 18 6 : Nat), (at2 s 24 4 : Nat)⟩, 0) else (arp0, 51)) := fun b => by
   unfold arp_Parse.k1
   rw [i64_id (by omega), u1, u2]
   cases b <;> rfl
  cases (L (s.extract 0 6) == [0, 1, 8, 0, 6, 4])
  ·exact fin true
  ·simp only [Bool.not_true, cond_false, Bool.true_and]
   rw [hc, Option.bind_some, hc2, fin]
   cases (((at2 s 6 2 == 1) || (at2 s 6 2 == 2)) && ownR (at2 s 8 6)) <;> rfl
theorem rnum_at (s : ByteArray) (o n : Nat) (hn : n ≤ 7) (h : o + n ≤ s.size) : ∃ t, sliceS s (o : Int) ((o + n : Nat) : Int) = some t ∧ gangwayref01_Num.f 2000 t = some ((at2 s o n : Nat) : Int) := by
 have e := ext_at s o n h
 refine ⟨s.extract o (o + n), sliceS_eq (by omega), ?_⟩
 rw [num_spec _ (by omega), e.1]
theorem rarp_parse (s : ByteArray) : gangwayref05_Parse.f 2000 s = some (arpParseR s) := by
 unfold gangwayref05_Parse.f arpParseR
 by_cases h : s.size < 28
 ·rw [if_pos h, show decide ((s.size : Int) < 28) = true by simp; omega]
  rfl
 ·rw [if_neg h, show decide ((s.size : Int) < 28) = false by simp; omega, cond_false]
  have h6 := at2_lt s 6 2
  have h14 := at2_lt s 14 4
  have h24 := at2_lt s 24 4
  obtain ⟨t1, a1, b1⟩ := rnum_at s 6 2 (by omega) (by omega)
  obtain ⟨t2, a2, b2⟩ := rnum_at s 8 6 (by omega) (by omega)
  obtain ⟨t3, a3, b3⟩ := rnum_at s 14 4 (by omega) (by omega)
  obtain ⟨t4, a4, b4⟩ := rnum_at s 18 6 (by omega) (by omega)
  obtain ⟨t5, a5, b5⟩ := rnum_at s 24 4 (by omega) (by omega)
  rw [show sliceS s 6 8 = some t1 from a1, Option.bind_some, b1, Option.bind_some, show sliceS s 8 14 = some t2 from a2, Option.bind_some, b2, Option.bind_some, show sliceS s 14 18 = some t3 from a3, Option.bind_some, b3, Option.bind_some, show sliceS s 18 24 = some t4 from a4, Option.bind_some, b4, Option.bind_some, show sliceS s 24 28 = some t5 from a5, Option.bind_some, b5, Option.bind_some,
   sliceS_eq (l := 0) (h := 6) (by omega), Option.bind_some, toList_eq, toList_eq]
  have u1 : u32 ((at2 s 14 4 : Nat) : Int) = ((at2 s 14 4 : Nat) : Int) := by simp [u32, IntKind.wrap, IntKind.bits, IntKind.signed]; omega
  have u2 : u32 ((at2 s 24 4 : Nat) : Int) = ((at2 s 24 4 : Nat) : Int) := by simp [u32, IntKind.wrap, IntKind.bits, IntKind.signed]; omega
  rw [i64_id (by omega), u1, u2]
  obtain ⟨c, hc, hc2⟩ := rcheck_arp s
  unfold arpAt at hc
  unfold arpGood arpAt
  rw [show L (⟨#[0, 1, 8, 0, 6, 4]⟩ : ByteArray) = [0, 1, 8, 0, 6, 4] from rfl, show s.extract (Int.toNat 0) (Int.toNat 6) = s.extract 0 6 from rfl]
  have fin : ∀ b, gangwayref05_Parse.k1 ((at2 s 6 2 : Nat) : Int) ((at2 s 8 6 : Nat) : Int) ((at2 s 14 4 : Nat) : Int) ((at2 s 18 6 : Nat) : Int) ((at2 s 24 4 : Nat) : Int) b = some (if !b then (⟨(at2 s 6 2 : Nat), (at2 s 8 6 : Nat), (at2 s 14 4 : Nat), (at2 s 18 6 : Nat), (at2 s 24 4 : Nat)⟩, 0) else (arp0, 51)) := fun b => by
   unfold gangwayref05_Parse.k1
   rw [i64_id (by omega), u1, u2]
   cases b <;> rfl
  cases (L (s.extract 0 6) == [0, 1, 8, 0, 6, 4])
  ·exact fin true
  ·simp only [Bool.not_true, cond_false, Bool.true_and]
   rw [hc, Option.bind_some, hc2, fin]
   cases (((at2 s 6 2 == 1) || (at2 s 6 2 == 2)) && ownR (at2 s 8 6)) <;> rfl
theorem arpParse_bad (s : ByteArray) (h : (arpParseR s).2 ≠ 0) : (arpParseR s).1 = arp0 := by
 unfold arpParseR at h ⊢
 split
 ·rfl
 ·split
  ·rename_i h1 h2
   rw [if_neg h1, if_pos h2] at h
   exact absurd rfl h
  ·rfl
theorem arp_spec (f : api_Frame) (hs : f.Body.size ≤ 100000) : arp_Of.f 2000 f = some (arpR f) := by
 unfold arp_Of.f arpR
 by_cases h : f.Type_ = 2054
 ·rw [show (f.Type_ != 2054) = false by simp [h], cond_false, arp_parse _ hs, Option.bind_some]
  by_cases h2 : (arpParseR f.Body).2 = 0
  ·rw [if_pos ⟨h, h2⟩]
   dsimp only
   rw [h2]
   rfl
  ·rw [if_neg (by simp [h2])]
   dsimp only
   rw [arpParse_bad _ h2, show ((arpParseR f.Body).2 == 0) = false by simpa using h2]
 ·rw [show (f.Type_ != 2054) = true by simp [h], if_neg (by simp [h])]
  rfl
theorem rarp_spec (f : api_Frame) : gangwayref05_Of.f 2000 f = some (arpR f) := by
 unfold gangwayref05_Of.f arpR
 rw [rarp_parse, Option.bind_some]
 dsimp only
 by_cases h : f.Type_ = 2054 ∧ (arpParseR f.Body).2 = 0
 ·rw [if_pos h, show ((f.Type_ != 2054) || ((arpParseR f.Body).2 != 0)) = false by simp [h.1, h.2]]
  rfl
 ·rw [if_neg h, show ((f.Type_ != 2054) || ((arpParseR f.Body).2 != 0)) = true by
   by_cases h1 : f.Type_ = 2054
   ·have : (arpParseR f.Body).2 ≠ 0 := fun e => h ⟨h1, e⟩
    simp [this]
   ·simp [h1]]
  rfl
def laidL (op m s t i : Nat) : List UInt8 := [0, 1, 8, 0, 6, 4] ++ (beL 2 op ++ (beL 6 m ++ (beL 4 s ++ (beL 6 t ++ beL 4 i))))
theorem joined_loop (l : List (Nat × Nat)) (hl : l.length ≤ 100) (hok : ∀ p ∈ l, (1 ≤ p.2 ∧ p.2 ≤ 8) ∧ p.1 < 256 ^ p.2 ∧ p.1 < 2 ^ 64) : ∀ (r pre : List (Nat × Nat)) (x : ByteArray) (fuel : Nat), l = pre ++ r → r.length < fuel → x.size + 8 * r.length ≤ 10000 →
  arp_joined.l1 (l.map fun p => (⟨(p.1 : Int), (p.2 : Int)⟩ : arp_field)) 2000 fuel (pre.length : Int) x = some ⟨(L x ++ (r.map fun p => beL p.2 p.1).flatten).toArray⟩
 | [], pre, x, 0, _, hf, _ => by simp at hf
 | [], pre, x, fuel + 1, e, hf, _ => by
  simp only [arp_joined.l1]
  rw [lt_f (by rw [List.length_map, e]; simp), cond_false, List.map_nil, List.flatten_nil, List.append_nil]
  exact congrArg some (L_inj rfl)
 | p :: r, pre, x, 0, _, hf, _ => by simp at hf
 | p :: r, pre, x, fuel + 1, e, hf, hx => by
  simp only [arp_joined.l1]
  have hp : pre.length < l.length := by rw [e]; simp
  have hlen : pre.length < (l.map fun p => (⟨(p.1 : Int), (p.2 : Int)⟩ : arp_field)).length := by rw [List.length_map]; exact hp
  have hg : l[pre.length] = p := by simp [e]
  obtain ⟨k1, k2, k3⟩ := hok p (by rw [e]; simp)
  have hput := put_spec p.1 p.2 k1 k2 k3
  rw [lt_t hlen, cond_true]
  have hget : getL (l.map fun p => (⟨(p.1 : Int), (p.2 : Int)⟩ : arp_field)).length (l.map fun p => (⟨(p.1 : Int), (p.2 : Int)⟩ : arp_field)) (pre.length : Int) = some ⟨(p.1 : Int), (p.2 : Int)⟩ := by
   unfold getL
   rw [if_pos (by omega), Int.toNat_natCast, List.getElem?_eq_getElem hlen, List.getElem_map, hg]
  rw [hget, Option.bind_some]
  simp only
  rw [hput, Option.bind_some]
  simp only
  have hbs : (be p.2 p.1).size = p.2 := by rw [← L_length]; show (beL p.2 p.1).length = _; rw [beL_length]
  have hb : bldS x (be p.2 p.1) = some (x ++ be p.2 p.1) := if_pos (by simp only [List.length_cons] at hx; omega)
  rw [hb, Option.bind_some, i64_id (by omega)]
  have := joined_loop l hl hok r (pre ++ [p]) (x ++ be p.2 p.1) fuel (by rw [e]; simp) (by simp at hf; omega) (by rw [ByteArray.size_append, hbs]; simp only [List.length_cons] at hx; omega)
  rw [List.length_append, List.length_singleton] at this
  rw [show ((pre.length : Int) + 1) = ((pre.length + 1 : Nat) : Int) by omega, this, L_append, List.map_cons, List.flatten_cons, List.append_assoc]
  rfl
theorem laid_spec (op m s t i : Nat) (ho : op < 65536) (hm : m < 281474976710656) (hs : s < 4294967296) (ht : t < 281474976710656) (hi : i < 4294967296) : arp_laid.f 2000 ⟨op, m, s, t, i⟩ = some ⟨(laidL op m s t i).toArray⟩ := by
 unfold arp_laid.f
 have h := joined_loop [(op, 2), (m, 6), (s, 4), (t, 6), (i, 4)] (by simp) (fun p hp => by
  have e2 : (256 : Nat) ^ 2 = 65536 := by decide
  have e6 : (256 : Nat) ^ 6 = 281474976710656 := by decide
  have e4 : (256 : Nat) ^ 4 = 4294967296 := by decide
  simp only [List.mem_cons, List.not_mem_nil, or_false] at hp
  rcases hp with rfl | rfl | rfl | rfl | rfl <;> refine ⟨⟨by omega, by omega⟩, ?_, ?_⟩ <;> simp only <;> omega) _ [] ⟨#[]⟩ 2000 rfl (by simp) (by show (0 : Nat) + 8 * 5 ≤ 10000; omega)
 have e : arp_joined.f 2000 ([(arp_field.mk (u64 (op : Int)) 2), (arp_field.mk (Int.tmod (m : Int) 281474976710656) 6), (arp_field.mk (u64 (s : Int)) 4), (arp_field.mk (Int.tmod (t : Int) 281474976710656) 6), (arp_field.mk (u64 (i : Int)) 4)] : List arp_field) = some ⟨(beL 2 op ++ (beL 6 m ++ (beL 4 s ++ (beL 6 t ++ beL 4 i)))).toArray⟩ := by
  unfold arp_joined.f
  rw [u64_id (n := (op : Int)) (by omega), u64_id (n := (s : Int)) (by omega), u64_id (n := (i : Int)) (by omega)]
  have t1 : Int.tmod (m : Int) 281474976710656 = m := by rw [show (281474976710656 : Int) = ((281474976710656 : Nat) : Int) from rfl, ← Int.ofNat_tmod, Nat.mod_eq_of_lt hm]
  have t2 : Int.tmod (t : Int) 281474976710656 = t := by rw [show (281474976710656 : Int) = ((281474976710656 : Nat) : Int) from rfl, ← Int.ofNat_tmod, Nat.mod_eq_of_lt ht]
  rw [t1, t2]
  refine Eq.trans h ?_
  refine congrArg some (L_inj ?_)
  simp [L_mk, L_empty]
 simp only
 rw [e, Option.bind_some, catS_eq (by simp [ByteArray.size, beL_length]), Option.bind_some]
 refine congrArg some (L_inj ?_)
 rw [L_append]
 rfl
theorem bytes_loop (v n : Nat) (hv : v < 18446744073709551616) (hn : n ≤ 8) : ∀ (j i fuel : Nat), i + j = n → j < fuel → gangwayref01_Bytes.l1 n fuel ((v / 256 ^ i : Nat) : Int) (be i v) i = some (be n v)
 | 0, i, 0, hij, hf => by omega
 | 0, i, fuel + 1, hij, hf => by
  obtain rfl : i = n := by omega
  simp only [gangwayref01_Bytes.l1]
  rw [show decide ((i : Int) < (i : Int)) = false by simp]
  rfl
 | j + 1, i, 0, hij, hf => by omega
 | j + 1, i, fuel + 1, hij, hf => by
  simp only [gangwayref01_Bytes.l1]
  rw [show decide ((i : Int) < (n : Int)) = true by simp; omega]
  simp only [cond_true]
  have hq : v / 256 ^ i ≤ v := Nat.div_le_self _ _
  generalize hx : v / 256 ^ i = x at hq
  have e1 : (u8 (Int.tmod ((x : Nat) : Int) 256)).toNat = x % 256 := by
   rw [Int.tmod_eq_emod_of_nonneg (by omega), u8_id (by omega)]
   omega
  have e2 : u64 (Int.tdiv ((x : Nat) : Int) 256) = ((v / 256 ^ (i + 1) : Nat) : Int) := by
   rw [Int.tdiv_eq_ediv_of_nonneg (by omega), u64_id (by omega), Nat.pow_succ, ← Nat.div_div_eq_div_mul, hx]
   omega
  rw [e1, catS_eq (by rw [be_size]; simp; omega), Option.bind_some, e2, i64_id (by omega)]
  have e3 : ByteArray.push ByteArray.empty (UInt8.ofNat (x % 256)) ++ be i v = be (i + 1) v := L_inj (by
   rw [L_append, L_be, L_be]
   simp only [beL, hx]
   rfl)
  rw [e3]
  exact bytes_loop v n hv hn j (i + 1) fuel (by omega) (by omega)
theorem rbytes (v wi : Int) (w : Nat) (hwi : wi = (w : Int)) (hw : w ≤ 8) (h0 : 0 ≤ v) (hv2 : v < 18446744073709551616) : gangwayref01_Bytes.f 2000 v wi = some (be w v.toNat) := by
 subst hwi
 have e : v = ((v.toNat / 256 ^ 0 : Nat) : Int) := by simp; omega
 have := bytes_loop v.toNat w (by omega) hw w 0 2000 (by omega) (by omega)
 rw [← e] at this
 exact this
theorem rlaid_spec (op m s t i : Nat) (ho : op < 65536) (hm : m < 281474976710656) (hs : s < 4294967296) (ht : t < 281474976710656) (hi : i < 4294967296) : gangwayref05_Laid.f 2000 ⟨op, m, s, t, i⟩ = some ⟨(laidL op m s t i).toArray⟩ := by
 unfold gangwayref05_Laid.f
 simp only
 have l : ∀ w v, (be w v).size = w := fun w v => by rw [← L_length]; show (beL w v).length = _; rw [beL_length]
 have h6 : (⟨#[0, 1, 8, 0, 6, 4]⟩ : ByteArray).size = 6 := rfl
 rw [rbytes _ 2 2 rfl (by omega) (by rw [u64_id (by omega)]; omega) (by rw [u64_id (by omega)]; omega), Option.bind_some, catS_eq (by rw [l]; omega), Option.bind_some, rbytes _ 6 6 rfl (by omega) (by omega) (by omega), Option.bind_some, catS_eq (by rw [ByteArray.size_append, l, l]; omega), Option.bind_some, rbytes _ 4 4 rfl (by omega) (by rw [u64_id (by omega)]; omega) (by rw [u64_id (by omega)]; omega), Option.bind_some, catS_eq (by rw [ByteArray.size_append, ByteArray.size_append, l, l, l]; omega), Option.bind_some, rbytes _ 6 6 rfl (by omega) (by omega) (by omega), Option.bind_some, catS_eq (by simp only [ByteArray.size_append, l]; omega), Option.bind_some, rbytes _ 4 4 rfl (by omega) (by rw [u64_id (by omega)]; omega) (by rw [u64_id (by omega)]; omega), Option.bind_some, catS_eq (by simp only [ByteArray.size_append, l]; omega), Option.bind_some]
 refine congrArg some (L_inj ?_)
 simp only [L_append, u64_id (n := (op : Int)) (by omega), u64_id (n := (s : Int)) (by omega), u64_id (n := (i : Int)) (by omega), Int.toNat_natCast, List.append_assoc]
 rfl
theorem arpAt_laid (op m s t i : Nat) (ho : op < 65536) (hm : m < 281474976710656) (hs : s < 4294967296) (ht : t < 281474976710656) (hi : i < 4294967296) (hop : op = 1 ∨ op = 2) (how : ownR m = true) (f : api_Frame) (hT : f.Type_ = 2054) (hb : L f.Body = laidL op m s t i) : arpR f = (⟨op, m, s, t, i⟩, true) := by
 have e2 : (256 : Nat) ^ 2 = 65536 := by decide
 have e6 : (256 : Nat) ^ 6 = 281474976710656 := by decide
 have e4 : (256 : Nat) ^ 4 = 4294967296 := by decide
 have a1 : at2 f.Body 6 2 = op := at2_app _ 6 2 op [0, 1, 8, 0, 6, 4] _ hb rfl (by omega)
 have a2 : at2 f.Body 8 6 = m := at2_app _ 8 6 m ([0, 1, 8, 0, 6, 4] ++ beL 2 op) (beL 4 s ++ (beL 6 t ++ beL 4 i)) (by rw [hb]; simp [laidL]) (by simp [beL_length]) (by omega)
 have a3 : at2 f.Body 14 4 = s := at2_app _ 14 4 s ([0, 1, 8, 0, 6, 4] ++ beL 2 op ++ beL 6 m) (beL 6 t ++ beL 4 i) (by rw [hb]; simp [laidL]) (by simp [beL_length]) (by omega)
 have a4 : at2 f.Body 18 6 = t := at2_app _ 18 6 t ([0, 1, 8, 0, 6, 4] ++ beL 2 op ++ beL 6 m ++ beL 4 s) (beL 4 i) (by rw [hb]; simp [laidL]) (by simp [beL_length]) (by omega)
 have a5 : at2 f.Body 24 4 = i := at2_app _ 24 4 i ([0, 1, 8, 0, 6, 4] ++ beL 2 op ++ beL 6 m ++ beL 4 s ++ beL 6 t) [] (by rw [hb]; simp [laidL]) (by simp [beL_length]) (by omega)
 have hsz : f.Body.size = 28 := by rw [← L_length, hb]; simp [laidL, beL_length]
 have hg : arpGood f.Body = true := by
  unfold arpGood
  rw [a1, a2, how]
  have : L (f.Body.extract 0 6) = [0, 1, 8, 0, 6, 4] := by rw [L_extract, hb]; rfl
  rw [this]
  rcases hop with rfl | rfl <;> rfl
 have hp : arpParseR f.Body = (⟨op, m, s, t, i⟩, 0) := by
  unfold arpParseR
  rw [if_neg (by omega), if_pos hg]
  unfold arpAt
  rw [a1, a2, a3, a4, a5]
 unfold arpR
 rw [hp, if_pos ⟨hT, rfl⟩]
def foldN (n : Nat) : Nat := if n = 0 then 0 else (n - 1) % 65535 + 1
theorem foldN_le (n : Nat) : foldN n ≤ 65535 := by unfold foldN; split <;> omega
theorem foldN_small {n : Nat} (h : n ≤ 65535) : foldN n = n := by unfold foldN; split <;> omega
theorem foldN_add (a b : Nat) : foldN (foldN a + b) = foldN (a + b) := by
 unfold foldN
 by_cases h : a = 0
 ·simp [h]
 ·rw [if_neg h, if_neg (by omega), if_neg (by omega)]
  omega
theorem foldN_step {n : Nat} (h : 65535 < n) : foldN (n % 65536 + n / 65536) = foldN n := by
 unfold foldN
 rw [if_neg (by omega), if_neg (by omega)]
 omega
theorem foldN_right (w : Nat) (h : 0 < w) : foldN (w + (65535 - foldN w)) = 65535 := by
 have h1 : foldN w = (w - 1) % 65535 + 1 := by unfold foldN; rw [if_neg (by omega)]
 rw [h1]
 unfold foldN
 rw [if_neg (by omega)]
 omega
theorem bAnd_65535 {n : Nat} (h : n < 2 ^ 63) : bAnd .i64 n 65535 = ((n % 65536 : Nat) : Int) := by
 have h1 := bAnd_i64 (x := n) (y := 65535) h (by decide)
 rw [show ((65535 : Nat) : Int) = 65535 from rfl] at h1
 rw [h1]
 have := and_mask 16 n
 rw [show (2 : Nat) ^ 16 - 1 = 65535 from rfl, show (2 : Nat) ^ 16 = 65536 from rfl] at this
 rw [this]
theorem fold_end {n : Nat} (h : n ≤ 65535) (fuel : Nat) : csum_fold.l1 (fuel + 1) (n : Int) = some (n : Int) := by
 simp only [csum_fold.l1]
 rw [show decide ((n : Int) > 65535) = false by simp; omega, cond_false]
theorem fold_one {n : Nat} (h : 65535 < n) (h2 : n < 2 ^ 62) (fuel : Nat) : csum_fold.l1 (fuel + 1) (n : Int) = csum_fold.l1 fuel ((n % 65536 + n / 65536 : Nat) : Int) := by
 simp only [csum_fold.l1]
 rw [show decide ((n : Int) > 65535) = true by simp; omega, cond_true, bAnd_65535 (by omega), Int.fdiv_eq_ediv_of_nonneg _ (by decide)]
 congr 1
 have : (((n % 65536 : Nat) : Int) + (n : Int) / 65536) = ((n % 65536 + n / 65536 : Nat) : Int) := by omega
 rw [this, i64_id (by omega)]
theorem fold_spec (n : Nat) (h : n ≤ 1048576) : csum_fold.f 2000 (n : Int) = some ((foldN n : Nat) : Int) := by
 unfold csum_fold.f
 by_cases h1 : n ≤ 65535
 ·rw [fold_end h1 1999, foldN_small h1]
 ·rw [fold_one (by omega) (by omega) 1999, ← foldN_step (by omega : 65535 < n)]
  by_cases h2 : n % 65536 + n / 65536 ≤ 65535
  ·rw [fold_end h2 1998, foldN_small h2]
  ·rw [fold_one (by omega) (by omega) 1998, ← foldN_step (by omega : 65535 < n % 65536 + n / 65536), fold_end (by omega) 1997, foldN_small (by omega)]
def wsum : List UInt8 → Nat
 | a :: b :: r => a.toNat * 256 + b.toNat + wsum r
 | [a] => a.toNat * 256
 | [] => 0
theorem wsum_append : ∀ (n : Nat) (a b : List UInt8), a.length = 2 * n → wsum (a ++ b) = wsum a + wsum b
 | 0, [], b, _ => by simp [wsum]
 | 0, _ :: _, b, h => by simp at h
 | n + 1, [], b, h => by simp at h
 | n + 1, [x], b, h => by simp at h; omega
 | n + 1, x :: y :: r, b, h => by
  have := wsum_append n r b (by simp at h; omega)
  simp only [List.cons_append, wsum, this]
  omega
theorem wsum_beL2 (c : Nat) (h : c < 65536) : wsum (beL 2 c) = c := by
 simp only [beL, wsum, UInt8.toNat_ofNat']
 omega
theorem idxS_get (s : ByteArray) (i : Nat) (x : UInt8) (h : (L s)[i]? = some x) : idxS s (i : Int) = some ((x.toNat : Nat) : Int) := by
 unfold idxS
 rw [if_pos (by omega)]
 have : s.data[(i : Int).toNat]? = some x := by rw [← Array.getElem?_toList]; exact h
 rw [this]; rfl
theorem total_loop (x : ByteArray) (hx : x.size ≤ 3000) : ∀ (n : Nat) (r pre : List UInt8) (a fuel : Nat), L x = pre ++ r → r.length = 2 * n → n < fuel →
  csum_total.l1 x 2000 fuel ((foldN a : Nat) : Int) (pre.length : Int) = some ((foldN (a + wsum r) : Nat) : Int)
 | n, r, pre, a, 0, _, _, h => by omega
 | 0, [], pre, a, fuel + 1, e, hr, h => by
  have hs : x.size = pre.length := by rw [← L_length, e]; simp
  simp only [csum_total.l1]
  rw [hs, show decide ((pre.length : Int) < (pre.length : Int)) = false by simp]
  simp [wsum]
 | 0, _ :: _, pre, a, fuel + 1, e, hr, h => by simp at hr
 | n + 1, [], pre, a, fuel + 1, e, hr, h => by simp at hr
 | n + 1, [y], pre, a, fuel + 1, e, hr, h => by simp at hr; omega
 | n + 1, y :: z :: r, pre, a, fuel + 1, e, hr, h => by
  have hs : x.size = pre.length + (r.length + 2) := by rw [← L_length, e]; simp
  have h0 : (L x)[pre.length]? = some y := by rw [e]; simp
  have h1 : (L x)[pre.length + 1]? = some z := by rw [e, List.getElem?_append_right (by omega)]; simp
  have hy := y.toNat_lt
  have hz := z.toNat_lt
  have hf := foldN_le a
  simp only [csum_total.l1]
  rw [show decide ((pre.length : Int) < (x.size : Int)) = true by simp; omega, cond_true, idxS_get x _ _ h0, Option.bind_some, i64_id (n := (pre.length : Int) + 1) (by omega), show ((pre.length : Int) + 1) = ((pre.length + 1 : Nat) : Int) by omega, idxS_get x _ _ h1, Option.bind_some]
  rw [i64_id (n := ((y.toNat : Nat) : Int)) (by omega), i64_id (n := ((z.toNat : Nat) : Int)) (by omega), i64_id (n := ((y.toNat : Nat) : Int) * 256) (by omega), i64_id (n := ((foldN a : Nat) : Int) + ((y.toNat : Nat) : Int) * 256) (by omega), i64_id (n := ((foldN a : Nat) : Int) + ((y.toNat : Nat) : Int) * 256 + ((z.toNat : Nat) : Int)) (by omega)]
  have e2 : ((foldN a : Nat) : Int) + ((y.toNat : Nat) : Int) * 256 + ((z.toNat : Nat) : Int) = ((foldN a + (y.toNat * 256 + z.toNat) : Nat) : Int) := by omega
  rw [e2, fold_spec _ (by omega), Option.bind_some, foldN_add, i64_id (n := (pre.length : Int) + 2) (by omega)]
  have := total_loop x hx n r (pre ++ [y, z]) (a + (y.toNat * 256 + z.toNat)) fuel (by rw [e]; simp) (by simp at hr; omega) (by omega)
  rw [List.length_append] at this
  have e3 : ((pre.length : Int) + 2) = ((pre.length + [y, z].length : Nat) : Int) := by simp
  rw [e3, this]
  simp only [wsum]
  congr 3
  omega
theorem join_flat : ∀ (xs : List (List UInt8)), Lib.join xs [] = xs.flatten
 | [] => rfl
 | [a] => by simp [Lib.join, List.intercalate]
 | a :: b :: r => by
  have := join_flat (b :: r)
  simp only [Lib.join, List.intercalate] at this ⊢
  simp only [List.intersperse, List.flatten_cons, List.nil_append]
  rw [this]; rfl
theorem join_spec (xs : List ByteArray) (h1 : xs.length ≤ 100) (h2 : (xs.map L).flatten.length ≤ 140737488355328) : strings_Join.f xs (⟨#[]⟩ : ByteArray) = some ⟨((xs.map L).flatten).toArray⟩ := by
 have e : Lib.join (xs.map (·.data.toList)) (⟨#[]⟩ : ByteArray).data.toList = (xs.map L).flatten := join_flat _
 unfold strings_Join.f
 rw [e, if_pos ⟨by omega, h2⟩]
theorem total_even (xs : List ByteArray) (n : Nat) (h1 : xs.length ≤ 100) (hn : (xs.map L).flatten.length = 2 * n) (h2 : n ≤ 1500) : csum_total.f 2000 xs = some ((foldN (wsum (xs.map L).flatten) : Nat) : Int) := by
 unfold csum_total.f
 rw [join_spec xs h1 (by omega), Option.bind_some]
 have hs : (⟨((xs.map L).flatten).toArray⟩ : ByteArray).size = 2 * n := by rw [mk_size, hn]
 rw [hs]
 have hm : (Int.tmod ((2 * n : Nat) : Int) 2 == 1) = false := by
  rw [show (2 : Int) = ((2 : Nat) : Int) from rfl, ← Int.ofNat_tmod]
  simp
 rw [hm, cond_false]
 unfold csum_total.k2
 have := total_loop ⟨((xs.map L).flatten).toArray⟩ (by omega) n (xs.map L).flatten [] 0 2000 rfl hn (by omega)
 rw [Nat.zero_add] at this
 exact this
theorem of_even (xs : List ByteArray) (n : Nat) (h1 : xs.length ≤ 100) (hn : (xs.map L).flatten.length = 2 * n) (h2 : n ≤ 1500) : csum_Of.f 2000 xs = some ((65535 - foldN (wsum (xs.map L).flatten) : Nat) : Int) := by
 unfold csum_Of.f
 have := foldN_le (wsum (xs.map L).flatten)
 rw [total_even xs n h1 hn h2, Option.bind_some, i64_id (by omega)]
 congr 1
 omega
theorem right_even (xs : List ByteArray) (n : Nat) (h1 : xs.length ≤ 100) (hn : (xs.map L).flatten.length = 2 * n) (h2 : n ≤ 1500) : csum_Right.f 2000 xs = some (foldN (wsum (xs.map L).flatten) == 65535) := by
 unfold csum_Right.f
 rw [total_even xs n h1 hn h2, Option.bind_some]
 congr 1
 rw [Bool.eq_iff_iff]
 simp only [beq_iff_eq]
 omega
theorem cat2 {x y : ByteArray} {lx ly : List UInt8} (hx : L x = lx) (hy : L y = ly) (h : lx.length + ly.length ≤ 100000) : ∃ z, catS x y = some z ∧ L z = lx ++ ly := by
 subst hx; subst hy
 rw [L_length, L_length] at h
 exact ⟨x ++ y, catS_eq (by omega), L_append x y⟩
theorem put2 (v : Int) (n : Nat) (h : v = n) (hn : n < 65536) : octets_Put.f 2000 (u64 v) 2 = some (be 2 n, 0) := by
 subst h
 rw [u64_id (by omega)]
 exact put_spec n 2 (by omega) (by rw [show (256 : Nat) ^ 2 = 65536 from rfl]; exact hn) (by omega)
theorem put4 (v : Int) (n : Nat) (h : v = n) (hn : n < 4294967296) : octets_Put.f 2000 (u64 v) 4 = some (be 4 n, 0) := by
 subst h
 rw [u64_id (by omega)]
 exact put_spec n 4 (by omega) (by rw [show (256 : Nat) ^ 4 = 4294967296 from rfl]; exact hn) (by omega)
theorem uword (v : Int) (n : Nat) (h : v = n) (hn : n < 65536) : udp_word.f 2000 v = some (be 2 n) := by
 unfold udp_word.f
 rw [put2 v n h hn]; rfl
theorem iword (v : Int) (n : Nat) (h : v = n) (hn : n < 65536) : inet_word.f 2000 v = some (be 2 n) := by
 unfold inet_word.f
 rw [put2 v n h hn]; rfl
def vxL (vni : Nat) (b : List UInt8) : List UInt8 := [8, 0, 0, 0] ++ (beL 3 vni ++ ([0] ++ b))
theorem vbuild_good (v : Int) (n : Nat) (h : v = n) (hn : n ≤ 16777215) (b : ByteArray) (hb : b.size ≤ 10000) : ∃ z, vxlan_Build.f 2000 v b = some (z, 0) ∧ L z = vxL n (L b) := by
 subst h
 have hb' : (L b).length ≤ 10000 := by rw [L_length]; exact hb
 unfold vxlan_Build.f
 rw [show ((decide ((n : Int) < 0)) || (decide ((n : Int) > 16777215))) = false by simp; omega, cond_false, u64_id (by omega)]
 have hp : octets_Put.f 2000 (n : Int) 3 = some (be 3 n, 0) := put_spec n 3 (by omega) (by rw [show (256 : Nat) ^ 3 = 16777216 from rfl]; omega) (by omega)
 rw [hp, Option.bind_some]
 simp only
 obtain ⟨z1, e1, l1⟩ := cat2 (x := ByteArray.push (ByteArray.push (ByteArray.push (ByteArray.push ByteArray.empty (UInt8.ofNat (Int.toNat 8))) (UInt8.ofNat (Int.toNat 0))) (UInt8.ofNat (Int.toNat 0))) (UInt8.ofNat (Int.toNat 0))) (y := be 3 n) (lx := [8, 0, 0, 0]) rfl (L_be _ _) (by rw [beL_length]; decide)
 rw [e1, Option.bind_some]
 obtain ⟨z2, e2, l2⟩ := cat2 (x := z1) (y := (⟨#[0]⟩ : ByteArray)) l1 (ly := [0]) rfl (by simp [beL_length])
 rw [e2, Option.bind_some]
 obtain ⟨z3, e3, l3⟩ := cat2 (x := z2) (y := b) l2 rfl (by simp [beL_length]; omega)
 rw [e3, Option.bind_some]
 exact ⟨z3, rfl, by rw [l3]; simp [vxL]⟩
theorem u32_range (n : Int) : 0 ≤ u32 n ∧ u32 n < 4294967296 := by
 simp [u32, IntKind.wrap, IntKind.bits, IntKind.signed]; omega
theorem u32_id {n : Int} (h : 0 ≤ n ∧ n < 4294967296) : u32 n = n := by
 simp [u32, IntKind.wrap, IntKind.bits, IntKind.signed]; omega
theorem hash_loop (s : ByteArray) (hs : s.size ≤ 100) : ∀ (j i fuel : Nat) (x : Int), i + j = s.size → j < fuel → (0 ≤ x ∧ x < 4294967296) → ∃ h, vxlan_Hash.l1 s fuel x (i : Int) = some h ∧ 0 ≤ h ∧ h < 4294967296
 | j, i, 0, x, _, h, _ => by omega
 | 0, i, fuel + 1, x, hij, h, hx => by
  simp only [vxlan_Hash.l1]
  rw [show decide ((i : Int) < (s.size : Int)) = false by simp; omega, cond_false]
  exact ⟨x, rfl, hx⟩
 | j + 1, i, fuel + 1, x, hij, h, hx => by
  simp only [vxlan_Hash.l1]
  have hlt : i < (L s).length := by rw [L_length]; omega
  rw [show decide ((i : Int) < (s.size : Int)) = true by simp; omega, cond_true, idxS_get s i _ (List.getElem?_eq_getElem hlt), Option.bind_some, i64_id (n := (i : Int) + 1) (by omega), show ((i : Int) + 1) = ((i + 1 : Nat) : Int) by omega]
  exact hash_loop s hs j (i + 1) fuel _ (by omega) (by omega) (u32_range _)
theorem port_spec (b : ByteArray) : ∃ p : Nat, vxlan_Port.f 2000 b = some (p : Int) ∧ 49152 ≤ p ∧ p < 65536 := by
 unfold vxlan_Port.f
 obtain ⟨t, e, z⟩ := cut_spec b 14
 rw [show ((14 : Nat) : Int) = 14 from rfl] at e
 rw [e, Option.bind_some]
 obtain ⟨h, h1, h2, h3⟩ := hash_loop t (by omega) t.size 0 2000 2166136261 (by omega) (by omega) (by decide)
 have h1' : vxlan_Hash.f 2000 t = some h := h1
 rw [h1', Option.bind_some]
 obtain ⟨n, rfl⟩ : ∃ n : Nat, h = n := ⟨h.toNat, by omega⟩
 have hm : Int.tmod (n : Int) 16384 = ((n % 16384 : Nat) : Int) := by rw [show (16384 : Int) = ((16384 : Nat) : Int) from rfl, ← Int.ofNat_tmod]
 rw [hm, i64_id (n := ((n % 16384 : Nat) : Int)) (by omega), i64_id (by omega)]
 exact ⟨49152 + n % 16384, by congr 1, by omega, by omega⟩
def udpL (p : Nat) (body : List UInt8) : List UInt8 := beL 2 p ++ (beL 2 4789 ++ (beL 2 (8 + body.length) ++ (beL 2 0 ++ body)))
theorem ubuild_good (src dst : Int) (p : Nat) (hp : p < 65536) (body : ByteArray) (hb : body.size ≤ 10000) : ∃ z, udp_Build.f 2000 src dst ⟨p, 4789, true, body⟩ = some (z, 0) ∧ L z = udpL p (L body) := by
 have hb' : (L body).length = body.size := L_length body
 unfold udp_Build.f
 have hc : udp_Check.f ⟨p, 4789, true, body⟩ = some 0 := by
  have a1 : udp_Check_1.f (p : Int) = some true := by
   unfold udp_Check_1.f
   rw [decide_eq_true (by omega : (p : Int) ≥ 0), decide_eq_true (by omega : (p : Int) < 65536)]; rfl
  have a2 : udp_Check_1.f 4789 = some true := by kernel_rfl
  unfold udp_Check.f
  simp only
  rw [a1, Option.bind_some, cond_true, a2, Option.bind_some]
  unfold udp_Check.k1
  simp only
  rw [decide_eq_true (by omega : (body.size : Int) ≤ 65507)]
  rfl
 rw [hc, Option.bind_some, show ((0 : Int) != 0) = false from rfl, cond_false, uword (p : Int) p rfl hp, Option.bind_some, uword 4789 4789 (by omega) (by omega), Option.bind_some]
 obtain ⟨z1, e1, l1⟩ := cat2 (L_be 2 p) (L_be 2 4789) (by simp [beL_length])
 rw [e1, Option.bind_some]
 simp only
 rw [uword (i64 (8 + (body.size : Int))) (8 + body.size) (by rw [i64_id (by omega)]; omega) (by omega), Option.bind_some]
 obtain ⟨z2, e2, l2⟩ := cat2 l1 (L_be 2 (8 + body.size)) (by simp [beL_length])
 rw [e2, Option.bind_some]
 simp only [Bool.not_true, cond_false]
 unfold udp_Build.k1
 rw [uword 0 0 (by omega) (by omega), Option.bind_some]
 obtain ⟨z3, e3, l3⟩ := cat2 l2 (L_be 2 0) (by simp [beL_length])
 rw [e3, Option.bind_some]
 obtain ⟨z4, e4, l4⟩ := cat2 (y := body) l3 rfl (by simp [beL_length]; omega)
 rw [e4, Option.bind_some]
 exact ⟨z4, rfl, by rw [l4]; simp [udpL, hb']⟩
def h1L (n id : Nat) : List UInt8 := [69, 0] ++ (beL 2 (20 + n) ++ (beL 2 id ++ (beL 2 16384 ++ [64, 17])))
def abL (src dst : Nat) : List UInt8 := beL 4 src ++ beL 4 dst
def sumN (n id src dst : Nat) : Nat := 65535 - foldN (wsum (h1L n id) + wsum (abL src dst))
def ipL (id src dst : Nat) (body : List UInt8) : List UInt8 := h1L body.length id ++ (beL 2 (sumN body.length id src dst) ++ (abL src dst ++ body))
theorem h1L_length (n id : Nat) : (h1L n id).length = 10 := by simp [h1L, beL_length]
theorem abL_length (s d : Nat) : (abL s d).length = 8 := by simp [abL, beL_length]
theorem sumN_lt (n id src dst : Nat) : sumN n id src dst < 65536 := by unfold sumN; omega
theorem ipL_length (id src dst : Nat) (b : List UInt8) : (ipL id src dst b).length = 20 + b.length := by simp [ipL, h1L_length, abL_length, beL_length]; omega
theorem ib1 : inet_below.f 0 256 = some true := by kernel_rfl
theorem ib2 : inet_below.f 64 256 = some true := by kernel_rfl
theorem ib3 : inet_below.f 17 256 = some true := by kernel_rfl
theorem ib5 : inet_below.f 0 8192 = some true := by kernel_rfl
theorem ib4 (id : Nat) (hid : id < 65536) : inet_below.f (id : Int) 65536 = some true := by
 unfold inet_below.f
 rw [decide_eq_true (by omega : (id : Int) ≥ 0), decide_eq_true (by omega : (id : Int) < 65536)]; rfl
theorem icheck (a : api_Ip) (h1 : inet_below.f a.Tos 256 = some true) (h2 : inet_below.f a.Ttl 256 = some true) (h3 : inet_below.f a.Proto 256 = some true) (h4 : inet_below.f a.Id 65536 = some true) (h5 : inet_below.f a.Off 8192 = some true) (h6 : a.Body.size ≤ 10000) : inet_Check.f a = some 0 := by
 unfold inet_Check.f
 rw [h1, Option.bind_some, cond_true, h2, Option.bind_some]
 unfold inet_Check.k4
 rw [cond_true, h3, Option.bind_some]
 unfold inet_Check.k3
 rw [cond_true, h4, Option.bind_some]
 unfold inet_Check.k2
 rw [cond_true, h5, Option.bind_some]
 unfold inet_Check.k1
 rw [decide_eq_true (by omega : (a.Body.size : Int) ≤ 65515)]
 rfl
theorem ibuild_good (id src dst : Nat) (hid : id < 65536) (hs : src < 4294967296) (hd : dst < 4294967296) (body : ByteArray) (hb : body.size ≤ 10000) :
  ∃ z, inet_Build.f 2000 ⟨0, id, true, false, 0, 64, 17, src, dst, body⟩ = some (z, 0) ∧ L z = ipL id src dst (L body) := by
 have hb' : (L body).length = body.size := L_length body
 have hc : inet_Check.f ⟨0, id, true, false, 0, 64, 17, src, dst, body⟩ = some 0 := icheck _ ib1 ib2 ib3 (ib4 id hid) ib5 (by simp only; omega)
 unfold inet_Build.f
 rw [hc, Option.bind_some, show ((0 : Int) != 0) = false from rfl, cond_false]
 simp only
 rw [put4 _ src rfl hs, Option.bind_some]
 simp only
 rw [put4 _ dst rfl hd, Option.bind_some]
 simp only
 rw [iword _ (20 + body.size) (by rw [i64_id (by omega)]; omega) (by omega), Option.bind_some]
 obtain ⟨z1, e1, l1⟩ := cat2 (x := ByteArray.push (ByteArray.push ByteArray.empty (UInt8.ofNat (Int.toNat 69))) (UInt8.ofNat (Int.toNat (u8 0)))) (lx := [69, 0]) rfl (L_be 2 (20 + body.size)) (by simp [beL_length])
 rw [e1, Option.bind_some, iword _ id rfl hid, Option.bind_some]
 obtain ⟨z2, e2, l2⟩ := cat2 l1 (L_be 2 id) (by simp [beL_length])
 rw [e2, Option.bind_some]
 have hfl : inet_flags.f ⟨0, id, true, false, 0, 64, 17, src, dst, body⟩ = some 16384 := by kernel_rfl
 rw [hfl, Option.bind_some, iword 16384 16384 (by omega) (by omega), Option.bind_some]
 obtain ⟨z3, e3, l3⟩ := cat2 l2 (L_be 2 16384) (by simp [beL_length])
 rw [e3, Option.bind_some]
 obtain ⟨z4, e4, l4⟩ := cat2 l3 (y := ByteArray.push (ByteArray.push ByteArray.empty (UInt8.ofNat (Int.toNat (u8 64)))) (UInt8.ofNat (Int.toNat (u8 17)))) (ly := [64, 17]) rfl (by simp [beL_length])
 rw [e4, Option.bind_some]
 obtain ⟨z5, e5, l5⟩ := cat2 (L_be 4 src) (L_be 4 dst) (by simp [beL_length])
 rw [e5, Option.bind_some, iword 0 0 (by omega) (by omega), Option.bind_some]
 have l4' : L z4 = h1L body.size id := by rw [l4]; simp [h1L]
 have l5' : L z5 = abL src dst := l5
 have hflat : (([z4, be 2 0, z5] : List ByteArray).map L).flatten = h1L body.size id ++ (beL 2 0 ++ abL src dst) := by simp [l4', l5', L_be]
 have hof := of_even [z4, be 2 0, z5] 10 (by simp) (by rw [hflat]; simp [h1L_length, abL_length, beL_length]) (by omega)
 have hw : wsum (h1L body.size id ++ (beL 2 0 ++ abL src dst)) = wsum (h1L body.size id) + wsum (abL src dst) := by
  rw [wsum_append 5 _ _ (by rw [h1L_length]), wsum_append 1 _ _ (by rw [beL_length]), wsum_beL2 0 (by omega), Nat.zero_add]
 rw [hflat, hw] at hof
 have hsum : (65535 - foldN (wsum (h1L body.size id) + wsum (abL src dst))) = sumN body.size id src dst := rfl
 rw [hof, Option.bind_some, hsum, iword _ (sumN body.size id src dst) rfl (sumN_lt _ _ _ _), Option.bind_some]
 obtain ⟨z6, e6, l6⟩ := cat2 l4' (L_be 2 (sumN body.size id src dst)) (by simp [beL_length, h1L_length])
 rw [e6, Option.bind_some]
 obtain ⟨z7, e7, l7⟩ := cat2 l6 l5' (by simp [beL_length, h1L_length, abL_length])
 rw [e7, Option.bind_some]
 obtain ⟨z8, e8, l8⟩ := cat2 (y := body) l7 rfl (by simp [beL_length, h1L_length, abL_length]; omega)
 rw [e8, Option.bind_some]
 exact ⟨z8, rfl, by rw [l8]; simp [ipL, hb']⟩
def bare (f : api_Frame) : api_Frame := ⟨f.Dst, f.Src, tag0, f.Type_, f.Body⟩
theorem vxL_length (n : Nat) (b : List UInt8) : (vxL n b).length = 8 + b.length := by simp [vxL, beL_length]; omega
theorem udpL_length (n : Nat) (b : List UInt8) : (udpL n b).length = 8 + b.length := by simp [udpL, beL_length]; omega
theorem inet_get_spec (z : ByteArray) (i v : Nat) (pre post : List UInt8) (h : L z = pre ++ (beL 2 v ++ post)) (hp : pre.length = i) (hv : v < 65536) (hz : z.size ≤ 100000) : inet_get.f z (i : Int) = some (v : Int) := by
 have hs : z.size = i + (2 + post.length) := by rw [← L_length, h]; simp [beL_length, hp]
 have h0 : (L z)[i]? = some (UInt8.ofNat (v / 256 % 256)) := by rw [h, List.getElem?_append_right (by omega), hp, Nat.sub_self]; simp [beL]
 have h1 : (L z)[i + 1]? = some (UInt8.ofNat (v % 256)) := by rw [h, List.getElem?_append_right (by omega), hp, Nat.add_sub_cancel_left]; simp [beL]
 unfold inet_get.f
 rw [idxS_get z i _ h0, Option.bind_some, i64_id (n := (i : Int) + 1) (by omega), show ((i : Int) + 1) = ((i + 1 : Nat) : Int) by omega, idxS_get z _ _ h1, Option.bind_some]
 have e0 : (UInt8.ofNat (v / 256 % 256)).toNat = v / 256 := by rw [UInt8.toNat_ofNat']; omega
 have e1 : (UInt8.ofNat (v % 256)).toNat = v % 256 := by rw [UInt8.toNat_ofNat']; omega
 rw [e0, e1, i64_id (n := ((v / 256 : Nat) : Int)) (by omega), i64_id (n := ((v % 256 : Nat) : Int)) (by omega), i64_id (n := ((v / 256 : Nat) : Int) * 256) (by omega)]
 have e2 : ((v / 256 : Nat) : Int) * 256 = ((v / 256 * 256 : Nat) : Int) := by omega
 rw [e2, bOr_i64 (by omega) (by omega)]
 have h4 := or_add 8 (x := v / 256) (y := v % 256) (by omega)
 rw [show (2 : Nat) ^ 8 = 256 from rfl] at h4
 rw [h4]
 congr 2
 omega
theorem get_at (z : ByteArray) (o n v : Nat) (oi ni : Int) (ho : oi = o) (hni : ni = n) (pre post : List UInt8) (h : L z = pre ++ (beL n v ++ post)) (hp : pre.length = o) (hv : v < 256 ^ n) (hn : 1 ≤ n ∧ n ≤ 8) (hz : z.size ≤ 100000) : octets_Get.f 2000 z oi ni = some ((v : Int), 0) := by
 subst ho; subst hni
 have hs : z.size = o + (n + post.length) := by rw [← L_length, h]; simp [beL_length, hp]
 rw [get_in z o n hn (by omega) (by omega)]
 have := at2_app z o n v pre post h hp hv
 unfold at2 at this
 rw [this]
theorem wsum_h1 (n id : Nat) : 0 < wsum (h1L n id) := by
 unfold h1L
 rw [List.cons_append, List.cons_append, wsum]
 have : (69 : UInt8).toNat = 69 := rfl
 rw [this]; omega
theorem ip_right (id src dst : Nat) (body : List UInt8) (z : ByteArray) (hz : L z = ipL id src dst body) (hb : body.length ≤ 10000) : ∃ t, sliceS z 0 20 = some t ∧ csum_Right.f 2000 [t] = some true := by
 have hs : z.size = 20 + body.length := by rw [← L_length, hz, ipL_length]
 refine ⟨_, sliceS_eq (by omega), ?_⟩
 have hL : L (z.extract (Int.toNat 0) (Int.toNat 20)) = h1L body.length id ++ (beL 2 (sumN body.length id src dst) ++ abL src dst) := by
  rw [L_extract, hz]
  simp only [ipL]
  show ((h1L body.length id ++ (beL 2 (sumN body.length id src dst) ++ (abL src dst ++ body))).drop 0).take (20 - 0) = _
  rw [List.drop_zero, ← List.append_assoc (beL 2 _), ← List.append_assoc (h1L _ _)]
  rw [List.take_left' (by simp [h1L_length, abL_length, beL_length])]
 have hfl : (([z.extract (Int.toNat 0) (Int.toNat 20)] : List ByteArray).map L).flatten = h1L body.length id ++ (beL 2 (sumN body.length id src dst) ++ abL src dst) := by rw [List.map_cons, List.map_nil, List.flatten_cons, List.flatten_nil, List.append_nil, hL]
 rw [right_even _ 10 (by simp) (by rw [hfl]; simp [h1L_length, abL_length, beL_length]) (by omega), hfl, wsum_append 5 _ _ (by rw [h1L_length]), wsum_append 1 _ _ (by rw [beL_length]), wsum_beL2 _ (sumN_lt _ _ _ _)]
 have hpos := wsum_h1 body.length id
 have := foldN_right (wsum (h1L body.length id) + wsum (abL src dst)) (by omega)
 have e : wsum (h1L body.length id) + (sumN body.length id src dst + wsum (abL src dst)) = wsum (h1L body.length id) + wsum (abL src dst) + (65535 - foldN (wsum (h1L body.length id) + wsum (abL src dst))) := by unfold sumN; omega
 rw [e, this]
 rfl
theorem read_spec (id src dst : Nat) (hid : id < 65536) (hs : src < 4294967296) (hd : dst < 4294967296) (body : List UInt8) (z : ByteArray) (hz : L z = ipL id src dst body) (hb : body.length ≤ 10000) :
  ∃ b, L b = body ∧ inet_Parse.f 2000 z = some (⟨0, id, true, false, 0, 64, 17, src, dst, b⟩, 0) := by
 have hsz : z.size = 20 + body.length := by rw [← L_length, hz, ipL_length]
 have p4 : (256 : Nat) ^ 4 = 4294967296 := by decide
 obtain ⟨t, ht, hr⟩ := ip_right id src dst body z hz hb
 have i0 : idxS z 0 = some 69 := idxS_get z 0 69 (by rw [hz]; rfl)
 have i1 : idxS z 1 = some 0 := idxS_get z 1 0 (by rw [hz]; rfl)
 have i8 : idxS z 8 = some 64 := idxS_get z 8 64 (by rw [hz]; rfl)
 have i9 : idxS z 9 = some 17 := idxS_get z 9 17 (by rw [hz]; rfl)
 have g2 : inet_get.f z 2 = some ((20 + body.length : Nat) : Int) := inet_get_spec z 2 (20 + body.length) [69, 0] (beL 2 id ++ (beL 2 16384 ++ [64, 17]) ++ (beL 2 (sumN body.length id src dst) ++ (abL src dst ++ body))) (by rw [hz]; simp [ipL, h1L]) rfl (by omega) (by omega)
 have g4 : inet_get.f z 4 = some ((id : Nat) : Int) := inet_get_spec z 4 id ([69, 0] ++ beL 2 (20 + body.length)) (beL 2 16384 ++ [64, 17] ++ (beL 2 (sumN body.length id src dst) ++ (abL src dst ++ body))) (by rw [hz]; simp [ipL, h1L]) (by simp [beL_length]) hid (by omega)
 have g6 : inet_get.f z 6 = some ((16384 : Nat) : Int) := inet_get_spec z 6 16384 ([69, 0] ++ beL 2 (20 + body.length) ++ beL 2 id) ([64, 17] ++ (beL 2 (sumN body.length id src dst) ++ (abL src dst ++ body))) (by rw [hz]; simp [ipL, h1L]) (by simp [beL_length]) (by omega) (by omega)
 have g12 : octets_Get.f 2000 z 12 4 = some ((src : Int), 0) := get_at z 12 4 src 12 4 rfl rfl (h1L body.length id ++ beL 2 (sumN body.length id src dst)) (beL 4 dst ++ body) (by rw [hz]; simp [ipL, abL]) (by simp [h1L_length, beL_length]) (by omega) (by omega) (by omega)
 have g16 : octets_Get.f 2000 z 16 4 = some ((dst : Int), 0) := get_at z 16 4 dst 16 4 rfl rfl (h1L body.length id ++ beL 2 (sumN body.length id src dst) ++ beL 4 src) body (by rw [hz]; simp [ipL, abL]) (by simp [h1L_length, beL_length]) (by omega) (by omega) (by omega)
 refine ⟨z.extract 20 (20 + body.length), ?_, ?_⟩
 ·rw [L_extract, hz]
  have e : ipL id src dst body = (h1L body.length id ++ beL 2 (sumN body.length id src dst) ++ abL src dst) ++ body := by simp [ipL]
  rw [e, List.drop_left' (by simp [h1L_length, beL_length, abL_length]), Nat.add_sub_cancel_left, List.take_length]
 ·unfold inet_Parse.f inet_read.f
  rw [decide_eq_false (by omega : ¬ ((z.size : Int) < 20)), cond_false, i0, Option.bind_some, show ((69 : Int) != 69) = false from rfl, cond_false, ht, Option.bind_some, hr, Option.bind_some, show (!true) = false from rfl, cond_false, g2, Option.bind_some, g6, Option.bind_some]
  have hb1 : ((bAnd .i64 ((16384 : Nat) : Int) 32768) != 0) = false := by kernel_rfl
  have hb2 : ((bAnd .i64 ((16384 : Nat) : Int) 16384) != 0) = true := by kernel_rfl
  have hb3 : ((bAnd .i64 ((16384 : Nat) : Int) 8192) != 0) = false := by kernel_rfl
  have hb4 : Int.tmod ((16384 : Nat) : Int) 8192 = 0 := by kernel_rfl
  have hb5 : i64 0 = 0 := by kernel_rfl
  have hb6 : i64 64 = 64 := by kernel_rfl
  have hb7 : i64 17 = 17 := by kernel_rfl
  rw [hb1, decide_eq_false (by omega : ¬ (((20 + body.length : Nat) : Int) < 20)), show (false || false) = false from rfl, cond_false, decide_eq_false (by omega : ¬ (((20 + body.length : Nat) : Int) > (z.size : Int))), cond_false, g12, Option.bind_some]
  simp only
  rw [g16, Option.bind_some]
  simp only
  rw [i1, Option.bind_some, g4, Option.bind_some, i8, Option.bind_some, i9, Option.bind_some, sliceS_eq (by omega), Option.bind_some, hb2, hb3, hb4, hb5, hb6, hb7, u32_id ⟨by omega, by omega⟩, u32_id ⟨by omega, by omega⟩, Option.bind_some]
  simp only [Int.toNat_natCast]
  rfl
theorem uparse_spec (src dst : Int) (p : Nat) (hp : p < 65536) (body : List UInt8) (z : ByteArray) (hz : L z = udpL p body) (hb : body.length ≤ 10000) : ∃ b, L b = body ∧ udp_Parse.f 2000 src dst z = some (⟨p, 4789, true, b⟩, 0) := by
 have hsz : z.size = 8 + body.length := by rw [← L_length, hz, udpL_length]
 have p2 : (256 : Nat) ^ 2 = 65536 := by decide
 have g0 : octets_Get.f 2000 z 0 2 = some ((p : Int), 0) := get_at z 0 2 p 0 2 rfl rfl [] (beL 2 4789 ++ (beL 2 (8 + body.length) ++ (beL 2 0 ++ body))) (by rw [hz]; rfl) rfl (by omega) (by omega) (by omega)
 have g2 : octets_Get.f 2000 z 2 2 = some (((4789 : Nat) : Int), 0) := get_at z 2 2 4789 2 2 rfl rfl (beL 2 p) (beL 2 (8 + body.length) ++ (beL 2 0 ++ body)) (by rw [hz]; rfl) (by rw [beL_length]) (by omega) (by omega) (by omega)
 have g4 : octets_Get.f 2000 z 4 2 = some (((8 + body.length : Nat) : Int), 0) := get_at z 4 2 (8 + body.length) 4 2 rfl rfl (beL 2 p ++ beL 2 4789) (beL 2 0 ++ body) (by rw [hz]; simp [udpL]) (by simp [beL_length]) (by omega) (by omega) (by omega)
 have g6 : octets_Get.f 2000 z 6 2 = some (((0 : Nat) : Int), 0) := get_at z 6 2 0 6 2 rfl rfl (beL 2 p ++ beL 2 4789 ++ beL 2 (8 + body.length)) body (by rw [hz]; simp [udpL]) (by simp [beL_length]) (by omega) (by omega) (by omega)
 refine ⟨z.extract 8 (8 + body.length), ?_, ?_⟩
 ·rw [L_extract, hz]
  have e : udpL p body = (beL 2 p ++ beL 2 4789 ++ beL 2 (8 + body.length) ++ beL 2 0) ++ body := by simp [udpL]
  rw [e, List.drop_left' (by simp [beL_length]), Nat.add_sub_cancel_left, List.take_length]
 ·have hw : udp_wrong.f 2000 src dst z = some (4, ((8 + body.length : Nat) : Int)) := by
   unfold udp_wrong.f
   rw [decide_eq_false (by omega : ¬ ((z.size : Int) < 8)), cond_false, g4, Option.bind_some]
   simp only
   rw [g6, Option.bind_some]
   simp only
   rw [i64_id (n := ((8 + body.length : Nat) : Int)) (by omega), decide_eq_false (by omega : ¬ (((8 + body.length : Nat) : Int) < 8)), cond_false, decide_eq_false (by omega : ¬ (((8 + body.length : Nat) : Int) > (z.size : Int))), cond_false, show ((((0 : Nat) : Int)) != 0) = false from rfl, cond_false]
   unfold udp_wrong.k1
   rw [cond_false, i64_id (by omega)]
  unfold udp_Parse.f
  rw [hw, Option.bind_some]
  simp only
  rw [show ((4 : Int) == 0) = false from rfl, cond_false, show ((4 : Int) == 2) = false from rfl, cond_false, show ((4 : Int) == 1) = false from rfl, cond_false, show ((4 : Int) == 3) = false from rfl, cond_false, g0, Option.bind_some]
  simp only
  rw [g2, Option.bind_some]
  simp only
  rw [sliceS_eq (by omega), Option.bind_some, sliceS_eq (by omega), Option.bind_some, i64_id (n := (p : Int)) (by omega), i64_id (n := ((4789 : Nat) : Int)) (by omega)]
  have e68 : (z.extract (Int.toNat 6) (Int.toNat 8)).toList = (⟨#[0, 0]⟩ : ByteArray).toList := by
   rw [toList_eq, toList_eq, L_extract, hz]
   have e : udpL p body = (beL 2 p ++ beL 2 4789 ++ beL 2 (8 + body.length)) ++ (beL 2 0 ++ body) := by simp [udpL]
   rw [e]
   show ((beL 2 p ++ beL 2 4789 ++ beL 2 (8 + body.length) ++ (beL 2 0 ++ body)).drop 6).take (8 - 6) = _
   rw [List.drop_left' (by simp [beL_length])]
   rfl
  rw [e68, beq_self_eq_true]
  simp only [Int.toNat_natCast]
  rfl
theorem flag_all : ((List.range 256).all fun n => ((bAnd .u8 (n : Int) 8) == 0) == decide (n / 8 % 2 = 0)) = true := by kernel_rfl
theorem flag_spec (n : Nat) (h : n < 256) : ((bAnd .u8 (n : Int) 8) == 0) = decide (n / 8 % 2 = 0) := by
 have := List.all_eq_true.1 flag_all n (List.mem_range.2 h)
 simpa using this
def vxR (s : ByteArray) : Int × ByteArray × Int :=
 if s.size < 8 then (0, ⟨#[]⟩, 80) else if ((L s).headD 0).toNat / 8 % 2 = 0 then (0, ⟨#[]⟩, 81) else ((at2 s 4 3 : Nat), s.extract 8 s.size, 0)
theorem idxS_at (s : ByteArray) (i : Nat) (x : UInt8) (h : (L s)[i]? = some x) : idxS s (i : Int) = some ((x.toNat : Nat) : Int) := by
 unfold idxS
 rw [if_pos (by omega)]
 have : s.data[(i : Int).toNat]? = some x := by rw [← Array.getElem?_toList]; exact h
 rw [this]; rfl
theorem vx_spec (s : ByteArray) (hs : s.size ≤ 140737488351232) : vxlan_Parse.f 2000 s = some (vxR s) := by
 unfold vxlan_Parse.f vxR
 by_cases h8 : s.size < 8
 ·rw [if_pos h8, show decide ((s.size : Int) < 8) = true by simp; omega]; rfl
 ·rw [if_neg h8, show decide ((s.size : Int) < 8) = false by simp; omega, cond_false]
  have hlen : (L s).length = s.size := L_length s
  obtain ⟨x, r, hx⟩ : ∃ x r, L s = x :: r := by
   cases hL : L s with
   | nil => rw [hL] at hlen; simp at hlen; omega
   | cons x r => exact ⟨x, r, rfl⟩
  have h0 := idxS_at s 0 x (by rw [hx]; rfl)
  rw [show ((0 : Nat) : Int) = 0 from rfl] at h0
  rw [h0, Option.bind_some, flag_spec _ x.toNat_lt]
  have hhead : ((L s).headD 0).toNat = x.toNat := by rw [hx]; rfl
  rw [hhead]
  by_cases hf : x.toNat / 8 % 2 = 0
  ·rw [if_pos hf, decide_eq_true hf]; rfl
  ·rw [if_neg hf, decide_eq_false hf, cond_false]
   have hg := get_in s 4 3 (by omega) (by omega) hs
   have h4 : octets_Get.f 2000 s 4 3 = some (((beV (((L s).drop 4).take 3) : Nat) : Int), 0) := hg
   rw [h4, Option.bind_some]
   simp only
   have hlt : beV (((L s).drop 4).take 3) < 256 ^ 3 := by
    have := beV_lt (((L s).drop 4).take 3)
    refine Nat.lt_of_lt_of_le this (Nat.pow_le_pow_right (by decide) ?_)
    rw [List.length_take]; omega
   rw [sliceS_eq (by omega), Option.bind_some, i64_id (by omega)]
   simp only [Int.toNat_natCast]
   rfl
open Ci (V Ent)
theorem vx_back (n : Nat) (hn : n ≤ 16777215) (fr : List UInt8) (b : ByteArray) (h : L b = vxL n fr) : ∃ s, vxR b = ((n : Int), s, 0) ∧ L s = fr := by
 have hs : b.size = 8 + fr.length := by rw [← L_length, h, vxL_length]
 refine ⟨b.extract 8 b.size, ?_, ?_⟩
 ·unfold vxR
  have hh : ((L b).headD 0).toNat = 8 := by rw [h]; rfl
  rw [if_neg (by omega), hh, if_neg (by omega)]
  have : at2 b 4 3 = n := at2_app b 4 3 n [8, 0, 0, 0] ([0] ++ fr) (by rw [h]; rfl) rfl (by rw [show (256 : Nat) ^ 3 = 16777216 from rfl]; omega)
  rw [this]
 ·rw [L_drop, h]
  have e : vxL n fr = ([8, 0, 0, 0] ++ beL 3 n ++ [0]) ++ fr := by simp [vxL]
  rw [e, List.drop_left' (by simp [beL_length])]
theorem all_app {p : Ent → Prop} {l l' : List Ent} (h : ∀ e ∈ l, p e) (h' : ∀ e ∈ l', p e) : ∀ e ∈ l ++ l', p e := fun e he => (List.mem_append.1 he).elim (h e) (h' e)
theorem all_two {p : Ent → Prop} {a b : Ent} (h : p a) (h' : p b) : ∀ e ∈ [a, b], p e := fun e he => by
 rcases List.mem_cons.1 he with rfl | he
 ·exact h
 ·obtain rfl := List.mem_singleton.1 he; exact h'
theorem all_one {p : Ent → Prop} {a : Ent} (h : p a) : ∀ e ∈ [a], p e := fun e he => by obtain rfl := List.mem_singleton.1 he; exact h
theorem all_cons {p : Ent → Prop} {a : Ent} {l : List Ent} (h : p a) (h' : ∀ e ∈ l, p e) : ∀ e ∈ a :: l, p e := fun e he => by
 rcases List.mem_cons.1 he with rfl | he
 ·exact h
 ·exact h' e he
section
variable [Ci.Sym]
theorem ent {f : Nat} {vs : List V} {v : V} {args : Array Value} {x : Value} (hf : Ci.hasF Tryz.prog f = true) (h1 : Ci.flats vs = true) (h2 : Ci.flat v = true) (ha : (Ci.toVals vs).toArray = args) (hx : Ci.toVal v = x) (hp : Pure Tryz.prog Glob f args x) : Ci.EntOk Tryz.prog Glob ⟨f, vs, v⟩ := by
 subst ha; subst hx
 exact ⟨hf, h1, h2, hp⟩
theorem ok1_val {v : V} {x : Value} (h : Ci.toVal v = x) : Ci.toVal (okV1 v) = .tuple #[x, .int .i64 0] := by
 simp [okV1, Ci.toVal, Ci.toVals, n64, h]
theorem ok1_flat {v : V} (h : Ci.flat v = true) : Ci.flat (okV1 v) = true := by
 simp [okV1, Ci.flat, Ci.flats, n64, h]
theorem us_val (n : Nat) : Ci.toVal (.us n) = .string (Ci.Sym.S n) := by simp [Ci.toVal]
theorem bp_ok (a : api_Frame) (f : V) (n : Nat) (hf : Ci.toVal f = api_Frame.v a) (hfl : Ci.flat f = true) (hg : Good a) (hz : 14 + a.Body.size + (if a.Tag.Has then 4 else 0) ≤ 1600) (hn : Ci.Sym.S n = ⟨(frameL a).toArray⟩) : ∀ e ∈ bpT f n, Ci.EntOk Tryz.prog Glob e := by
 refine all_two (ent (args := #[api_Frame.v a]) (by kernel_rfl) (by simp [Ci.flats, hfl]) (ok1_flat (by simp [Ci.flat])) (by simp [Ci.toVals, hf]) (ok1_val (us_val n)) ?_)
  (ent (args := #[.string (Ci.Sym.S n)]) (by kernel_rfl) (by simp [Ci.flats, Ci.flat]) (ok1_flat hfl) (by simp [Ci.toVals, us_val]) (ok1_val hf) ?_)
 ·rw [hn]; exact ether_Build_calls 2000 a _ (build_good a hg)
 ·have h1 := parse_build a hg (Ci.Sym.S n) [] (by rw [hn, L_mk, List.append_nil]) (by rw [hn, mk_size, frameL_len]; exact hz)
  rw [more_nil] at h1
  have h2 := parse_spec (Ci.Sym.S n)
  rw [h1] at h2
  exact ether_Parse_calls 2000 _ _ h2
theorem vx_ok (n p v : Nat) (pn : Nat) (hp : vxlan_Port.f 2000 (Ci.Sym.S n) = some (pn : Int)) (hpi : Ci.Sym.I p = pn) (hv : vxlan_Build.f 2000 1000 (Ci.Sym.S n) = some (Ci.Sym.S v, 0)) (hL : L (Ci.Sym.S v) = vxL 1000 (L (Ci.Sym.S n))) (hz : (Ci.Sym.S v).size ≤ 100000) : ∀ e ∈ vxT n p v, Ci.EntOk Tryz.prog Glob e := by
 refine all_cons (ent (args := #[.string (Ci.Sym.S n)]) (x := .int .i64 pn) (by kernel_rfl) (by simp [Ci.flats, Ci.flat]) (by simp [Ci.flat]) (by simp [Ci.toVals, us_val]) (by simp [Ci.toVal, hpi]) (vxlan_Port_calls 2000 _ _ hp))
  (all_two (ent (args := #[.int .i64 1000, .string (Ci.Sym.S n)]) (by kernel_rfl) (by simp [Ci.flats, Ci.flat, n64]) (ok1_flat (by simp [Ci.flat])) (by simp [Ci.toVals, Ci.toVal, n64]) (ok1_val (us_val v)) (vxlan_Build_calls 2000 _ _ _ hv))
  (ent (args := #[.string (Ci.Sym.S v)]) (x := .tuple #[.int .i64 1000, .string (Ci.Sym.S n), .int .i64 0]) (by kernel_rfl) (by simp [Ci.flats, Ci.flat]) (by simp [Ci.flats, Ci.flat, n64]) (by simp [Ci.toVals, us_val]) (by simp [Ci.toVals, Ci.toVal, n64]) ?_))
 obtain ⟨s, h1, h2⟩ := vx_back 1000 (by decide) _ _ hL
 obtain rfl := L_inj h2
 have h3 := vx_spec (Ci.Sym.S v) (by omega)
 rw [h1] at h3
 exact vxlan_Parse_calls 2000 _ _ h3
theorem ud_val (p b pn : Nat) (hpi : Ci.Sym.I p = pn) : Ci.toVal (udV p b) = api_Udp.v ⟨pn, 4789, true, Ci.Sym.S b⟩ := by simp [udV, Ci.toVal, Ci.toVals, n64, hpi, api_Udp.v]
theorem ud_flat (p b : Nat) : Ci.flat (udV p b) = true := by simp [udV, Ci.flat, Ci.flats, n64, Ci.isCell]
theorem ud_ok (s d p v u : Nat) (pn : Nat) (hpi : Ci.Sym.I p = pn) (hp : pn < 65536) (hb : (Ci.Sym.S v).size ≤ 10000) (hL : L (Ci.Sym.S u) = udpL pn (L (Ci.Sym.S v))) : ∀ e ∈ udT s d p v u, Ci.EntOk Tryz.prog Glob e := by
 refine all_two (ent (args := #[.int .u32 s, .int .u32 d, api_Udp.v ⟨pn, 4789, true, Ci.Sym.S v⟩]) (by kernel_rfl) (by simp [Ci.flats, Ci.flat, m32, ud_flat]) (ok1_flat (by simp [Ci.flat])) (by simp [Ci.toVals, Ci.toVal, m32, ud_val p v pn hpi]) (ok1_val (us_val u)) ?_)
  (ent (args := #[.int .u32 s, .int .u32 d, .string (Ci.Sym.S u)]) (by kernel_rfl) (by simp [Ci.flats, Ci.flat, m32]) (ok1_flat (ud_flat p v)) (by simp [Ci.toVals, Ci.toVal, m32]) (ok1_val (ud_val p v pn hpi)) ?_)
 ·obtain ⟨z, h1, h2⟩ := ubuild_good (s : Int) (d : Int) pn hp (Ci.Sym.S v) hb
  rw [← hL] at h2
  obtain rfl := L_inj h2
  exact udp_Build_calls 2000 _ _ _ _ h1
 ·obtain ⟨b, h1, h2⟩ := uparse_spec (s : Int) (d : Int) pn hp _ _ hL (by rw [L_length]; exact hb)
  obtain rfl := L_inj h1
  exact udp_Parse_calls 2000 _ _ _ _ h2
theorem ip_val (id s d b : Nat) : Ci.toVal (ipV id s d b) = api_Ip.v ⟨0, id, true, false, 0, 64, 17, s, d, Ci.Sym.S b⟩ := by simp [ipV, Ci.toVal, Ci.toVals, n64, m32, api_Ip.v]
theorem ip_flat (id s d b : Nat) : Ci.flat (ipV id s d b) = true := by simp [ipV, Ci.flat, Ci.flats, n64, m32, Ci.isCell]
theorem ip_ok (id s d u q : Nat) (hid : id < 65536) (hs : s < 4294967296) (hd : d < 4294967296) (hb : (Ci.Sym.S u).size ≤ 10000) (hL : L (Ci.Sym.S q) = ipL id s d (L (Ci.Sym.S u))) : ∀ e ∈ ipT id s d u q, Ci.EntOk Tryz.prog Glob e := by
 refine all_two (ent (args := #[api_Ip.v ⟨0, id, true, false, 0, 64, 17, s, d, Ci.Sym.S u⟩]) (by kernel_rfl) (by simp [Ci.flats, ip_flat]) (ok1_flat (by simp [Ci.flat])) (by simp [Ci.toVals, ip_val]) (ok1_val (us_val q)) ?_)
  (ent (args := #[.string (Ci.Sym.S q)]) (by kernel_rfl) (by simp [Ci.flats, Ci.flat]) (ok1_flat (ip_flat id s d u)) (by simp [Ci.toVals, us_val]) (ok1_val (ip_val id s d u)) ?_)
 ·obtain ⟨z, h1, h2⟩ := ibuild_good id s d hid hs hd (Ci.Sym.S u) hb
  rw [← hL] at h2
  obtain rfl := L_inj h2
  exact inet_Build_calls 2000 _ _ h1
 ·obtain ⟨b, h1, h2⟩ := read_spec id s d hid hs hd _ _ hL (by rw [L_length]; exact hb)
  obtain rfl := L_inj h1
  exact inet_Parse_calls 2000 _ _ h2
end
theorem arp_cases (f : api_Frame) : arpR f = (arp0, false) ∨ ∃ op m s t i : Nat, (op = 1 ∨ op = 2) ∧ m < 2 ^ 64 ∧ s < 4294967296 ∧ t < 2 ^ 64 ∧ i < 4294967296 ∧ arp_Check.f ⟨op, m, s, t, i⟩ = some 0 ∧ arpR f = (⟨op, m, s, t, i⟩, true) := by
 unfold arpR
 split
 ·rename_i h
  obtain ⟨h1, h2⟩ := h
  right
  unfold arpParseR at h2 ⊢
  split at h2
  ·cases h2
  ·rename_i hsz
   rw [if_neg hsz]
   split at h2
   ·rename_i hg
    rw [if_pos hg]
    unfold arpGood at hg
    rw [Bool.and_eq_true] at hg
    have p8 := at2_lt f.Body 8 6
    have p14 := at2_lt f.Body 14 4
    have p18 := at2_lt f.Body 18 6
    have p24 := at2_lt f.Body 24 4
    have e6 : (256 : Nat) ^ 6 = 281474976710656 := by decide
    have e4 : (256 : Nat) ^ 4 = 4294967296 := by decide
    obtain ⟨c, c1, c2⟩ := check_arp f.Body
    rw [hg.2] at c2
    have c0 : c = 0 := by simpa using c2
    subst c0
    refine ⟨_, _, _, _, _, ?_, by omega, by omega, by omega, by omega, c1, rfl⟩
    have := hg.2
    rw [Bool.and_eq_true, Bool.or_eq_true] at this
    simpa using this.1
   ·cases h2
 ·exact .inl rfl
theorem honest_spec (f : api_Frame) (hs : f.Body.size ≤ 100000) : suppress_honest.f 2000 f = some (if (arpR f).2 = true ∧ (arpR f).1.SMac = f.Src then ((arpR f).1, true) else (arp0, false)) := by
 unfold suppress_honest.f
 rw [arp_spec f hs, Option.bind_some]
 obtain ⟨a, b⟩ := arpR f
 simp only
 cases b
 ·rw [if_neg (by simp)]; rfl
 ·by_cases h : a.SMac = f.Src
  ·rw [if_pos ⟨rfl, h⟩, h]; simp
  ·rw [if_neg (fun e => h e.2)]
   have : (a.SMac != f.Src) = true := by simp [h]
   rw [this]; rfl
theorem key_spec (n : Nat) (h : n < 4294967296) : binding_key.f 5 (n : Int) = some ((21474836480 + n : Nat) : Int) := by
 unfold binding_key.f
 rw [show u64 ((u64 5) * 4294967296) = ((5 * 2 ^ 32 : Nat) : Int) by kernel_rfl, u64_id (by omega), bOr_u64 (by decide) (by omega), or_add 32 (by omega)]
theorem cmp_spec (a b : Int) : cmp_Compare_uint64.f a b = some (if a < b then -1 else if b < a then 1 else 0) := by
 unfold cmp_Compare_uint64.f cmp_isNaN_uint64.f
 have e : ∀ a : Int, (a != a) = false := fun a => by simp
 rw [e, e]
 simp only [Option.bind_some, cond_false]
 by_cases h1 : a < b
 ·rw [if_pos h1, decide_eq_true h1]; rfl
 ·rw [if_neg h1, decide_eq_false h1, cond_false]
  by_cases h2 : b < a
  ·rw [if_pos h2, decide_eq_true h2]; rfl
  ·rw [if_neg h2, decide_eq_false h2]; rfl
structure TopD where
 a0 : ByteArray
 b0 : ByteArray
 ip : Nat
 px : Nat
 py : Nat
 pw : Nat
 vx : ByteArray
 ux : ByteArray
 qx : ByteArray
 qz : ByteArray
 vy : ByteArray
 uy : ByteArray
 qy : ByteArray
 vw : ByteArray
 uw : ByteArray
 qw : ByteArray
def fb (a : api_Frame) : ByteArray := ⟨(frameL a).toArray⟩
def fr0 (d s t : Int) (b : ByteArray) : api_Frame := ⟨d, s, tag0, t, b⟩
def cutM (z : ByteArray) : Int := if (100 : Int) < z.size then 100 else z.size
def cutB (z : ByteArray) : ByteArray := z.extract 0 (cutM z).toNat
def TopD.who (d : TopD) : Nat := Nat.lor d.ip 256
def TopD.X (d : TopD) : api_Frame := fr0 10 6 2048 (cutB d.a0)
def TopD.Y (d : TopD) : api_Frame := fr0 6 10 2048 (cutB d.b0)
def TopD.l1 (d : TopD) : ByteArray := ⟨(laidL 1 10 d.who 0 5).toArray⟩
def TopD.l2 (d : TopD) : ByteArray := ⟨(laidL 1 6 7 0 d.who).toArray⟩
def TopD.l3 (d : TopD) : ByteArray := ⟨(laidL 2 10 d.who 6 7).toArray⟩
def TopD.Q1 (d : TopD) : api_Frame := fr0 281474976710655 10 2054 d.l1
def TopD.Q2 (d : TopD) : api_Frame := fr0 281474976710655 6 2054 d.l2
def TopD.Q3 (d : TopD) : api_Frame := fr0 6 10 2054 d.l3
def TopD.I (d : TopD) (j : Nat) : Int := match j with
 | 0 => d.ip | 1 => d.a0.size | 2 => cutM d.a0 | 11 => d.b0.size | 12 => cutM d.b0 | 20 => d.px | 21 => d.py | 30 => d.who | 31 => ((21474836480 + d.who : Nat) : Int) | 32 => d.pw | 60 => d.qx.size | 61 => d.qy.size | 62 => d.qz.size | 63 => d.qw.size | _ => 0
def TopD.S (d : TopD) (j : Nat) : ByteArray := match j with
 | 0 => d.a0 | 1 => cutB d.a0 | 2 => fb d.X | 3 => d.vx | 4 => d.ux | 5 => d.qx | 6 => fb (fr0 14 2 2048 d.qx) | 10 => d.b0 | 11 => cutB d.b0 | 12 => fb d.Y | 13 => d.vy | 14 => d.uy | 15 => d.qy | 16 => fb (fr0 2 14 2048 d.qy) | 25 => d.qz | 26 => fb (fr0 14 2 2048 d.qz)
 | 30 => d.l1 | 31 => fb d.Q1 | 33 => d.vw | 34 => d.uw | 35 => d.qw | 36 => fb (fr0 2 14 2048 d.qw) | 40 => d.l2 | 41 => fb d.Q2 | 50 => d.l3 | 51 => fb d.Q3 | _ => ⟨#[]⟩
structure TopOk (d : TopD) : Prop where
 ha : d.a0.size < 2 ^ 62
 hb : d.b0.size < 2 ^ 62
 ip : d.ip < 4294967296
 px : vxlan_Port.f 2000 (fb d.X) = some (d.px : Int)
 px2 : d.px < 65536
 vx : vxlan_Build.f 2000 1000 (fb d.X) = some (d.vx, 0)
 vx2 : L d.vx = vxL 1000 (L (fb d.X))
 ux : L d.ux = udpL d.px (L d.vx)
 qx : L d.qx = ipL 0 1 7 (L d.ux)
 qz : L d.qz = ipL 1 1 7 (L d.ux)
 py : vxlan_Port.f 2000 (fb d.Y) = some (d.py : Int)
 py2 : d.py < 65536
 vy : vxlan_Build.f 2000 1000 (fb d.Y) = some (d.vy, 0)
 vy2 : L d.vy = vxL 1000 (L (fb d.Y))
 uy : L d.uy = udpL d.py (L d.vy)
 qy : L d.qy = ipL 0 7 1 (L d.uy)
 pw : vxlan_Port.f 2000 (fb d.Q1) = some (d.pw : Int)
 pw2 : d.pw < 65536
 vw : vxlan_Build.f 2000 1000 (fb d.Q1) = some (d.vw, 0)
 vw2 : L d.vw = vxL 1000 (L (fb d.Q1))
 uw : L d.uw = udpL d.pw (L d.vw)
 qw : L d.qw = ipL 1 7 1 (L d.uw)
theorem cutB_le (z : ByteArray) : (cutB z).size ≤ 100 := by
 unfold cutB
 have : cutM z ≤ 100 := by unfold cutM; split <;> omega
 rw [ByteArray.size_extract]
 omega
theorem fb_size (d s t : Int) (b : ByteArray) : (fb (fr0 d s t b)).size = 14 + b.size := by
 unfold fb
 rw [mk_size, frameL_len]
 simp [fr0, tag0]
theorem laid_size (a b c d e : Nat) : (⟨(laidL a b c d e).toArray⟩ : ByteArray).size = 28 := by
 rw [mk_size]; simp [laidL, beL_length]
theorem wr_size {p n : Nat} {s v u : ByteArray} (h1 : L v = vxL 1000 (L s)) (h2 : L u = udpL p (L v)) (hs : s.size ≤ n) : v.size ≤ 8 + n ∧ u.size ≤ 16 + n := by
 have e1 : v.size = 8 + s.size := by rw [← L_length, h1, vxL_length, L_length]
 have e2 : u.size = 8 + v.size := by rw [← L_length, h2, udpL_length, L_length]
 omega
theorem ip_size {a b c n : Nat} {u q : ByteArray} (h : L q = ipL a b c (L u)) (hu : u.size ≤ n) : q.size ≤ 20 + n := by
 have e1 : q.size = 20 + u.size := by rw [← L_length, h, ipL_length, L_length]
 omega
theorem TopOk.sz {d : TopD} (h : TopOk d) : (d.vx.size ≤ 122 ∧ d.ux.size ≤ 130 ∧ d.qx.size ≤ 150 ∧ d.qz.size ≤ 150) ∧ (d.vy.size ≤ 122 ∧ d.uy.size ≤ 130 ∧ d.qy.size ≤ 150) ∧ (d.vw.size ≤ 122 ∧ d.uw.size ≤ 130 ∧ d.qw.size ≤ 150) := by
 have s1 : (fb d.X).size ≤ 114 := by have := cutB_le d.a0; unfold TopD.X; rw [fb_size]; omega
 have s2 : (fb d.Y).size ≤ 114 := by have := cutB_le d.b0; unfold TopD.Y; rw [fb_size]; omega
 have s3 : (fb d.Q1).size ≤ 114 := by unfold TopD.Q1 TopD.l1; rw [fb_size, laid_size]; omega
 have a := wr_size h.vx2 h.ux s1
 have b := wr_size h.vy2 h.uy s2
 have c := wr_size h.vw2 h.uw s3
 have q1 := ip_size h.qx (n := 130) (by omega)
 have q2 := ip_size h.qz (n := 130) (by omega)
 have q3 := ip_size h.qy (n := 130) (by omega)
 have q4 := ip_size h.qw (n := 130) (by omega)
 omega
theorem who_ge (d : TopD) : 256 ≤ d.who := Nat.right_le_or
theorem who_lt {d : TopD} (h : d.ip < 4294967296) : d.who < 4294967296 := Nat.or_lt_two_pow (n := 32) h (by decide)
theorem or_who {n : Nat} (h : n < 4294967296) : Ci.intBin .or .u32 .u32 (n : Int) 256 = .i .u32 ((Nat.lor n 256 : Nat) : Int) := by
 show V.i .u32 (bif Nat.ble n 0xffffffff && Nat.ble 256 0xffffffff then Int.ofNat (Nat.lor n 256) else _) = _
 rw [Nat.ble_eq_true_of_le (show n ≤ 0xffffffff by omega)]
 rfl
theorem cut_ok (z : ByteArray) (hz : z.size < 2 ^ 62) : (cutM z).toNat ≤ z.size ∧ 0 ≤ cutM z := by unfold cutM; split <;> omega
abbrev topSym (d : TopD) (h : TopOk d) : Ci.Sym where
 g := noGlob
 I := d.I
 S := d.S
 eqs := [(.ui .u32 30, m32 0, false), (.ui .u32 30, m32 5, false), (m32 7, .ui .u32 30, false)]
 eqs_ok := fun e he => by
  have hw := who_ge d
  rcases List.mem_cons.1 he with rfl | he
  ·exact .inl ⟨.u32, d.who, 0, ⟨rfl, rfl⟩, ⟨rfl, rfl⟩, decide_eq_false (by omega)⟩
  rcases List.mem_cons.1 he with rfl | he
  ·exact .inl ⟨.u32, d.who, 5, ⟨rfl, rfl⟩, ⟨rfl, rfl⟩, decide_eq_false (by omega)⟩
  obtain rfl := List.mem_singleton.1 he
  exact .inl ⟨.u32, 7, d.who, ⟨rfl, rfl⟩, ⟨rfl, rfl⟩, decide_eq_false (by omega)⟩
 bins := [(15, .ui .i64 60, n64 1500, .b false), (15, .ui .i64 61, n64 1500, .b false), (15, .ui .i64 62, n64 1500, .b false), (15, .ui .i64 63, n64 1500, .b false), (6, .ui .u32 0, m32 256, .ui .u32 30)]
 bins_ok := fun op x y r hm => by
  have hz := h.sz
  have key : ∀ j : Nat, d.I j ≤ 1500 → (Ci.binN op, x, y, r) = (15, (V.ui .i64 j), n64 1500, V.b false) → ∃ k a c, Ci.DI d.I x k a ∧ Ci.DI d.I y k c ∧ (Ci.intBin op k k a c = r ∨ ∃ e, Ci.intBin op k k a c = .i k e ∧ Ci.DI d.I r k e) := fun j hj he => by
   simp only [Prod.mk.injEq] at he
   obtain ⟨h0, rfl, rfl, rfl⟩ := he
   rw [binN_gtr h0]
   exact ⟨.i64, d.I j, 1500, ⟨rfl, rfl⟩, ⟨rfl, rfl⟩, .inl (gtr_le hj)⟩
  rcases List.mem_cons.1 hm with hm | hm
  ·exact key 60 (by show (d.qx.size : Int) ≤ _; omega) hm
  rcases List.mem_cons.1 hm with hm | hm
  ·exact key 61 (by show (d.qy.size : Int) ≤ _; omega) hm
  rcases List.mem_cons.1 hm with hm | hm
  ·exact key 62 (by show (d.qz.size : Int) ≤ _; omega) hm
  rcases List.mem_cons.1 hm with hm | hm
  ·exact key 63 (by show (d.qw.size : Int) ≤ _; omega) hm
  have he := List.mem_singleton.1 hm
  simp only [Prod.mk.injEq] at he
  obtain ⟨h0, rfl, rfl, rfl⟩ := he
  rw [binN_or h0]
  exact ⟨.u32, d.ip, 256, ⟨rfl, rfl⟩, ⟨rfl, rfl⟩, .inr ⟨d.who, or_who h.ip, rfl, rfl⟩⟩
 lens := [(0, .ui .i64 1), (10, .ui .i64 11), (5, .ui .i64 60), (15, .ui .i64 61), (25, .ui .i64 62), (35, .ui .i64 63)]
 lens_ok := fun e he => by
  simp only [List.mem_cons, List.not_mem_nil, or_false] at he
  rcases he with rfl | rfl | rfl | rfl | rfl | rfl <;> exact ⟨rfl, rfl⟩
 mins := [(.ui .i64 1, n64 100, .ui .i64 2), (.ui .i64 11, n64 100, .ui .i64 12)]
 mins_ok := fun e he => by
  rcases List.mem_cons.1 he with rfl | he
  ·exact ⟨.i64, d.a0.size, 100, ⟨rfl, rfl⟩, ⟨rfl, rfl⟩, ⟨rfl, rfl⟩⟩
  obtain rfl := List.mem_singleton.1 he
  exact ⟨.i64, d.b0.size, 100, ⟨rfl, rfl⟩, ⟨rfl, rfl⟩, ⟨rfl, rfl⟩⟩
 cuts := [(0, .ui .i64 2, .us 1), (10, .ui .i64 12, .us 11)]
 cuts_ok := fun e he => by
  rcases List.mem_cons.1 he with rfl | he
  ·have hm := cut_ok d.a0 h.ha
   exact ⟨.i64, (cutM d.a0).toNat, ⟨rfl, (Int.toNat_of_nonneg hm.2).symm⟩, hm.1, h.ha, rfl⟩
  obtain rfl := List.mem_singleton.1 he
  have hm := cut_ok d.b0 h.hb
  exact ⟨.i64, (cutM d.b0).toNat, ⟨rfl, (Int.toNat_of_nonneg hm.2).symm⟩, hm.1, h.hb, rfl⟩
def whoV : V := .ui .u32 30
def q1V : V := frV 281474976710655 10 (n64 2054) (.us 30)
def q2V : V := frV 281474976710655 6 (n64 2054) (.us 40)
def a1V : V := arV 1 (m64 10) whoV (m64 0) (m32 5)
def a2V : V := arV 1 (m64 6) (m32 7) (m64 0) whoV
def a3V : V := arV 2 (m64 10) whoV (m64 6) (m32 7)
def topT1 : List Ent := bpT (frV 10 6 (n64 2048) (.us 1)) 2 ++ (vxT 2 20 3 ++ (udT 1 7 20 3 4 ++ (ipT 0 1 7 4 5 ++ (bpT (frV 14 2 (n64 2048) (.us 5)) 6 ++ (ipT 1 1 7 4 25 ++ bpT (frV 14 2 (n64 2048) (.us 25)) 26)))))
def topT2 : List Ent := bpT (frV 6 10 (n64 2048) (.us 11)) 12 ++ (vxT 12 21 13 ++ (udT 7 1 21 13 14 ++ (ipT 0 7 1 14 15 ++ bpT (frV 2 14 (n64 2048) (.us 15)) 16)))
def topT3 : List Ent := bpT q1V 31 ++ (vxT 31 32 33 ++ (udT 7 1 32 33 34 ++ (ipT 1 7 1 34 35 ++ (bpT (frV 2 14 (n64 2048) (.us 35)) 36 ++ (bpT q2V 41 ++ bpT (frV 6 10 (n64 2054) (.us 50)) 51)))))
def topT4 : List Ent := [⟨36, [a1V], .us 30⟩, ⟨290, [q1V], .tup [a1V, .b true]⟩, ⟨292, [n64 5, whoV], .ui .u64 31⟩, ⟨301, [.ui .u64 31, m64 21474836485], n64 1⟩, ⟨36, [a2V], .us 40⟩, ⟨290, [q2V], .tup [a2V, .b true]⟩, ⟨301, [.ui .u64 31, m64 21474836487], n64 1⟩, ⟨301, [m64 21474836487, .ui .u64 31], .i .i64 (-1)⟩, ⟨301, [.ui .u64 31, .ui .u64 31], n64 0⟩, ⟨36, [a3V], .us 50⟩, ⟨22, [a3V], .us 50⟩, ⟨13, [], .b true⟩]
def topArg (d s : Int) (h : Bool) (p : Int) (e : Bool) (v y : Int) (n : Nat) : V := .agg [.c (.int .u64 d), .c (.int .u64 s), .c (.bool h), .c (.int .i64 p), .c (.bool e), .c (.int .i64 v), .c (.int .i64 y), .us n]
section
variable [Ci.Sym]
noncomputable def topSp (tab : List Ent) : Nat → Option (List V → Ci.St → Ci.R) := Ci.oneSp 305 Ci.spIns (runSp tab)
theorem topSp_ok {tab : List Ent} (hG : Ci.GOk Glob) (h : ∀ e ∈ tab, Ci.EntOk Tryz.prog Glob e) : Ci.SpOk Tryz.prog (topSp tab) := Ci.oneSp_ok (fun w0 T vs s v s' θ w args => Ci.spIns_ok insRun w0 T vs s v s' θ w args) (runSp_ok hG h)
noncomputable def topRun (tab : List Ent) (f : Nat) (vs : List V) : Bool := Ci.isTrue (Ci.runF (topSp tab) (Ci.getF Tryz.prog) (Ci.yOf Tryz.prog) 60 f vs ⟨.e, .lf⟩)
theorem topRun_ok {tab : List Ent} {f : Nat} {vs : List V} (hG : Ci.GOk Glob) (hf : Ci.hasF Tryz.prog f = true) (h : ∀ e ∈ tab, Ci.EntOk Tryz.prog Glob e) (hv : Ci.flats vs = true) (hr : topRun tab f vs = true) : Pure Tryz.prog Glob f (Ci.toVals vs).toArray (.bool true) :=
 Ci.symbols_ok hG (topSp_ok hG h) hf (Ci.flats_rv hv) hr
end
end Go.Proofs.YtlihmahekidkaaaGreatDoor
