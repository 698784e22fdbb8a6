/- Plain arithmetic of the functions' models: no conditions but those that each theorem bears. -/
import Derived.Test.YtbodofjnfmjbpaaGreatDoorF1
import Derived.Test.YtbodofjnfmjbpaaGreatDoorF3
import Derived.Test.YtbodofjnfmjbpaaGreatDoorE2
import Derived.Test.YtbodofjnfmjbpaaGreatDoorF2
import Derived.Test.YtbodofjnfmjbpaaGreatDoorF5

namespace Go.Proofs.YtbodofjnfmjbpaaGreatDoor
open Go Eng
set_option linter.unusedVariables false
set_option linter.unusedSimpArgs false

theorem pow256 (i : Nat) : (2 : Nat) ^ (8 * i) = 256 ^ i := by rw [Nat.pow_mul]
theorem shr_spec (v i : Nat) (hi : i ≤ 7) : shrI .u64 (v : Int) (i64 (8 * (i : Int))) = some ((v / 256 ^ i : Nat) : Int) := by
  rw [i64_id (by omega)]
  simp only [shrI, IntKind.bits]
  rw [if_neg (by omega)]
  have : (8 * (i : Int)).toNat = 8 * i := by omega
  rw [this, Nat.min_eq_left (by omega), ← pow256, Int.fdiv_eq_ediv_of_nonneg _ (Int.pow_nonneg (by decide)), Int.natCast_ediv, Int.natCast_pow]
  rfl

theorem drop_set {α : Type} (l : List α) (i : Nat) (b : α) (hi : i < l.length) : (l.set i b).drop i = b :: l.drop (i + 1) := by
  apply List.ext_getElem?
  intro j
  rw [List.getElem?_drop]
  cases j with
  | zero => simp [hi]
  | succ j =>
    rw [List.getElem?_cons_succ, List.getElem?_drop, List.getElem?_set_ne (by omega)]
    congr 1; omega

theorem put_loop (v w : Nat) (hw : 1 ≤ w ∧ w ≤ 8) : ∀ (j i : Nat) (xs : List Int) (fuel : Nat), i + j = w → xs.length = w → j < fuel → xs.drop (w - i) = (beL i v).map (fun b => (b.toNat : Int)) →
    octets_Put.l3 w v w fuel i xs = some (be w v, 0)
  | 0, i, xs, 0, hij, hl, hf, hd => by omega
  | 0, i, xs, fuel + 1, hij, hl, hf, hd => by
    obtain rfl : i = w := by omega
    simp only [octets_Put.l3]
    rw [show decide ((i : Int) < (i : Int)) = false by simp]
    simp only [cond_false, octets_Put.k4]
    rw [show i - i = 0 by omega, List.drop_zero] at hd
    have : strOf i xs = some (be i v) := by
      unfold strOf
      rw [if_pos (by omega), List.take_of_length_le (by omega)]
      congr 1
      rw [hd]
      simp only [strOfNums, be, List.map_map]
      congr 1
      rw [show ((fun n : Int => UInt8.ofNat n.toNat) ∘ fun b : UInt8 => (b.toNat : Int)) = id by funext b; simp]
      simp
    rw [this]
    rfl
  | j + 1, i, xs, 0, hij, hl, hf, hd => by omega
  | j + 1, i, xs, fuel + 1, hij, hl, hf, hd => by
    simp only [octets_Put.l3]
    rw [show decide ((i : Int) < (w : Int)) = true by simp; omega]
    simp only [cond_true]
    rw [shr_spec v i (by omega), i64_id (n := (w : Int) - 1) (by omega), i64_id (n := (w : Int) - 1 - (i : Int)) (by omega), i64_id (n := (i : Int) + 1) (by omega)]
    have hg : ((w : Int) - 1 - (i : Int)).toNat = w - (i + 1) := by omega
    obtain ⟨x, hx⟩ : ∃ x, getL w xs ((w : Int) - 1 - (i : Int)) = some x := by
      unfold getL
      rw [if_pos (by omega), hg]
      exact ⟨_, List.getElem?_eq_getElem (by omega)⟩
    rw [hx]
    simp only [Option.bind_some]
    have := put_loop v w hw j (i + 1) (List.set xs (w - (i + 1)) (u8 ((v / 256 ^ i : Nat) : Int))) fuel (by omega) (by simpa using hl) (by omega) (by
      rw [drop_set _ _ _ (by omega)]
      simp only [beL, List.map_cons]
      rw [show w - (i + 1) + 1 = w - i by omega, hd]
      congr 1
      rw [u8_mod]
      simp)
    rw [hg]
    exact this

theorem put_spec (v w : Nat) (hw : 1 ≤ w ∧ w ≤ 8) (hv : v < 256 ^ w) (hv2 : v < 2 ^ 64) : octets_Put.f 2000 v w = some (be w v, 0) := by
  have hk : octets_Put.k2 w v 2000 false = some (be w v, 0) := by
    simp only [octets_Put.k2, cond_false]
    have : mkLen 1 w = some w := by
      unfold mkLen
      rw [if_pos (by omega)]
      simp
    rw [this, Option.bind_some]
    exact put_loop v w hw w 0 _ 2000 (by omega) (by simp) (by omega) (by simp [beL])
  simp only [octets_Put.f]
  rw [show ((decide ((w : Int) < 1)) || (decide ((w : Int) > 8))) = false by simp; omega]
  simp only [cond_false]
  by_cases h8 : w < 8
  · rw [show decide ((w : Int) < 8) = true by simp; omega]
    simp only [cond_true]
    rw [shr_spec v w (by omega), Option.bind_some, Nat.div_eq_of_lt hv]
    exact hk
  · rw [show decide ((w : Int) < 8) = false by simp; omega]
    simp only [cond_false]
    exact hk

/-! ### Get -/
theorem mul_or {a c : Nat} (ha : a < 72057594037927936) (hc : c < 256) : bOr .u64 (u64 ((a : Int) * 256)) (u64 (c : Int)) = ((a * 256 + c : Nat) : Int) := by
  rw [u64_id (by omega), u64_id (by omega)]
  have e : ((a : Int) * 256) = ((a * 256 : Nat) : Int) := by omega
  rw [e]
  have h1 : a * 256 < 2 ^ 64 := by omega
  have h2 : c < 2 ^ 64 := by omega
  have h3 := bOr_u64 h1 h2
  rw [h3]
  have h4 := or_add 8 (x := a) (y := c) (by omega)
  rw [show (2 : Nat) ^ 8 = 256 from rfl] at h4
  rw [h4]
theorem get_loop (r : ByteArray) (n : Nat) (hn : n ≤ 8) (hr : r.size = n) : ∀ (j i fuel : Nat), i + j = n → j < fuel → octets_Get.l1 n r fuel ((beV ((L r).take i) : Nat) : Int) i = some (((beV (L r) : Nat) : Int), 0)
  | 0, i, 0, hij, hf => by omega
  | 0, i, fuel + 1, hij, hf => by
    obtain rfl : i = n := by omega
    simp only [octets_Get.l1]
    rw [show decide ((i : Int) < (i : Int)) = false by simp]
    rw [List.take_of_length_le (by rw [L_length]; omega)]
    rfl
  | j + 1, i, 0, hij, hf => by omega
  | j + 1, i, fuel + 1, hij, hf => by
    simp only [octets_Get.l1]
    rw [show decide ((i : Int) < (n : Int)) = true by simp; omega]
    simp only [cond_true]
    have hlen : i < (L r).length := by rw [L_length]; omega
    have hidx : idxS r i = some (((L r)[i].toNat : Nat) : Int) := by
      unfold idxS
      rw [if_pos (by omega)]
      have : (r.data[(i : Int).toNat]?) = some (L r)[i] := by
        rw [← Array.getElem?_toList]
        exact List.getElem?_eq_getElem hlen
      rw [this]; rfl
    rw [hidx, Option.bind_some]
    have ht : (L r).take (i + 1) = (L r).take i ++ [(L r)[i]] := by rw [List.take_append_getElem]
    have hb := beV_lt ((L r).take i)
    rw [List.length_take, Nat.min_eq_left (by omega)] at hb
    have hp : 256 ^ i ≤ 256 ^ 7 := Nat.pow_le_pow_right (by decide) (by omega)
    have h7 : (256 : Nat) ^ 7 = 72057594037927936 := by decide
    have hc := (L r)[i].toNat_lt
    have hval : beV ((L r).take (i + 1)) = beV ((L r).take i) * 256 + (L r)[i].toNat := by
      rw [ht]
      show List.foldl _ 0 (_ ++ _) = _
      rw [List.foldl_append]
      rfl
    have hstep := mul_or (a := beV ((L r).take i)) (c := (L r)[i].toNat) (by omega) (by omega)
    rw [← hval] at hstep
    rw [hstep, i64_id (by omega)]
    have := get_loop r n hn hr j (i + 1) fuel (by omega) (by omega)
    exact this

theorem part_in (s : ByteArray) (o n : Nat) (h : o + n ≤ s.size) (hs : s.size ≤ 140737488351232) : octets_part.f s o n = some (s.extract o (o + n), none) := by
  simp only [octets_part.f]
  rw [show ((decide ((o : Int) < 0)) || (decide ((n : Int) < 0))) = false by simp]
  simp only [cond_false]
  rw [i64_id (by omega), i64_id (by omega)]
  rw [show ((decide ((o : Int) > (s.size : Int))) || (decide ((n : Int) > (s.size : Int) - (o : Int)))) = false by simp; omega]
  simp only [cond_false]
  rw [sliceS_eq (by omega)]
  rfl
theorem part_out (s : ByteArray) (o n : Nat) (h : s.size < o + n) (hs : s.size ≤ 140737488351232) : octets_part.f s o n = some ((⟨#[]⟩ : ByteArray), some ((o : Int), 10)) := by
  simp only [octets_part.f]
  rw [show ((decide ((o : Int) < 0)) || (decide ((n : Int) < 0))) = false by simp]
  simp only [cond_false]
  by_cases ho : s.size < o
  · rw [show decide ((o : Int) > (s.size : Int)) = true by simp; omega]
    rfl
  · rw [i64_id (by omega)]
    rw [show ((decide ((o : Int) > (s.size : Int))) || (decide ((n : Int) > (s.size : Int) - (o : Int)))) = true by simp; omega]
    rfl

theorem get_in (s : ByteArray) (o n : Nat) (hn : 1 ≤ n ∧ n ≤ 8) (h : o + n ≤ s.size) (hs : s.size ≤ 140737488351232) : octets_Get.f 2000 s o n = some (((beV (((L s).drop o).take n) : Nat) : Int), 0) := by
  simp only [octets_Get.f]
  rw [show ((decide ((n : Int) < 1)) || (decide ((n : Int) > 8))) = false by simp; omega]
  simp only [cond_false]
  rw [part_in s o n h hs, Option.bind_some]
  have e : L (s.extract o (o + n)) = ((L s).drop o).take n := by rw [L_extract]; congr 1; omega
  have hz : (s.extract o (o + n)).size = n := by rw [← L_length, e]; simp [L_length]; omega
  have := get_loop (s.extract o (o + n)) n (by omega) hz n 0 2000 (by omega) (by omega)
  rw [e] at this
  exact this
theorem get_out (s : ByteArray) (o n : Nat) (hn : 1 ≤ n ∧ n ≤ 8) (h : s.size < o + n) (hs : s.size ≤ 140737488351232) : octets_Get.f 2000 s o n = some (0, 10) := by
  simp only [octets_Get.f]
  rw [show ((decide ((n : Int) < 1)) || (decide ((n : Int) > 8))) = false by simp; omega]
  simp only [cond_false]
  rw [part_out s o n h hs, Option.bind_some]
  rfl
end Go.Proofs.YtbodofjnfmjbpaaGreatDoor

namespace Go.Proofs.YtbodofjnfmjbpaaGreatDoor
open Go Eng
set_option linter.unusedVariables false
set_option linter.unusedSimpArgs false

def tag0 : api_Tag := ⟨false, 0, false, 0⟩
def frame0 : api_Frame := ⟨0, 0, tag0, 0, ⟨#[]⟩⟩

structure Good (a : api_Frame) : Prop where
  dst : 0 ≤ a.Dst ∧ a.Dst < 281474976710656
  src : 0 ≤ a.Src ∧ a.Src < 281474976710656
  bare : a.Tag.Has = false → a.Tag = tag0
  tag : a.Tag.Has = true → 0 ≤ a.Tag.Pri ∧ a.Tag.Pri < 8 ∧ 0 ≤ a.Tag.Vid ∧ a.Tag.Vid < 4096
  type : (a.Type_ = 0 ∧ a.Body.size ≤ 1500) ∨ (1536 ≤ a.Type_ ∧ a.Type_ ≤ 65535 ∧ a.Type_ ≠ 33024)
  size : 14 + a.Body.size + (if a.Tag.Has then 4 else 0) ≤ 1600

theorem size_spec (a : api_Frame) (hb : a.Body.size ≤ 140737488351232) : ether_size.f a = some (((14 + a.Body.size + (if a.Tag.Has then 4 else 0) : Nat) : Int)) := by
  unfold ether_size.f ether_size.k1
  rw [i64_id (n := 14 + (a.Body.size : Int)) (by omega), i64_id (by omega)]
  cases a.Tag.Has <;> simp <;> omega

theorem tag_spec (t : api_Tag) : ∃ b, ether_tag.f t = some b ∧ (b = true ↔ ((t.Has = false → t = tag0) ∧ (t.Has = true → 0 ≤ t.Pri ∧ t.Pri < 8 ∧ 0 ≤ t.Vid ∧ t.Vid < 4096))) := by
  obtain ⟨h, p, d, v⟩ := t
  unfold ether_tag.f
  cases h
  · refine ⟨_, rfl, ?_⟩
    simp [tag0]
  · refine ⟨_, rfl, ?_⟩
    simp [and_assoc]

theorem check_spec (a : api_Frame) (h1 : 0 ≤ a.Dst) (h2 : 0 ≤ a.Src) (hb : a.Body.size ≤ 140737488351232) : ∃ c, ether_Check.f a = some c ∧ (c = 0 ↔ Good a) := by
  have hk1 : ∃ c, ether_Check.k1 a true = some c ∧ c ≠ 0 := ⟨41, rfl, by decide⟩
  have hk2 : ether_Check.k2 a true = ether_Check.k1 a true := rfl
  unfold ether_Check.f
  by_cases hd : a.Dst < 281474976710656 ∧ a.Src < 281474976710656
  · rw [show ((decide (a.Dst ≥ 281474976710656)) || (decide (a.Src ≥ 281474976710656))) = false by simp; omega]
    simp only [cond_false]
    obtain ⟨b, hb1, hb2⟩ := tag_spec a.Tag
    rw [hb1, Option.bind_some]
    cases b
    · refine ⟨41, rfl, ⟨fun h => (by cases h), fun g => ?_⟩⟩
      have := hb2.2 ⟨g.bare, g.tag⟩
      cases this
    · have ht := hb2.1 rfl
      simp only [Bool.not_true, ether_Check.k2, cond_false]
      by_cases hty : a.Type_ = 0 ∨ (1536 ≤ a.Type_ ∧ a.Type_ ≤ 65535 ∧ a.Type_ ≠ 33024)
      · rw [show ((a.Type_ != 0) && (!(((decide (a.Type_ ≥ 1536)) && (decide (a.Type_ ≤ 65535))) && (a.Type_ != 33024)))) = false by
          rcases hty with h | ⟨x, y, z⟩
          · simp [h]
          · simp [x, y, z]]
        simp only [ether_Check.k1, cond_false]
        by_cases hs : a.Type_ = 0 ∧ 1500 < a.Body.size
        · rw [show ((a.Type_ == 0) && (decide ((a.Body.size : Int) > 1500))) = true by simp [hs.1]; omega]
          refine ⟨40, rfl, ⟨fun h => (by cases h), fun g => ?_⟩⟩
          rcases g.type with h | h <;> omega
        · rw [show ((a.Type_ == 0) && (decide ((a.Body.size : Int) > 1500))) = false by simp; omega]
          simp only [cond_false]
          rw [size_spec a hb, Option.bind_some]
          by_cases hz : 14 + a.Body.size + (if a.Tag.Has then 4 else 0) ≤ 1600
          · rw [show decide ((((14 + a.Body.size + (if a.Tag.Has then 4 else 0) : Nat) : Int)) > 1600) = false by simp only [decide_eq_false_iff_not]; omega]
            refine ⟨0, rfl, ⟨fun _ => ⟨⟨h1, hd.1⟩, ⟨h2, hd.2⟩, ht.1, ht.2, ?_, hz⟩, fun _ => rfl⟩⟩
            rcases hty with h | h
            · exact .inl ⟨h, by omega⟩
            · exact .inr h
          · rw [show decide ((((14 + a.Body.size + (if a.Tag.Has then 4 else 0) : Nat) : Int)) > 1600) = true by simp only [decide_eq_true_eq]; omega]
            exact ⟨41, rfl, ⟨fun h => (by cases h), fun g => absurd g.size hz⟩⟩
      · rw [show ((a.Type_ != 0) && (!(((decide (a.Type_ ≥ 1536)) && (decide (a.Type_ ≤ 65535))) && (a.Type_ != 33024)))) = true by
          simp; omega]
        refine ⟨41, rfl, ⟨fun h => (by cases h), fun g => ?_⟩⟩
        rcases g.type with h | h <;> omega
  · rw [show ((decide (a.Dst ≥ 281474976710656)) || (decide (a.Src ≥ 281474976710656))) = true by simp; omega]
    refine ⟨41, rfl, ⟨fun h => (by cases h), fun g => ?_⟩⟩
    exact absurd ⟨g.dst.2, g.src.2⟩ hd

/-! ### Build -/
def infoN (t : api_Tag) : Nat := t.Pri.toNat * 8192 + ((if t.Dei then 4096 else 0) + t.Vid.toNat)
def tagL (t : api_Tag) : List UInt8 := if t.Has then beL 2 33024 ++ beL 2 (infoN t) else []
def typeN (a : api_Frame) : Nat := if a.Type_ = 0 then a.Body.size else a.Type_.toNat
def frameL (a : api_Frame) : List UInt8 := beL 6 a.Dst.toNat ++ (beL 6 a.Src.toNat ++ (tagL a.Tag ++ (beL 2 (typeN a) ++ L a.Body)))

theorem eput (v wi : Int) (w : Nat) (hwi : wi = (w : Int)) (hw : 1 ≤ w ∧ w ≤ 8) (h0 : 0 ≤ v) (hv : v < ((256 ^ w : Nat) : Int)) (hv2 : v < 18446744073709551616) : ether_put.f 2000 v wi = some (be w v.toNat) := by
  subst hwi
  have : v = ((v.toNat : Nat) : Int) := by omega
  unfold ether_put.f
  have h := put_spec v.toNat w hw (by omega) (by omega)
  rw [← this] at h
  rw [h]
  rfl

theorem info_spec (t : api_Tag) (h : 0 ≤ t.Pri ∧ t.Pri < 8 ∧ 0 ≤ t.Vid ∧ t.Vid < 4096) : ether_info.f t = some ((infoN t : Nat) : Int) ∧ infoN t < 65536 := by
  obtain ⟨ha, p, d, v⟩ := t
  obtain ⟨p, rfl⟩ : ∃ n : Nat, p = n := ⟨p.toNat, by simp only at h; omega⟩
  obtain ⟨v, rfl⟩ : ∃ n : Nat, v = n := ⟨v.toNat, by simp only at h; omega⟩
  simp only at h
  have e1 : bOr .i64 (i64 ((p : Int) * 8192)) (v : Int) = ((p * 8192 + v : Nat) : Int) := by
    rw [i64_id (by omega)]
    have e : ((p : Int) * 8192) = ((p * 8192 : Nat) : Int) := by omega
    rw [e, bOr_i64 (show p * 8192 < 2 ^ 63 by omega) (show v < 2 ^ 63 by omega)]
    have h4 := or_add 13 (x := p) (y := v) (by omega)
    rw [show (2 : Nat) ^ 13 = 8192 from rfl] at h4
    rw [h4]
  unfold ether_info.f
  cases d
  · simp only [cond_false, e1, ether_info.k1]
    rw [u64_id (by omega)]
    simp only [infoN]
    refine ⟨by simp, by simp; omega⟩
  · simp only [cond_true, e1, ether_info.k1]
    have e2 : bOr .i64 ((p * 8192 + v : Nat) : Int) 4096 = ((p * 8192 + (4096 + v) : Nat) : Int) := by
      have h1 := bOr_i64 (show p * 8192 + v < 2 ^ 63 by omega) (show 4096 < 2 ^ 63 by decide)
      rw [show ((4096 : Nat) : Int) = 4096 from rfl] at h1
      rw [h1]
      have a1 := or_add 13 (x := p) (y := v) (by omega)
      have a2 := or_add 12 (x := 1) (y := v) (by omega)
      have a3 := or_add 13 (x := p) (y := 4096 + v) (by omega)
      rw [show (2 : Nat) ^ 13 = 8192 from rfl] at a1 a3
      rw [show 1 * (2 : Nat) ^ 12 = 4096 from rfl] at a2
      rw [← a1, Nat.or_assoc, Nat.or_comm v 4096, a2, a3]
    rw [e2, u64_id (by omega)]
    simp only [infoN]
    refine ⟨by simp, by simp; omega⟩

theorem build_good (a : api_Frame) (g : Good a) : ether_Build.f 2000 a = some (⟨(frameL a).toArray⟩, 0) := by
  have hbs : a.Body.size ≤ 1600 := by have := g.size; omega
  obtain ⟨c, hc, hc0⟩ := check_spec a g.dst.1 g.src.1 (by omega)
  have : c = 0 := hc0.2 g
  subst this
  unfold ether_Build.f
  rw [hc, Option.bind_some]
  rw [show ((0 : Int) != 0) = false from rfl]
  simp only [cond_false]
  rw [eput a.Dst 6 6 rfl (by omega) g.dst.1 (by have := g.dst.2; simpa using this) (by have := g.dst.2; omega), Option.bind_some]
  rw [eput a.Src 6 6 rfl (by omega) g.src.1 (by have := g.src.2; simpa using this) (by have := g.src.2; omega), Option.bind_some]
  rw [catS_eq (by simp [be_size]), Option.bind_some]
  -- the rest, behind the tag
  have k1 : ∀ (x : ByteArray) (z : Int), x.size ≤ 100 → z = ((typeN a : Nat) : Int) → ether_Build.k1 2000 x a z = some (⟨(L x ++ (beL 2 (typeN a) ++ L a.Body)).toArray⟩, 0) := fun x z hx hz => by
    have hz2 : z < 65536 := by
      rw [hz]
      rcases g.type with h | h
      · simp only [typeN, h.1, if_true]; omega
      · simp only [typeN]; rw [if_neg (by omega)]; omega
    unfold ether_Build.k1
    rw [u64_id (by omega), eput z 2 2 rfl (by omega) (by omega) (by simpa using hz2) (by omega), Option.bind_some]
    have e : z.toNat = typeN a := by omega
    rw [e, catS_eq (by simp [be_size]; omega), Option.bind_some, catS_eq (by simp [be_size]; omega), Option.bind_some]
    refine congrArg (fun z => some (z, (0 : Int))) (L_inj (Eq.trans ?_ (L_mk _).symm))
    rw [L_append, L_append, L_be, List.append_assoc]
  have k2 : ∀ (x : ByteArray), x.size ≤ 100 → ether_Build.k2 a 2000 x = some (⟨(L x ++ (beL 2 (typeN a) ++ L a.Body)).toArray⟩, 0) := fun x hx => by
    unfold ether_Build.k2
    by_cases ht : a.Type_ = 0
    · rw [show (a.Type_ == 0) = true by simp [ht]]
      exact k1 x _ hx (by simp [typeN, ht])
    · rw [show (a.Type_ == 0) = false by simp [ht]]
      refine k1 x _ hx ?_
      rcases g.type with h | h
      · exact absurd h.1 ht
      · simp only [typeN]; rw [if_neg ht]; omega
  cases hh : a.Tag.Has
  · simp only [cond_false]
    rw [k2 _ (by simp [be_size])]
    refine congrArg (fun z => some (z, (0 : Int))) (L_inj (Eq.trans (L_mk _) (Eq.trans ?_ (L_mk _).symm)))
    rw [L_append, L_be, L_be]
    simp [frameL, tagL, hh]
  · simp only [cond_true]
    obtain ⟨hi, hi2⟩ := info_spec a.Tag (g.tag hh)
    rw [eput 33024 2 2 rfl (by omega) (by omega) (by decide) (by omega), Option.bind_some, hi, Option.bind_some, eput _ 2 2 rfl (by omega) (by omega) (Int.ofNat_lt.2 (by simpa using hi2)) (by omega), Option.bind_some]
    rw [catS_eq (by simp [be_size]), Option.bind_some, catS_eq (by simp [be_size]), Option.bind_some, k2 _ (by simp [be_size])]
    refine congrArg (fun z => some (z, (0 : Int))) (L_inj (Eq.trans (L_mk _) (Eq.trans ?_ (L_mk _).symm)))
    rw [L_append, L_append, L_append, L_be, L_be, L_be, L_be]
    simp [frameL, tagL, hh]

theorem build_bad (a : api_Frame) (h1 : 0 ≤ a.Dst) (h2 : 0 ≤ a.Src) (hb : a.Body.size ≤ 140737488351232) (g : ¬ Good a) : ∃ c, c ≠ 0 ∧ ether_Check.f a = some c ∧ ether_Build.f 2000 a = some (⟨#[]⟩, c) := by
  obtain ⟨c, hc, hc0⟩ := check_spec a h1 h2 hb
  have hne : c ≠ 0 := fun h => g (hc0.1 h)
  refine ⟨c, hne, hc, ?_⟩
  unfold ether_Build.f
  rw [hc, Option.bind_some, show (c != 0) = true by simp [hne]]
  rfl
end Go.Proofs.YtbodofjnfmjbpaaGreatDoor

namespace Go.Proofs.YtbodofjnfmjbpaaGreatDoor
open Go Eng
set_option linter.unusedVariables false
set_option linter.unusedSimpArgs false

theorem rget_in (s : ByteArray) (o n : Nat) (oi ni : Int) (ho : oi = o) (hni : ni = n) (nm : ByteArray) (hn : 1 ≤ n ∧ n ≤ 8) (h : o + n ≤ s.size) (hs : s.size ≤ 1600) :
    ether_reader_get.f 2000 ⟨s, oi⟩ ni nm = some (((beV (((L s).drop o).take n) : Nat) : Int), none, ⟨s, ((o + n : Nat) : Int)⟩) := by
  subst ho; subst hni
  unfold ether_reader_get.f
  simp only
  rw [get_in s o n hn h (by omega), Option.bind_some]
  simp only [bne_self_eq_false, cond_false]
  rw [i64_id (by omega)]
  rfl
theorem rget_out (s : ByteArray) (o n : Nat) (oi ni : Int) (ho : oi = o) (hni : ni = n) (nm : ByteArray) (hn : 1 ≤ n ∧ n ≤ 8) (h : s.size < o + n) (hs : s.size ≤ 1600) :
    ether_reader_get.f 2000 ⟨s, oi⟩ ni nm = some (0, some (nm, 40), ⟨s, oi⟩) := by
  subst ho; subst hni
  unfold ether_reader_get.f
  simp only
  rw [get_out s o n hn h (by omega), Option.bind_some]
  rfl

/-- What the reader ends with, as a Parse: the frame, or why there is none. -/
def ends (x : api_Frame × Un1 × ether_reader) : api_Frame × Int := match x.2.1 with
  | none => (x.1, 0)
  | some (_, e) => (frame0, e)

theorem parse_of (s : ByteArray) (hs : s.size ≤ 1600) (x : api_Frame × Un1 × ether_reader) (h : ether_reader_frame.f 2000 ⟨s, 0⟩ = some x) : ether_Parse.f 2000 s = some (ends x) := by
  unfold ether_Parse.f
  rw [show decide ((s.size : Int) > 1600) = false by simp; omega]
  simp only [cond_false]
  rw [h, Option.bind_some]
  obtain ⟨g, u, r⟩ := x
  rcases u with _ | ⟨q, e⟩
  · rfl
  · simp only [ends]
    by_cases he : e = 40
    · subst he; rfl
    · have h1 : errors_Is_1.f q e 40 = some false := by
        unfold errors_Is_1.f errors_is.f ether_odd_Unwrap.f
        rw [Option.bind_some]
        rw [show (true && (e == 40)) = false by simp [he]]
        rfl
      rw [h1, Option.bind_some]
      rfl

/-- The number behind the two addresses (and the tag). -/
def bodyR (s : ByteArray) (p : Nat) (a : api_Frame) (n : Nat) : api_Frame × Int :=
  if n = 33024 ∨ (1500 < n ∧ n < 1536) then (frame0, 41)
  else if 1500 < n then (⟨a.Dst, a.Src, a.Tag, n, s.extract p s.size⟩, 0)
  else if s.size < p + n then (frame0, 40)
  else (⟨a.Dst, a.Src, a.Tag, a.Type_, (s.extract p s.size).extract 0 n⟩, 0)

theorem body_spec (s : ByteArray) (p n : Nat) (pi ni : Int) (hpi : pi = p) (hni : ni = n) (a : api_Frame) (hp : p ≤ s.size) (hs : s.size ≤ 1600) (r : ether_reader) :
    ∃ u g, ether_reader_body.f ⟨s, pi⟩ a ni = some (u, g) ∧ ends (g, u, r) = bodyR s p a n := by
  subst hpi; subst hni
  unfold ether_reader_body.f
  simp only
  rw [sliceS_eq (by omega), Option.bind_some]
  simp only [Int.toNat_natCast]
  have hz : (s.extract p s.size).size = s.size - p := by simp
  by_cases h1 : n = 33024
  · subst h1
    refine ⟨_, _, rfl, ?_⟩
    simp [ends, bodyR]
  · rw [show (((n : Int)) == 33024) = false by simp; omega]
    simp only [cond_false]
    by_cases h2 : 1500 < n ∧ n < 1536
    · rw [show ((decide ((n : Int) > 1500)) && (decide ((n : Int) < 1536))) = true by simp; omega]
      refine ⟨_, _, rfl, ?_⟩
      simp [ends, bodyR, h2]
    · rw [show ((decide ((n : Int) > 1500)) && (decide ((n : Int) < 1536))) = false by simp; omega]
      simp only [ether_reader_body.k1, cond_false]
      by_cases h3 : 1500 < n
      · rw [show decide ((n : Int) > 1500) = true by simp; omega]
        refine ⟨_, _, rfl, ?_⟩
        simp only [ends, bodyR]
        rw [if_neg (by omega), if_pos h3]
      · rw [show decide ((n : Int) > 1500) = false by simp; omega]
        simp only [cond_false]
        by_cases h4 : s.size < p + n
        · rw [show decide ((n : Int) > ((s.extract p s.size).size : Int)) = true by rw [hz]; simp; omega]
          refine ⟨_, _, rfl, ?_⟩
          simp only [ends, bodyR]
          rw [if_neg (by omega), if_neg h3, if_pos h4]
        · rw [show decide ((n : Int) > ((s.extract p s.size).size : Int)) = false by rw [hz]; simp; omega]
          simp only [cond_false]
          rw [sliceS_eq (by rw [hz]; omega), Option.bind_some]
          refine ⟨_, _, rfl, ?_⟩
          simp only [ends, bodyR]
          rw [if_neg (by omega), if_neg h3, if_neg h4]
          rfl

theorem k1_spec (s : ByteArray) (p n : Nat) (pi ni d e : Int) (hpi : pi = p) (hni : ni = n) (t : api_Tag) (hp : p ≤ s.size) (hs : s.size ≤ 1600) :
    ∃ x, ether_reader_frame.k1 none ni s pi d e t.Has t.Pri t.Dei t.Vid 0 ⟨#[]⟩ = some x ∧ ends x = bodyR s p ⟨d, e, t, 0, ⟨#[]⟩⟩ n := by
  obtain ⟨u, g, h, he⟩ := body_spec s p n pi ni hpi hni ⟨d, e, t, 0, ⟨#[]⟩⟩ hp hs ⟨s, pi⟩
  unfold ether_reader_frame.k1
  simp only
  rw [h, Option.bind_some]
  rcases u with _ | ⟨q, w⟩
  · exact ⟨_, rfl, he⟩
  · exact ⟨_, rfl, he⟩

def at2 (s : ByteArray) (o n : Nat) : Nat := beV (((L s).drop o).take n)
def tagOf (v : Nat) : api_Tag := ⟨true, ((v / 8192 : Nat) : Int), decide (v / 4096 % 2 = 1), ((v % 4096 : Nat) : Int)⟩

/-- Parse, in plain words. -/
def parseR (s : ByteArray) : api_Frame × Int :=
  if 1600 < s.size then (frame0, 41)
  else if s.size < 14 then (frame0, 40)
  else if at2 s 12 2 = 33024 then
    (if s.size < 18 then (frame0, 40) else bodyR s 18 ⟨(at2 s 0 6 : Nat), (at2 s 6 6 : Nat), tagOf (at2 s 14 2), 0, ⟨#[]⟩⟩ (at2 s 16 2))
  else bodyR s 14 ⟨(at2 s 0 6 : Nat), (at2 s 6 6 : Nat), tag0, 0, ⟨#[]⟩⟩ (at2 s 12 2)

theorem at2_lt (s : ByteArray) (o n : Nat) : at2 s o n < 256 ^ n := by
  refine Nat.lt_of_lt_of_le (beV_lt _) (Nat.pow_le_pow_right (by decide) ?_)
  rw [List.length_take]; omega

theorem tagOf_spec (v : Nat) (hv : v < 65536) : (⟨true, Int.fdiv (i64 (v : Int)) 8192, (bAnd .i64 (i64 (v : Int)) 4096) != 0, Int.tmod (i64 (v : Int)) 4096⟩ : api_Tag) = tagOf v := by
  rw [i64_id (by omega), bAnd_4096 (by omega)]
  unfold tagOf
  have e1 : Int.fdiv (v : Int) 8192 = ((v / 8192 : Nat) : Int) := by
    rw [Int.fdiv_eq_ediv_of_nonneg _ (by decide)]; omega
  have e2 : Int.tmod (v : Int) 4096 = ((v % 4096 : Nat) : Int) := by
    rw [Int.tmod_eq_emod_of_nonneg (by omega)]; omega
  have e3 : ((((v / 4096 % 2) * 4096 : Nat) : Int) != 0) = decide (v / 4096 % 2 = 1) := by
    rcases Nat.mod_two_eq_zero_or_one (v / 4096) with h | h <;> simp [h]
  rw [e1, e2, e3]

theorem parse_spec (s : ByteArray) : ether_Parse.f 2000 s = some (parseR s) := by
  by_cases hs : 1600 < s.size
  · unfold ether_Parse.f parseR
    rw [if_pos hs, show decide ((s.size : Int) > 1600) = true by simp; omega]
    rfl
  · have hs' : s.size ≤ 1600 := by omega
    suffices h : ∃ x, ether_reader_frame.f 2000 ⟨s, 0⟩ = some x ∧ ends x = parseR s by
      obtain ⟨x, h1, h2⟩ := h
      rw [parse_of s hs' x h1, h2]
    unfold ether_reader_frame.f
    by_cases h6 : s.size < 6
    · rw [rget_out s 0 6 0 6 rfl rfl _ (by omega) (by omega) hs', Option.bind_some]
      refine ⟨_, rfl, ?_⟩
      simp only [ends, parseR]
      rw [if_neg hs, if_pos (by omega)]
    · rw [rget_in s 0 6 0 6 rfl rfl _ (by omega) (by omega) hs', Option.bind_some]
      simp only
      by_cases h12 : s.size < 12
      · rw [rget_out s 6 6 _ 6 rfl rfl _ (by omega) (by omega) hs', Option.bind_some]
        refine ⟨_, rfl, ?_⟩
        simp only [ends, parseR]
        rw [if_neg hs, if_pos (by omega)]
      · rw [rget_in s 6 6 _ 6 rfl rfl _ (by omega) (by omega) hs', Option.bind_some]
        simp only
        by_cases h14 : s.size < 14
        · rw [rget_out s 12 2 _ 2 rfl rfl _ (by omega) (by omega) hs', Option.bind_some]
          refine ⟨_, rfl, ?_⟩
          simp only [ends, parseR]
          rw [if_neg hs, if_pos h14]
        · rw [rget_in s 12 2 _ 2 rfl rfl _ (by omega) (by omega) hs', Option.bind_some]
          simp only
          have h2 := at2_lt s 12 2
          have hi : i64 ((beV (((L s).drop 12).take 2) : Nat) : Int) = ((at2 s 12 2 : Nat) : Int) := i64_id (by unfold at2 at h2; omega)
          rw [hi]
          unfold parseR
          rw [if_neg hs, if_neg h14]
          by_cases h81 : at2 s 12 2 = 33024
          · rw [if_pos h81, h81, show (((33024 : Nat) : Int) == 33024) = true from rfl]
            simp only [cond_true]
            unfold ether_reader_tagged.f
            by_cases h16 : s.size < 16
            · rw [rget_out s 14 2 _ 2 rfl rfl _ (by omega) (by omega) hs', Option.bind_some]
              refine ⟨_, rfl, ?_⟩
              rw [if_pos (by omega)]
              rfl
            · rw [rget_in s 14 2 _ 2 rfl rfl _ (by omega) (by omega) hs', Option.bind_some]
              simp only
              by_cases h18 : s.size < 18
              · rw [rget_out s 16 2 _ 2 rfl rfl _ (by omega) (by omega) hs', Option.bind_some]
                refine ⟨_, rfl, ?_⟩
                rw [if_pos h18]
                rfl
              · rw [rget_in s 16 2 _ 2 rfl rfl _ (by omega) (by omega) hs', Option.bind_some, if_neg h18]
                simp only [Option.bind_some]
                have ht := tagOf_spec (at2 s 14 2) (at2_lt s 14 2)
                have e16 := at2_lt s 16 2
                rw [← ht]
                exact k1_spec s 18 (at2 s 16 2) _ _ _ _ rfl (i64_id (by omega)) (⟨true, Int.fdiv (i64 ((at2 s 14 2 : Nat) : Int)) 8192, (bAnd .i64 (i64 ((at2 s 14 2 : Nat) : Int)) 4096) != 0, Int.tmod (i64 ((at2 s 14 2 : Nat) : Int)) 4096⟩ : api_Tag) (by omega) hs'
          · rw [if_neg h81, show ((((at2 s 12 2 : Nat) : Int)) == 33024) = false by simp; omega]
            simp only [cond_false]
            exact k1_spec s 14 (at2 s 12 2) _ _ _ _ rfl rfl tag0 (by omega) hs'
end Go.Proofs.YtbodofjnfmjbpaaGreatDoor

namespace Go.Proofs.YtbodofjnfmjbpaaGreatDoor
open Go Eng
set_option linter.unusedVariables false
set_option linter.unusedSimpArgs false

theorem at2_app (s : ByteArray) (o n v : Nat) (pre post : List UInt8) (h : L s = pre ++ (beL n v ++ post)) (hp : pre.length = o) (hv : v < 256 ^ n) : at2 s o n = v := by
  unfold at2
  rw [h, ← hp, List.drop_left, List.take_append_of_le_length (by rw [beL_length]; exact Nat.le_refl _), List.take_of_length_le (by rw [beL_length]; exact Nat.le_refl _), beV_beL, Nat.mod_eq_of_lt hv]

theorem beL_at2 (s : ByteArray) (o n : Nat) (h : o + n ≤ s.size) : beL n (at2 s o n) = ((L s).drop o).take n := by
  have := beL_beV (((L s).drop o).take n)
  rw [List.length_take, List.length_drop, L_length, Nat.min_eq_left (by omega)] at this
  exact this
theorem drop_split (s : ByteArray) (o n : Nat) (h : o + n ≤ s.size) : (L s).drop o = beL n (at2 s o n) ++ (L s).drop (o + n) := by
  rw [beL_at2 s o n h, ← List.drop_drop, List.take_append_drop]

/-! ### What is built is parsed as it was -/
def more (g : api_Frame) (rest : List UInt8) : api_Frame := ⟨g.Dst, g.Src, g.Tag, g.Type_, if g.Type_ = 0 then g.Body else ⟨(L g.Body ++ rest).toArray⟩⟩

theorem L_drop (s : ByteArray) (p : Nat) : L (s.extract p s.size) = (L s).drop p := by
  rw [L_extract, List.take_of_length_le (by rw [List.length_drop, L_length]; exact Nat.le_refl _)]

theorem frame_eq {d e t t' : Int} {g : api_Tag} {b b' : ByteArray} (ht : t = t') (hb : L b = L b') : ((⟨d, e, g, t, b⟩ : api_Frame), (0 : Int)) = (⟨d, e, g, t', b'⟩, 0) := by
  subst ht
  rw [L_inj hb]

theorem bodyR_app (s : ByteArray) (p : Nat) (g : api_Frame) (hg : Good g) (rest : List UInt8) (h : (L s).drop p = L g.Body ++ rest) (hp : p ≤ s.size) : bodyR s p ⟨g.Dst, g.Src, g.Tag, 0, ⟨#[]⟩⟩ (typeN g) = (more g rest, 0) := by
  have hl := congrArg List.length h
  rw [List.length_drop, L_length, List.length_append, L_length] at hl
  unfold bodyR typeN more
  rcases hg.type with ht | ht
  · rw [if_pos ht.1, if_neg (by omega), if_neg (by omega), if_neg (by omega), if_pos ht.1]
    refine frame_eq ht.1.symm ?_
    show L (ByteArray.extract _ 0 g.Body.size) = _
    rw [L_extract, L_drop, h, List.drop_zero, Nat.sub_zero, ← L_length, List.take_left]
  · have hne : g.Type_ ≠ 0 := by omega
    simp only [if_neg hne]
    rw [if_neg (by omega), if_pos (by omega)]
    refine frame_eq ?_ ?_
    · show ((g.Type_.toNat : Nat) : Int) = g.Type_
      omega
    · show L (ByteArray.extract _ _ _) = L _
      rw [L_drop, h]
      rfl

theorem parse_build (g : api_Frame) (hg : Good g) (s : ByteArray) (rest : List UInt8) (h : L s = frameL g ++ rest) (hs : s.size ≤ 1600) : parseR s = (more g rest, 0) := by
  have hl := congrArg List.length h
  have hd := hg.dst
  have hsr := hg.src
  have e256 : (256 : Nat) ^ 6 = 281474976710656 := by decide
  have e2562 : (256 : Nat) ^ 2 = 65536 := by decide
  have hty : typeN g < 65536 := by
    unfold typeN
    rcases hg.type with ht | ht
    · rw [if_pos ht.1]; omega
    · rw [if_neg (by omega)]; omega
  have h0 : L s = [] ++ (beL 6 g.Dst.toNat ++ (beL 6 g.Src.toNat ++ (tagL g.Tag ++ (beL 2 (typeN g) ++ L g.Body)) ++ rest)) := by rw [h]; simp [frameL]
  have a0 := at2_app s 0 6 g.Dst.toNat [] _ h0 rfl (by omega)
  have h6 : L s = beL 6 g.Dst.toNat ++ (beL 6 g.Src.toNat ++ (tagL g.Tag ++ (beL 2 (typeN g) ++ L g.Body) ++ rest)) := by rw [h]; simp [frameL]
  have a6 := at2_app s 6 6 g.Src.toNat _ _ h6 (by rw [beL_length]) (by omega)
  rw [L_length, List.length_append] at hl
  unfold parseR
  rw [if_neg (by omega)]
  cases hh : g.Tag.Has
  · have hfl : (frameL g).length = 14 + g.Body.size := by simp [frameL, tagL, hh, beL_length, L_length]; omega
    have h12 : L s = (beL 6 g.Dst.toNat ++ beL 6 g.Src.toNat) ++ (beL 2 (typeN g) ++ (L g.Body ++ rest)) := by rw [h]; simp [frameL, tagL, hh]
    have a12 := at2_app s 12 2 (typeN g) _ _ h12 (by simp [beL_length]) (by omega)
    have h14 : (L s).drop 14 = L g.Body ++ rest := by
      rw [h12, ← List.append_assoc]
      rw [show 14 = (beL 6 g.Dst.toNat ++ beL 6 g.Src.toNat ++ beL 2 (typeN g)).length by simp [beL_length], List.drop_left]
    rw [if_neg (by omega), a12, if_neg (by
      unfold typeN
      rcases hg.type with ht | ht
      · rw [if_pos ht.1]; omega
      · rw [if_neg (by omega)]; omega), a0, a6]
    have e1 : ((g.Dst.toNat : Nat) : Int) = g.Dst := by omega
    have e2 : ((g.Src.toNat : Nat) : Int) = g.Src := by omega
    rw [e1, e2, ← hg.bare hh]
    exact bodyR_app s 14 g hg rest h14 (by omega)
  · have hfl : (frameL g).length = 18 + g.Body.size := by simp [frameL, tagL, hh, beL_length, L_length]; omega
    obtain ⟨_, hi⟩ := info_spec g.Tag (hg.tag hh)
    have hti := hg.tag hh
    have h12 : L s = (beL 6 g.Dst.toNat ++ beL 6 g.Src.toNat) ++ (beL 2 33024 ++ (beL 2 (infoN g.Tag) ++ (beL 2 (typeN g) ++ (L g.Body ++ rest)))) := by rw [h]; simp [frameL, tagL, hh]
    have a12 := at2_app s 12 2 33024 _ _ h12 (by simp [beL_length]) (by omega)
    have h14 : L s = (beL 6 g.Dst.toNat ++ beL 6 g.Src.toNat ++ beL 2 33024) ++ (beL 2 (infoN g.Tag) ++ (beL 2 (typeN g) ++ (L g.Body ++ rest))) := by rw [h]; simp [frameL, tagL, hh]
    have a14 := at2_app s 14 2 (infoN g.Tag) _ _ h14 (by simp [beL_length]) (by omega)
    have h16 : L s = (beL 6 g.Dst.toNat ++ beL 6 g.Src.toNat ++ beL 2 33024 ++ beL 2 (infoN g.Tag)) ++ (beL 2 (typeN g) ++ (L g.Body ++ rest)) := by rw [h]; simp [frameL, tagL, hh]
    have a16 := at2_app s 16 2 (typeN g) _ _ h16 (by simp [beL_length]) (by omega)
    have h18 : (L s).drop 18 = L g.Body ++ rest := by
      rw [h16, ← List.append_assoc]
      rw [show 18 = (beL 6 g.Dst.toNat ++ beL 6 g.Src.toNat ++ beL 2 33024 ++ beL 2 (infoN g.Tag) ++ beL 2 (typeN g)).length by simp [beL_length], List.drop_left]
    rw [if_neg (by omega), a12, if_pos rfl, if_neg (by omega), a14, a16, a0, a6]
    have e1 : ((g.Dst.toNat : Nat) : Int) = g.Dst := by omega
    have e2 : ((g.Src.toNat : Nat) : Int) = g.Src := by omega
    have e3 : tagOf (infoN g.Tag) = g.Tag := by
      obtain ⟨D, S, ⟨th, tp, td, tv⟩, ty, bd⟩ := g
      simp only at hh hti
      subst hh
      simp only [tagOf, infoN]
      cases td
      · simp only [Bool.false_eq_true, if_false]
        congr 1
        · omega
        · simp; omega
        · omega
      · simp only [if_true]
        congr 1
        · omega
        · simp; omega
        · omega
    rw [e1, e2, e3]
    exact bodyR_app s 18 g hg rest h18 (by omega)

/-! ### What is parsed may be, and, built, is the beginning of the bytes -/
theorem bodyR_back (s : ByteArray) (hs : s.size ≤ 1600) (p n : Nat) (d e : Nat) (t : api_Tag) (hd : d < 281474976710656) (he : e < 281474976710656) (hb : t.Has = false → t = tag0)
    (ht : t.Has = true → 0 ≤ t.Pri ∧ t.Pri < 8 ∧ 0 ≤ t.Vid ∧ t.Vid < 4096) (hp : p = 14 + (if t.Has then 4 else 0)) (hps : p ≤ s.size) (hn : n < 65536)
    (h : L s = beL 6 d ++ (beL 6 e ++ (tagL t ++ (beL 2 n ++ (L s).drop p)))) (g : api_Frame) (c : Int) (hr : bodyR s p ⟨d, e, t, 0, ⟨#[]⟩⟩ n = (g, c)) :
    (c ≠ 0 ∧ g = frame0) ∨ (c = 0 ∧ Good g ∧ ∃ rest, L s = frameL g ++ rest ∧ (g.Type_ ≠ 0 → rest = [])) := by
  unfold bodyR at hr
  split at hr
  · injection hr with h1 h2
    exact .inl ⟨by omega, h1.symm⟩
  · next h1 =>
    split at hr
    · next h2 =>
      injection hr with e1 e2
      subst e1; subst e2
      have hsz : (s.extract p s.size).size = s.size - p := by simp
      refine .inr ⟨rfl, ⟨⟨by simp, by simp only; omega⟩, ⟨by simp, by simp only; omega⟩, hb, ht, .inr ⟨by simp only; omega, by simp only; omega, by simp only; omega⟩, ?_⟩, [], ?_, fun _ => rfl⟩
      · simp only [hsz]; omega
      · have : typeN ⟨d, e, t, n, s.extract p s.size⟩ = n := by
          unfold typeN
          simp only
          rw [if_neg (by omega)]
          omega
        rw [List.append_nil]
        conv => lhs; rw [h]
        simp only [frameL, this, L_drop, Int.toNat_natCast]
    · next h2 =>
      split at hr
      · injection hr with e1 e2
        exact .inl ⟨by omega, e1.symm⟩
      · next h3 =>
        injection hr with e1 e2
        subst e1; subst e2
        have hsz : ((s.extract p s.size).extract 0 n).size = n := by simp; omega
        have hL : L ((s.extract p s.size).extract 0 n) = ((L s).drop p).take n := by rw [L_extract, L_drop]; simp
        refine .inr ⟨rfl, ⟨⟨by simp, by simp only; omega⟩, ⟨by simp, by simp only; omega⟩, hb, ht, .inl ⟨rfl, by simp only [hsz]; omega⟩, ?_⟩, ((L s).drop p).drop n, ?_, fun h => absurd rfl h⟩
        · simp only [hsz]; omega
        · have : typeN ⟨d, e, t, 0, (s.extract p s.size).extract 0 n⟩ = n := by
            unfold typeN
            simp only [if_true]
            exact hsz
          conv => lhs; rw [h]
          simp only [frameL, this, hL, Int.toNat_natCast, List.append_assoc, List.take_append_drop]

theorem parse_back (s : ByteArray) (g : api_Frame) (c : Int) (h : parseR s = (g, c)) :
    (c ≠ 0 ∧ g = frame0) ∨ (c = 0 ∧ s.size ≤ 1600 ∧ Good g ∧ ∃ rest, L s = frameL g ++ rest ∧ (g.Type_ ≠ 0 → rest = [])) := by
  have e256 : (256 : Nat) ^ 6 = 281474976710656 := by decide
  have e2562 : (256 : Nat) ^ 2 = 65536 := by decide
  unfold parseR at h
  split at h
  · injection h with h1 h2
    exact .inl ⟨by omega, h1.symm⟩
  · next hs =>
    split at h
    · injection h with h1 h2
      exact .inl ⟨by omega, h1.symm⟩
    · next h14 =>
      have d0 := drop_split s 0 6 (by omega)
      have d6 := drop_split s 6 6 (by omega)
      have d12 := drop_split s 12 2 (by omega)
      rw [List.drop_zero] at d0
      have l0 := at2_lt s 0 6
      have l6 := at2_lt s 6 6
      split at h
      · next h81 =>
        split at h
        · injection h with h1 h2
          exact .inl ⟨by omega, h1.symm⟩
        · next h18 =>
          have d14 := drop_split s 14 2 (by omega)
          have d16 := drop_split s 16 2 (by omega)
          have l14 := at2_lt s 14 2
          have l16 := at2_lt s 16 2
          have hi : infoN (tagOf (at2 s 14 2)) = at2 s 14 2 := by
            unfold infoN tagOf
            simp only [Int.toNat_natCast]
            by_cases hb : at2 s 14 2 / 4096 % 2 = 1
            · simp only [hb, decide_true, if_true]; omega
            · simp only [hb, decide_false, Bool.false_eq_true, if_false]; omega
          refine (bodyR_back s (by omega) 18 (at2 s 16 2) (at2 s 0 6) (at2 s 6 6) (tagOf (at2 s 14 2)) (by omega) (by omega) (fun h => by cases h) (fun _ => by simp only [tagOf]; omega) rfl (by omega) (by omega) ?_ g c h).imp id (fun ⟨a, b⟩ => ⟨a, by omega, b⟩)
          have htl : tagL (tagOf (at2 s 14 2)) = beL 2 33024 ++ beL 2 (at2 s 14 2) := by
            unfold tagL
            rw [hi]
            rfl
          rw [htl]
          conv => lhs; rw [d0, d6, d12, d14, d16, h81]
          simp only [List.append_assoc]
      · next h81 =>
        have l12 := at2_lt s 12 2
        refine (bodyR_back s (by omega) 14 (at2 s 12 2) (at2 s 0 6) (at2 s 6 6) tag0 (by omega) (by omega) (fun _ => rfl) (fun h => by cases h) rfl (by omega) (by omega) ?_ g c h).imp id (fun ⟨a, b⟩ => ⟨a, by omega, b⟩)
        conv => lhs; rw [d0, d6, d12]
        rfl
end Go.Proofs.YtbodofjnfmjbpaaGreatDoor

namespace Go.Proofs.YtbodofjnfmjbpaaGreatDoor
open Go Eng
set_option linter.unusedVariables false
set_option linter.unusedSimpArgs false


theorem cut_spec (s : ByteArray) (m : Nat) : ∃ t, sliceS s 0 (imin (s.size : Int) m) = some t ∧ t.size ≤ m := by
  refine ⟨s.extract 0 (imin (s.size : Int) m).toNat, sliceS_eq ?_, ?_⟩
  · unfold imin; split <;> omega
  · have : (s.extract 0 (imin (s.size : Int) m).toNat).size = min (imin (s.size : Int) m).toNat s.size - 0 := by simp
    rw [this]
    unfold imin; split <;> omega

theorem more_nil (g : api_Frame) : more g [] = g := by
  unfold more
  split
  · rfl
  · have : (⟨(L g.Body ++ []).toArray⟩ : ByteArray) = g.Body := L_inj (by rw [L_mk, List.append_nil])
    rw [this]

theorem same_frame (g : api_Frame) : ((g.Dst == g.Dst) && ((g.Src == g.Src) && (((g.Tag.Has == g.Tag.Has) && ((g.Tag.Pri == g.Tag.Pri) && ((g.Tag.Dei == g.Tag.Dei) && ((g.Tag.Vid == g.Tag.Vid) && true)))) && ((g.Type_ == g.Type_) && ((g.Body == g.Body) && true))))) = true := by
  simp [bytes_refl]

theorem frameL_size (g : api_Frame) (rest : List UInt8) (s : ByteArray) (h : L s = frameL g ++ rest) : (⟨(frameL g).toArray⟩ : ByteArray).size ≤ s.size ∧ L (s.extract 0 (⟨(frameL g).toArray⟩ : ByteArray).size) = frameL g := by
  have hz : (⟨(frameL g).toArray⟩ : ByteArray).size = (frameL g).length := by simp [ByteArray.size]
  have hl := congrArg List.length h
  rw [L_length, List.length_append] at hl
  refine ⟨by omega, ?_⟩
  rw [L_extract, hz, h]
  simp

theorem frameL_len (g : api_Frame) : (frameL g).length = 14 + g.Body.size + (if g.Tag.Has then 4 else 0) := by
  simp only [frameL, List.length_append, beL_length, L_length, tagL]
  split <;> simp [beL_length] <;> omega
theorem mk_size (l : List UInt8) : (⟨l.toArray⟩ : ByteArray).size = l.length := by simp [ByteArray.size]
end Go.Proofs.YtbodofjnfmjbpaaGreatDoor

namespace Go.Proofs.YtbodofjnfmjbpaaGreatDoor
open Go Eng
set_option linter.unusedVariables false
set_option linter.unusedSimpArgs false

theorem getL_ofNat {α : Type} {xs : List α} {i : Nat} {x : α} (h : xs[i]? = some x) : getL xs.length xs (i : Int) = some x := by
  have hlt : i < xs.length := by
    rcases Nat.lt_or_ge i xs.length with h1 | h1
    · exact h1
    · rw [List.getElem?_eq_none h1] at h; cases h
  unfold getL
  rw [if_pos (by omega), Int.toNat_natCast, h]

/-! ### Segments -/
def seg0 : api_Seg := ⟨0, 0, []⟩
def byR (l : List api_Seg) (n : Int) : api_Seg × Bool := match l.find? (fun s => s.Vni == n) with
  | some s => (s, true)
  | none => (seg0, false)

theorem seg_idx (l : List api_Seg) (n : Int) (hl : l.length ≤ 1000) : ∀ (r pre : List api_Seg) (fuel : Nat), l = pre ++ r → r.length < fuel →
    ∃ v, api_Seg.l1 l n fuel 0 (pre.length : Int) = some v ∧ ((v = -1 ∧ r.find? (fun s => s.Vni == n) = none) ∨ (∃ (i : Nat) (s : api_Seg), v = i ∧ l[i]? = some s ∧ r.find? (fun s => s.Vni == n) = some s))
  | r, pre, 0, _, h => by omega
  | [], pre, fuel + 1, e, h => by
    subst e
    simp only [api_Seg.l1]
    exact ⟨-1, by simp, .inl ⟨rfl, rfl⟩⟩
  | s :: r, pre, fuel + 1, e, h => by
    have hlen : l.length = pre.length + (r.length + 1) := by rw [e]; simp
    have hget : l[pre.length]? = some s := by rw [e]; simp
    simp only [api_Seg.l1]
    rw [show decide ((pre.length : Int) < (l.length : Int)) = true by simp; omega, cond_true, getL_ofNat hget, Option.bind_some]
    simp only [vni_By_1.f, Option.bind_some]
    cases hv : (s.Vni == n)
    · rw [cond_false, i64_id (by omega)]
      have := seg_idx l n hl r (pre ++ [s]) fuel (by rw [e]; simp) (by simp at h; omega)
      rw [List.length_append, List.length_singleton] at this
      obtain ⟨v, h1, h2⟩ := this
      refine ⟨v, h1, ?_⟩
      rw [List.find?_cons, hv]
      exact h2
    · rw [cond_true]
      refine ⟨_, rfl, .inr ⟨pre.length, s, rfl, hget, ?_⟩⟩
      rw [List.find?_cons, hv]

theorem by_spec (l : List api_Seg) (n : Int) (hl : l.length ≤ 1000) (hp : ∀ s ∈ l, s.Peers.length ≤ 1000000) : vni_By.f 2000 l n = some (byR l n) := by
  unfold vni_By.f vni_first.f api_Seg.f byR
  obtain ⟨v, h1, h2⟩ := seg_idx l n hl l [] 2000 rfl (by omega)
  rw [show ((0 : Int)) = (([] : List api_Seg).length : Int) from rfl] 
  have h1' : api_Seg.l1 l n 2000 (([] : List api_Seg).length : Int) (([] : List api_Seg).length : Int) = some v := h1
  rw [h1', Option.bind_some]
  rcases h2 with ⟨rfl, h3⟩ | ⟨i, s, rfl, h3, h4⟩
  · rw [h3]; rfl
  · rw [h4]
    have hm : s ∈ l := List.mem_of_getElem? h3
    rw [show decide ((i : Int) < (([] : List api_Seg).length : Int)) = false by simp, cond_false, getL_ofNat h3, Option.bind_some]
    unfold slices_Clone_uint32_uint32.f roomL
    have := hp s hm
    rw [if_pos (by omega)]
    rfl

theorem int_idx (l : List Int) (a : Int) (hl : l.length ≤ 1000) : ∀ (r pre : List Int) (fuel : Nat), l = pre ++ r → r.length < fuel →
    ∃ v, slices_Index_uint32_uint32.l1 l a fuel 0 (pre.length : Int) = some v ∧ (v ≥ 0 ↔ a ∈ r)
  | r, pre, 0, _, h => by omega
  | [], pre, fuel + 1, e, h => by
    subst e
    simp only [slices_Index_uint32_uint32.l1]
    exact ⟨-1, by simp, by simp⟩
  | s :: r, pre, fuel + 1, e, h => by
    have hlen : l.length = pre.length + (r.length + 1) := by rw [e]; simp
    have hget : l[pre.length]? = some s := by rw [e]; simp
    simp only [slices_Index_uint32_uint32.l1]
    rw [show decide ((pre.length : Int) < (l.length : Int)) = true by simp; omega, cond_true, getL_ofNat hget, Option.bind_some]
    cases hv : (a == s)
    · rw [cond_false, i64_id (by omega)]
      have := int_idx l a hl r (pre ++ [s]) fuel (by rw [e]; simp) (by simp at h; omega)
      rw [List.length_append, List.length_singleton] at this
      obtain ⟨v, h1, h2⟩ := this
      refine ⟨v, h1, ?_⟩
      have hne : a ≠ s := by simpa using hv
      rw [h2]; simp [hne]
    · rw [cond_true]
      have he : a = s := by simpa using hv
      exact ⟨_, rfl, by simp [he]⟩

theorem contains_spec (l : List Int) (a : Int) (hl : l.length ≤ 1000) : slices_Contains_uint32_uint32.f 2000 l a = some (decide (a ∈ l)) := by
  unfold slices_Contains_uint32_uint32.f slices_Index_uint32_uint32.f
  obtain ⟨v, h1, h2⟩ := int_idx l a hl l [] 2000 rfl (by omega)
  have h1' : slices_Index_uint32_uint32.l1 l a 2000 0 0 = some v := h1
  rw [h1', Option.bind_some]
  congr 1
  exact decide_eq_decide.2 h2

def peerR (l : List api_Seg) (n a : Int) : Bool := (byR l n).2 && decide (a ∈ (byR l n).1.Peers)
theorem peer_spec (l : List api_Seg) (n a : Int) (hl : l.length ≤ 1000) (hp : ∀ s ∈ l, s.Peers.length ≤ 1000) : vni_Peer.f 2000 l n a = some (peerR l n a) := by
  unfold vni_Peer.f peerR
  rw [by_spec l n hl fun s hs => Nat.le_trans (hp s hs) (by decide), Option.bind_some]
  have hpl : (byR l n).1.Peers.length ≤ 1000 := by
    unfold byR
    cases hf : l.find? (fun s => s.Vni == n) with
    | none => simp [seg0]
    | some s => exact hp s (List.mem_of_find?_eq_some hf)
  generalize byR l n = y at hpl
  obtain ⟨s, b⟩ := y
  cases b
  · rfl
  · simp only [cond_true, Bool.true_and]
    rw [contains_spec _ _ hpl, Option.bind_some]
    rfl

/-! ### The head of a datagram's body -/
theorem flag_all : ((List.range 256).all fun n => ((bAnd .u8 (n : Int) 8) == 0) == decide (n / 8 % 2 = 0)) = true := by kernel_rfl
theorem flag_spec (n : Nat) (h : n < 256) : ((bAnd .u8 (n : Int) 8) == 0) = decide (n / 8 % 2 = 0) := by
  have := List.all_eq_true.1 flag_all n (List.mem_range.2 h)
  simpa using this

def vxR (s : ByteArray) : Int × ByteArray × Int :=
  if s.size < 8 then (0, ⟨#[]⟩, 80) else if ((L s).headD 0).toNat / 8 % 2 = 0 then (0, ⟨#[]⟩, 81) else ((at2 s 4 3 : Nat), s.extract 8 s.size, 0)

theorem idxS_at (s : ByteArray) (i : Nat) (x : UInt8) (h : (L s)[i]? = some x) : idxS s (i : Int) = some ((x.toNat : Nat) : Int) := by
  unfold idxS
  rw [if_pos (by omega)]
  have : s.data[(i : Int).toNat]? = some x := by rw [← Array.getElem?_toList]; exact h
  rw [this]; rfl

theorem vx_spec (s : ByteArray) (hs : s.size ≤ 140737488351232) : vxlan_Parse.f 2000 s = some (vxR s) := by
  unfold vxlan_Parse.f vxR
  by_cases h8 : s.size < 8
  · rw [if_pos h8, show decide ((s.size : Int) < 8) = true by simp; omega]; rfl
  · rw [if_neg h8, show decide ((s.size : Int) < 8) = false by simp; omega, cond_false]
    have hlen : (L s).length = s.size := L_length s
    obtain ⟨x, r, hx⟩ : ∃ x r, L s = x :: r := by
      cases hL : L s with
      | nil => rw [hL] at hlen; simp at hlen; omega
      | cons x r => exact ⟨x, r, rfl⟩
    have h0 := idxS_at s 0 x (by rw [hx]; rfl)
    rw [show ((0 : Nat) : Int) = 0 from rfl] at h0
    rw [h0, Option.bind_some, flag_spec _ x.toNat_lt]
    have hhead : ((L s).headD 0).toNat = x.toNat := by rw [hx]; rfl
    rw [hhead]
    by_cases hf : x.toNat / 8 % 2 = 0
    · rw [if_pos hf, decide_eq_true hf]; rfl
    · rw [if_neg hf, decide_eq_false hf, cond_false]
      have hg := get_in s 4 3 (by omega) (by omega) hs
      have h4 : octets_Get.f 2000 s 4 3 = some (((beV (((L s).drop 4).take 3) : Nat) : Int), 0) := hg
      rw [h4, Option.bind_some]
      simp only
      have hlt : beV (((L s).drop 4).take 3) < 256 ^ 3 := by
        have := beV_lt (((L s).drop 4).take 3)
        refine Nat.lt_of_lt_of_le this (Nat.pow_le_pow_right (by decide) ?_)
        rw [List.length_take]; omega
      rw [sliceS_eq (by omega), Option.bind_some, i64_id (by omega)]
      simp only [Int.toNat_natCast]
      rfl

/-! ### Unwrap -/
def unwR (l : List api_Seg) (from_ : Int) (body : ByteArray) : api_Seg × api_Frame × Int :=
  if (vxR body).2.2 ≠ 0 then (seg0, frame0, 1) else if (byR l (vxR body).1).2 = false then (seg0, frame0, 2) else if peerR l (vxR body).1 from_ = false then (seg0, frame0, 3)
  else if (parseR (vxR body).2.1).2 = 0 ∧ (parseR (vxR body).2.1).1.Tag.Has = false then ((byR l (vxR body).1).1, (parseR (vxR body).2.1).1, 0) else (seg0, frame0, 4)

theorem step0 (l : List api_Seg) (f : Int) (x1 : Int) (x2 : ByteArray) (x3 x4 : Int) (x5 : List Int) (x6 x7 : Int) (x8 : Bool) (x9 : Int) (x10 : Bool) (x11 x12 : Int) (x13 : ByteArray) :
    tunnel_opener_step.f 2000 l f x1 x2 x3 x4 x5 x6 x7 x8 x9 x10 x11 x12 x13 0 = (vxlan_Parse.f 2000 x2).bind fun (r2, r3, r4) => some ((r4 == 0), r2, r3, x3, x4, x5, x6, x7, x8, x9, x10, x11, x12, x13) := rfl
theorem step1 (l : List api_Seg) (f : Int) (x1 : Int) (x2 : ByteArray) (x3 x4 : Int) (x5 : List Int) (x6 x7 : Int) (x8 : Bool) (x9 : Int) (x10 : Bool) (x11 x12 : Int) (x13 : ByteArray) :
    tunnel_opener_step.f 2000 l f x1 x2 x3 x4 x5 x6 x7 x8 x9 x10 x11 x12 x13 1 = (vni_By.f 2000 l x1).bind fun (r8, r9) => some (r9, x1, x2, r8.Vid, r8.Vni, r8.Peers, x6, x7, x8, x9, x10, x11, x12, x13) := rfl
theorem step2 (l : List api_Seg) (f : Int) (x1 : Int) (x2 : ByteArray) (x3 x4 : Int) (x5 : List Int) (x6 x7 : Int) (x8 : Bool) (x9 : Int) (x10 : Bool) (x11 x12 : Int) (x13 : ByteArray) :
    tunnel_opener_step.f 2000 l f x1 x2 x3 x4 x5 x6 x7 x8 x9 x10 x11 x12 x13 2 = (vni_Peer.f 2000 l x1 f).bind fun r14 => some (r14, x1, x2, x3, x4, x5, x6, x7, x8, x9, x10, x11, x12, x13) := rfl
theorem step3 (l : List api_Seg) (f : Int) (x1 : Int) (x2 : ByteArray) (x3 x4 : Int) (x5 : List Int) (x6 x7 : Int) (x8 : Bool) (x9 : Int) (x10 : Bool) (x11 x12 : Int) (x13 : ByteArray) :
    tunnel_opener_step.f 2000 l f x1 x2 x3 x4 x5 x6 x7 x8 x9 x10 x11 x12 x13 3 = (ether_Parse.f 2000 x2).bind fun (r16, r17) => some (((r17 == 0) && (!r16.Tag.Has)), x1, x2, x3, x4, x5, r16.Dst, r16.Src, r16.Tag.Has, r16.Tag.Pri, r16.Tag.Dei, r16.Tag.Vid, r16.Type_, r16.Body) := rfl

theorem unwrap_spec (l : List api_Seg) (from_ : Int) (u : api_Udp) (hl : l.length ≤ 1000) (hp : ∀ s ∈ l, s.Peers.length ≤ 1000) (hb : u.Body.size ≤ 140737488351232) : tunnel_Unwrap.f 2000 l from_ u = some (unwR l from_ u.Body) := by
  unfold tunnel_Unwrap.f unwR
  rw [step0, vx_spec _ hb, Option.bind_some]
  generalize vxR u.Body = x
  obtain ⟨v, s, e⟩ := x
  simp only [Option.bind_some]
  by_cases he : e = 0
  · subst he
    simp only [beq_self_eq_true, Bool.not_true, cond_false, ne_eq, not_true_eq_false, if_false]
    rw [step1, by_spec l v hl fun s hs => Nat.le_trans (hp s hs) (by decide), Option.bind_some]
    cases hy : byR l v with
    | mk y b =>
      simp only [Option.bind_some]
      cases b
      · simp [seg0, frame0, tag0]
      · simp only [Bool.not_true, cond_false]
        rw [step2, peer_spec l v from_ hl hp, Option.bind_some]
        simp only [Option.bind_some]
        cases hpr : peerR l v from_
        · simp [seg0, frame0, tag0]
        · simp only [Bool.not_true, cond_false]
          rw [step3, parse_spec, Option.bind_some]
          generalize parseR s = z
          obtain ⟨f, c⟩ := z
          simp only [Option.bind_some]
          by_cases hc : c = 0
          · subst hc
            cases hh : f.Tag.Has
            · simp [tunnel_Unwrap.k1, hh]
              obtain ⟨d, sr, ⟨th, tp, td, tv⟩, ty, bd⟩ := f
              simp at hh
              simp [hh]
            · simp [hh, seg0, frame0, tag0]
          · have h1 : (c == 0) = false := by simp [hc]
            simp [h1, hc, seg0, frame0, tag0]
  · have h1 : (e == 0) = false := by simp [he]
    rw [h1]
    simp [he, seg0, frame0, tag0]
end Go.Proofs.YtbodofjnfmjbpaaGreatDoor

namespace Go.Proofs.YtbodofjnfmjbpaaGreatDoor
open Go Eng
set_option linter.unusedVariables false
set_option linter.unusedSimpArgs false

theorem idx_L (r : ByteArray) (i : Nat) (h : i < (L r).length) : idxS r (i : Int) = some (((L r)[i].toNat : Nat) : Int) := by
  unfold idxS
  rw [if_pos (by omega)]
  have : (r.data[(i : Int).toNat]?) = some (L r)[i] := by
    rw [← Array.getElem?_toList]
    exact List.getElem?_eq_getElem h
  rw [this]; rfl

theorem num_loop (r : ByteArray) (hn : r.size ≤ 7) : ∀ (j i fuel : Nat), i + j = r.size → j < fuel → gangwayref01_Num.l1 r fuel ((beV ((L r).take i) : Nat) : Int) i = some ((beV (L r) : Nat) : Int)
  | 0, i, 0, hij, hf => by omega
  | 0, i, fuel + 1, hij, hf => by
    simp only [gangwayref01_Num.l1]
    rw [show decide ((i : Int) < (r.size : Int)) = false by simp; omega]
    rw [List.take_of_length_le (by rw [L_length]; omega)]
    rfl
  | j + 1, i, 0, hij, hf => by omega
  | j + 1, i, fuel + 1, hij, hf => by
    simp only [gangwayref01_Num.l1]
    rw [show decide ((i : Int) < (r.size : Int)) = true by simp; omega]
    simp only [cond_true]
    have hlen : i < (L r).length := by rw [L_length]; omega
    rw [idx_L r i hlen, Option.bind_some]
    have ht : (L r).take (i + 1) = (L r).take i ++ [(L r)[i]] := by rw [List.take_append_getElem]
    have hb := beV_lt ((L r).take i)
    rw [List.length_take, Nat.min_eq_left (by omega)] at hb
    have hp : 256 ^ i ≤ 256 ^ 6 := Nat.pow_le_pow_right (by decide) (by omega)
    have h6 : (256 : Nat) ^ 6 = 281474976710656 := by decide
    have hc := (L r)[i].toNat_lt
    have hval : beV ((L r).take (i + 1)) = beV ((L r).take i) * 256 + (L r)[i].toNat := by
      rw [ht]
      show List.foldl _ 0 (_ ++ _) = _
      rw [List.foldl_append]
      rfl
    have hstep : u64 (u64 (((beV ((L r).take i) : Nat) : Int) * 256) + u64 (((L r)[i].toNat : Nat) : Int)) = ((beV ((L r).take (i + 1)) : Nat) : Int) := by
      rw [hval, u64_id (n := ((beV ((L r).take i) : Nat) : Int) * 256) (by omega), u64_id (n := (((L r)[i].toNat : Nat) : Int)) (by omega), u64_id (by omega)]
      omega
    rw [hstep, i64_id (by omega)]
    exact num_loop r hn j (i + 1) fuel (by omega) (by omega)
theorem num_spec (r : ByteArray) (hn : r.size ≤ 7) : gangwayref01_Num.f 2000 r = some ((beV (L r) : Nat) : Int) := num_loop r hn r.size 0 2000 (by omega) (by omega)

theorem word_spec (r : ByteArray) (hr : r.size = 2) : gangwayref04_word.f r = some ((beV (L r) : Nat) : Int) := by
  have hl := L_length r
  obtain ⟨x, y, hxy⟩ : ∃ x y, L r = [x, y] := by
    match h : L r, hl with
    | [x, y], _ => exact ⟨x, y, rfl⟩
    | [], hl => simp [hr] at hl
    | [_], hl => simp [hr] at hl
    | _ :: _ :: _ :: _, hl => simp [hr] at hl
  unfold gangwayref04_word.f
  have h0 := idx_L r 0 (by rw [hl]; omega)
  have h1 := idx_L r 1 (by rw [hl]; omega)
  rw [show ((0 : Nat) : Int) = 0 from rfl] at h0
  rw [show ((1 : Nat) : Int) = 1 from rfl] at h1
  have g0 : (L r)[0]'(by rw [hl]; omega) = x := by simp [hxy]
  have g1 : (L r)[1]'(by rw [hl]; omega) = y := by simp [hxy]
  rw [h0, Option.bind_some, h1, Option.bind_some, g0, g1, hxy]
  have hx := x.toNat_lt
  have hy := y.toNat_lt
  have hb : beV [x, y] = x.toNat * 256 + y.toNat := by simp [beV]
  rw [hb, i64_id (n := ((x.toNat : Nat) : Int)) (by omega), i64_id (n := ((y.toNat : Nat) : Int)) (by omega), i64_id (n := ((x.toNat : Nat) : Int) * 256) (by omega), i64_id (by omega)]
  simp

theorem ref_k2 (s : ByteArray) (p n : Nat) (d e : Int) (t : api_Tag) (b : ByteArray) (hb : b = s.extract p s.size) (hp : p ≤ s.size) : gangwayref04_Parse.k2 d e n b t.Has t.Pri t.Dei t.Vid = some (bodyR s p ⟨d, e, t, 0, ⟨#[]⟩⟩ n) := by
  have hz : b.size = s.size - p := by rw [hb]; simp
  unfold gangwayref04_Parse.k2 bodyR
  by_cases h1 : n = 33024
  · subst h1
    rw [if_pos (.inl rfl)]
    rfl
  · rw [show ((n : Int) == 33024) = false by simp; omega, cond_false]
    unfold gangwayref04_Parse.k1
    by_cases h2 : 1500 < n ∧ n < 1536
    · rw [show ((decide ((n : Int) > 1500)) && (decide ((n : Int) < 1536))) = true by simp; omega, cond_true, if_pos (.inr h2)]
      rfl
    · rw [show ((decide ((n : Int) > 1500)) && (decide ((n : Int) < 1536))) = false by simp; omega, cond_false, if_neg (by omega)]
      by_cases h3 : 1500 < n
      · rw [show decide ((n : Int) > 1500) = true by simp; omega, cond_true, if_pos h3, hb]
      · rw [show decide ((n : Int) > 1500) = false by simp; omega, cond_false, if_neg h3]
        by_cases h4 : s.size < p + n
        · rw [show decide ((n : Int) > (b.size : Int)) = true by simp; omega, cond_true, if_pos h4]
          rfl
        · rw [show decide ((n : Int) > (b.size : Int)) = false by simp; omega, cond_false, if_neg h4, sliceS_eq (by omega), Option.bind_some, hb]
          rfl

theorem ext_at (s : ByteArray) (o n : Nat) (h : o + n ≤ s.size) : beV (L (s.extract o (o + n))) = at2 s o n ∧ (s.extract o (o + n)).size = n := by
  refine ⟨?_, by simp; omega⟩
  rw [L_extract]
  unfold at2
  congr 2
  omega

theorem ref_parse (s : ByteArray) : gangwayref04_Parse.f 2000 s = some (parseR s) := by
  unfold gangwayref04_Parse.f parseR
  by_cases h1 : 1600 < s.size
  · rw [if_pos h1, show decide ((s.size : Int) > 1600) = true by simp; omega]
    rfl
  · rw [if_neg h1, show decide ((s.size : Int) > 1600) = false by simp; omega, cond_false]
    by_cases h2 : s.size < 14
    · rw [if_pos h2, show decide ((s.size : Int) < 14) = true by simp; omega]
      rfl
    · rw [if_neg h2, show decide ((s.size : Int) < 14) = false by simp; omega, cond_false]
      obtain ⟨a0, z0⟩ := ext_at s 0 6 (by omega)
      obtain ⟨a6, z6⟩ := ext_at s 6 6 (by omega)
      obtain ⟨a12, z12⟩ := ext_at s 12 2 (by omega)
      rw [sliceS_eq (by omega), Option.bind_some, sliceS_eq (by omega)]
      simp only [Option.bind_some]
      rw [show Int.toNat 0 = 0 from rfl, show Int.toNat 6 = 6 from rfl, show Int.toNat 12 = 12 from rfl]
      rw [num_spec _ (by rw [z0]; omega), Option.bind_some, num_spec _ (by rw [z6]; omega), Option.bind_some]
      rw [sliceS_eq (by omega), Option.bind_some]
      rw [show Int.toNat 12 = 12 from rfl, show Int.toNat 14 = 14 from rfl, word_spec _ z12, Option.bind_some]
      rw [sliceS_eq (by omega), Option.bind_some]
      simp only [Int.toNat_natCast]
      rw [show Int.toNat 14 = 14 from rfl, a0, a6, a12]
      have hz14 : (s.extract 14 s.size).size = s.size - 14 := by simp
      by_cases h3 : at2 s 12 2 = 33024
      · rw [if_pos h3, h3, show (((33024 : Nat) : Int) == 33024) = true from rfl, cond_true]
        by_cases h4 : s.size < 18
        · rw [if_pos h4, show decide (((s.extract 14 s.size).size : Int) < 4) = true by rw [hz14]; simp; omega]
          rfl
        · rw [if_neg h4, show decide (((s.extract 14 s.size).size : Int) < 4) = false by rw [hz14]; simp; omega, cond_false]
          rw [sliceS_eq (by omega), Option.bind_some]
          have e0 : L ((s.extract 14 s.size).extract 0 2) = L (s.extract 14 (14 + 2)) := by
            rw [L_extract, L_drop, L_extract]; simp
          have e2 : L ((s.extract 14 s.size).extract 2 4) = L (s.extract 16 (16 + 2)) := by
            rw [L_extract, L_drop, L_extract, List.drop_drop]
          have e4 : (s.extract 14 s.size).extract 4 (s.extract 14 s.size).size = s.extract 18 s.size := L_inj (by
            rw [L_drop, L_drop, L_drop, List.drop_drop])
          obtain ⟨b14, z14⟩ := ext_at s 14 2 (by omega)
          obtain ⟨b16, z16⟩ := ext_at s 16 2 (by omega)
          rw [show Int.toNat 0 = 0 from rfl, show Int.toNat 2 = 2 from rfl, word_spec _ (by rw [← L_length, e0, L_length]; exact z14), Option.bind_some]
          rw [sliceS_eq (by omega), Option.bind_some]
          rw [show Int.toNat 2 = 2 from rfl, show Int.toNat 4 = 4 from rfl, word_spec _ (by rw [← L_length, e2, L_length]; exact z16), Option.bind_some]
          rw [sliceS_eq (by omega), Option.bind_some]
          simp only [Int.toNat_natCast]
          rw [show Int.toNat 4 = 4 from rfl, e4, e0, e2, b14, b16]
          have hv := at2_lt s 14 2
          have t1 : i64 (Int.tdiv ((at2 s 14 2 : Nat) : Int) 8192) = (tagOf (at2 s 14 2)).Pri := by
            rw [Int.tdiv_eq_ediv_of_nonneg (by omega), i64_id (by omega)]
            simp [tagOf]
          have t2 : ((Int.tmod (i64 (Int.tdiv ((at2 s 14 2 : Nat) : Int) 4096)) 2) == 1) = (tagOf (at2 s 14 2)).Dei := by
            rw [Int.tdiv_eq_ediv_of_nonneg (by omega), i64_id (by omega), Int.tmod_eq_emod_of_nonneg (by omega)]
            simp only [tagOf]
            by_cases hb : at2 s 14 2 / 4096 % 2 = 1
            · rw [decide_eq_true hb]
              simp only [beq_iff_eq]
              omega
            · rw [decide_eq_false hb]
              simp only [beq_eq_false_iff_ne]
              omega
          have t3 : Int.tmod ((at2 s 14 2 : Nat) : Int) 4096 = (tagOf (at2 s 14 2)).Vid := by
            rw [Int.tmod_eq_emod_of_nonneg (by omega)]
            simp [tagOf]
          rw [t1, t2, t3]
          exact ref_k2 s 18 (at2 s 16 2) _ _ (tagOf (at2 s 14 2)) _ rfl (by omega)
      · rw [if_neg h3, show ((((at2 s 12 2 : Nat) : Int)) == 33024) = false by simp; omega, cond_false]
        exact ref_k2 s 14 (at2 s 12 2) _ _ tag0 _ rfl (by omega)

end Go.Proofs.YtbodofjnfmjbpaaGreatDoor

namespace Go.Proofs.YtbodofjnfmjbpaaGreatDoor
open Go Eng
set_option linter.unusedVariables false
set_option linter.unusedSimpArgs false

/-! ### The head of a datagram's body -/
theorem rvx_flag (n : Nat) (h : n < 256) : ((Int.tmod (u8 (Int.tdiv (n : Int) 8)) 2) == 0) = decide (n / 8 % 2 = 0) := by
  rw [Int.tdiv_eq_ediv_of_nonneg (by omega), u8_id (by omega), Int.tmod_eq_emod_of_nonneg (by omega), Bool.eq_iff_iff]
  simp only [beq_iff_eq, decide_eq_true_eq]
  omega
theorem beV_snoc (l : List UInt8) (b : UInt8) : beV (l ++ [b]) = beV l * 256 + b.toNat := by
  show List.foldl _ 0 (_ ++ _) = _
  rw [List.foldl_append]
  rfl
theorem rvx_spec (s : ByteArray) : gangwayref08_Parse.f 2000 s = some (vxR s) := by
  unfold gangwayref08_Parse.f vxR
  by_cases h8 : s.size < 8
  · rw [if_pos h8, show decide ((s.size : Int) < 8) = true by simp; omega]; rfl
  · rw [if_neg h8, show decide ((s.size : Int) < 8) = false by simp; omega, cond_false]
    have hlen : (L s).length = s.size := L_length s
    obtain ⟨x, r, hx⟩ : ∃ x r, L s = x :: r := by
      cases hL : L s with
      | nil => rw [hL] at hlen; simp at hlen; omega
      | cons x r => exact ⟨x, r, rfl⟩
    have h0 := idxS_at s 0 x (by rw [hx]; rfl)
    rw [show ((0 : Nat) : Int) = 0 from rfl] at h0
    rw [h0, Option.bind_some, rvx_flag _ x.toNat_lt]
    have hhead : ((L s).headD 0).toNat = x.toNat := by rw [hx]; rfl
    rw [hhead]
    by_cases hf : x.toNat / 8 % 2 = 0
    · rw [decide_eq_true hf, if_pos hf]; rfl
    · rw [decide_eq_false hf, if_neg hf, cond_false]
      obtain ⟨a4, z4⟩ := ext_at s 4 4 (by omega)
      rw [sliceS_eq (by omega), Option.bind_some]
      rw [show Int.toNat 4 = 4 from rfl, show Int.toNat 8 = 8 from rfl, num_spec _ (by rw [z4]; omega), Option.bind_some, a4, sliceS_eq (by omega), Option.bind_some]
      simp only [Int.toNat_natCast]
      have hv : at2 s 4 4 / 256 = at2 s 4 3 := by
        have ht : ((L s).drop 4).take 4 = ((L s).drop 4).take 3 ++ [((L s).drop 4)[3]'(by rw [List.length_drop, hlen]; omega)] := by rw [List.take_append_getElem]
        unfold at2
        rw [ht, beV_snoc]
        have := (((L s).drop 4)[3]'(by rw [List.length_drop, hlen]; omega)).toNat_lt
        omega
      have hlt := at2_lt s 4 3
      rw [show (256 : Nat) ^ 3 = 16777216 from rfl] at hlt
      have e : i64 (u64 (Int.tdiv ((at2 s 4 4 : Nat) : Int) 256)) = ((at2 s 4 3 : Nat) : Int) := by
        rw [Int.tdiv_eq_ediv_of_nonneg (by omega), show ((at2 s 4 4 : Nat) : Int) / 256 = ((at2 s 4 4 / 256 : Nat) : Int) by omega, hv, u64_id (by omega), i64_id (by omega)]
      rw [e]
      rfl

/-! ### Segments -/
theorem rby_loop (l : List api_Seg) (n : Int) (hl : l.length ≤ 1000) (z : Bool) : ∀ (r pre : List api_Seg) (fuel : Nat), l = pre ++ r → r.length < fuel →
    gangwayref21_By.l1 l n fuel z (pre.length : Int) = some (match r.find? (fun s => s.Vni == n) with | some s => (s, true) | none => (seg0, false))
  | r, pre, 0, _, h => by omega
  | [], pre, fuel + 1, e, h => by
    subst e
    simp only [gangwayref21_By.l1]
    simp [seg0]
  | s :: r, pre, fuel + 1, e, h => by
    have hlen : l.length = pre.length + (r.length + 1) := by rw [e]; simp
    have hget : l[pre.length]? = some s := by rw [e]; simp
    simp only [gangwayref21_By.l1]
    rw [show decide ((pre.length : Int) < (l.length : Int)) = true by simp; omega, cond_true, getL_ofNat hget, Option.bind_some]
    cases hv : (s.Vni == n)
    · rw [cond_false, i64_id (by omega)]
      have := rby_loop l n hl z r (pre ++ [s]) fuel (by rw [e]; simp) (by simp at h; omega)
      rw [List.length_append, List.length_singleton] at this
      rw [show ((pre.length : Int) + 1) = ((pre.length + 1 : Nat) : Int) by omega, this, List.find?_cons, hv]
    · rw [cond_true, Option.bind_some, List.find?_cons, hv]
theorem rby_spec (l : List api_Seg) (n : Int) (hl : l.length ≤ 1000) : gangwayref21_By.f 2000 l n = some (byR l n) := by
  unfold gangwayref21_By.f byR
  exact rby_loop l n hl false l [] 2000 rfl (by omega)

theorem often_loop (l : List Int) (a : Int) (hl : l.length ≤ 1000) : ∀ (r pre : List Int) (fuel c : Nat), l = pre ++ r → r.length < fuel → c ≤ pre.length →
    gangwayref21_often.l2 l a fuel (c : Int) (pre.length : Int) = some ((c + r.count a : Nat) : Int)
  | r, pre, 0, c, _, h, _ => by omega
  | [], pre, fuel + 1, c, e, h, hc => by
    subst e
    simp only [gangwayref21_often.l2]
    simp
  | s :: r, pre, fuel + 1, c, e, h, hc => by
    have hlen : l.length = pre.length + (r.length + 1) := by rw [e]; simp
    have hget : l[pre.length]? = some s := by rw [e]; simp
    simp only [gangwayref21_often.l2, gangwayref21_often.k1]
    rw [show decide ((pre.length : Int) < (l.length : Int)) = true by simp; omega, cond_true, getL_ofNat hget, Option.bind_some, i64_id (n := (pre.length : Int) + 1) (by omega), show ((pre.length : Int) + 1) = ((pre.length + 1 : Nat) : Int) by omega]
    have ih := fun c' hc' => often_loop l a hl r (pre ++ [s]) fuel c' (by rw [e]; simp) (by simp at h; omega) hc'
    rw [List.length_append, List.length_singleton] at ih
    cases hv : (s == a)
    · rw [cond_false, ih c (by omega), List.count_cons, hv]
      simp
    · rw [cond_true, i64_id (by omega), show ((c : Int) + 1) = ((c + 1 : Nat) : Int) by omega, ih (c + 1) (by omega), List.count_cons, hv]
      congr 2
      simp
      omega
theorem often_spec (l : List Int) (a : Int) (hl : l.length ≤ 1000) : gangwayref21_often.f 2000 l a = some ((l.count a : Nat) : Int) := by
  unfold gangwayref21_often.f
  have := often_loop l a hl l [] 2000 0 rfl (by omega) (by omega)
  rw [Nat.zero_add] at this
  exact this

theorem rpeer_spec (l : List api_Seg) (n a : Int) (hl : l.length ≤ 1000) (hp : ∀ s ∈ l, s.Peers.length ≤ 1000) : gangwayref21_Peer.f 2000 l n a = some (peerR l n a) := by
  unfold gangwayref21_Peer.f peerR
  rw [rby_spec l n hl, Option.bind_some]
  have hpl : (byR l n).1.Peers.length ≤ 1000 := by
    unfold byR
    cases hf : l.find? (fun s => s.Vni == n) with
    | none => simp [seg0]
    | some s => exact hp s (List.mem_of_find?_eq_some hf)
  generalize byR l n = y at hpl
  obtain ⟨s, b⟩ := y
  cases b
  · rfl
  · simp only [cond_true, Bool.true_and]
    rw [often_spec _ _ hpl, Option.bind_some]
    unfold gangwayref21_Peer.k1
    congr 1
    apply decide_eq_decide.2
    have := List.count_pos_iff (a := a) (l := s.Peers)
    show ((List.count a s.Peers : Nat) : Int) > 0 ↔ _
    rw [← this]
    omega

theorem runwrap_spec (l : List api_Seg) (from_ : Int) (u : api_Udp) (hl : l.length ≤ 1000) (hp : ∀ s ∈ l, s.Peers.length ≤ 1000) : gangwayref22_Unwrap.f 2000 l from_ u = some (unwR l from_ u.Body) := by
  unfold gangwayref22_Unwrap.f unwR
  rw [rvx_spec, Option.bind_some]
  generalize vxR u.Body = x
  obtain ⟨v, s, e⟩ := x
  simp only
  by_cases he : e = 0
  · subst he
    simp only [bne_self_eq_false, cond_false, ne_eq, not_true_eq_false, if_false]
    rw [rby_spec l v hl, Option.bind_some]
    cases hy : byR l v with
    | mk y b =>
      simp only
      cases b
      · simp [seg0, frame0, tag0]
      · simp only [Bool.not_true, cond_false]
        rw [rpeer_spec l v from_ hl hp, Option.bind_some]
        cases hpr : peerR l v from_
        · simp [seg0, frame0, tag0]
        · simp only [Bool.not_true, cond_false]
          rw [ref_parse, Option.bind_some]
          generalize parseR s = z
          obtain ⟨f, c⟩ := z
          simp only
          by_cases hc : c = 0
          · subst hc
            cases hh : f.Tag.Has
            · simp [hh]
            · simp [hh, seg0, frame0, tag0]
          · have h1 : (c != 0) = true := by simp [hc]
            simp [h1, hc, seg0, frame0, tag0]
  · have h1 : (e != 0) = true := by simp [he]
    rw [h1]
    simp [he, seg0, frame0, tag0]

theorem same_loop (l : List Int) (hl : l.length ≤ 1000) (z : Bool) : ∀ (r pre : List Int) (fuel : Nat), l = pre ++ r → r.length < fuel → gangwayref21_Same.l1 l l fuel z (pre.length : Int) = some true
  | r, pre, 0, _, h => by omega
  | [], pre, fuel + 1, e, h => by
    subst e
    simp only [gangwayref21_Same.l1]
    simp
  | s :: r, pre, fuel + 1, e, h => by
    have hlen : l.length = pre.length + (r.length + 1) := by rw [e]; simp
    have hget : l[pre.length]? = some s := by rw [e]; simp
    simp only [gangwayref21_Same.l1]
    rw [show decide ((pre.length : Int) < (l.length : Int)) = true by simp; omega, cond_true, getL_ofNat hget, Option.bind_some, Option.bind_some, bne_self_eq_false, cond_false, i64_id (by omega), show ((pre.length : Int) + 1) = ((pre.length + 1 : Nat) : Int) by omega]
    have := same_loop l hl z r (pre ++ [s]) fuel (by rw [e]; simp) (by simp at h; omega)
    rw [List.length_append, List.length_singleton] at this
    exact this
theorem same_spec (v n : Int) (l : List Int) (hl : l.length ≤ 1000) : gangwayref21_Same.f 2000 v n l v n l = some true := by
  unfold gangwayref21_Same.f
  simp only [bne_self_eq_false, Bool.or_self, cond_false]
  exact same_loop l hl false l [] 2000 rfl (by omega)

theorem bound_loop (l : List api_Seg) : ∀ (j i fuel : Nat) (out : List api_Seg), i + j = 12 → j < fuel → out.length = i → (∀ s ∈ out, s.Peers.length ≤ 20) →
    ∃ r, gangwaylaw21_Bound.l1 l fuel out (i : Int) = some r ∧ r.length ≤ 12 ∧ ∀ s ∈ r, s.Peers.length ≤ 20
  | j, i, 0, out, _, h, _, _ => by omega
  | 0, i, fuel + 1, out, hij, h, ho, hp => by
    simp only [gangwaylaw21_Bound.l1]
    rw [show decide ((i : Int) < 12) = false by simp; omega, Bool.and_false, cond_false]
    exact ⟨out, rfl, by omega, hp⟩
  | j + 1, i, fuel + 1, out, hij, h, ho, hp => by
    simp only [gangwaylaw21_Bound.l1]
    rw [show decide ((i : Int) < 12) = true by simp; omega, Bool.and_true]
    by_cases hlt : i < l.length
    · rw [decide_eq_true (by omega : (i : Int) < (l.length : Int)), cond_true, getL_ofNat (List.getElem?_eq_getElem hlt), Option.bind_some]
      generalize l[i] = s
      have hmin : ∃ m : Nat, imin (s.Peers.length : Int) 20 = m ∧ m ≤ s.Peers.length ∧ m ≤ 20 := by
        by_cases h20 : s.Peers.length ≤ 20
        · exact ⟨s.Peers.length, by unfold imin; split <;> omega, Nat.le_refl _, h20⟩
        · exact ⟨20, by unfold imin; split <;> omega, by omega, Nat.le_refl _⟩
      obtain ⟨m, hm, hm1, hm2⟩ := hmin
      rw [hm]
      have hsl : sliceL s.Peers 0 (m : Int) = some (s.Peers.take m) := by
        unfold sliceL
        rw [if_pos (by omega)]
        simp
      rw [hsl, Option.bind_some]
      have htl : (s.Peers.take m).length ≤ 20 := by rw [List.length_take]; omega
      have hr1 : roomL 4 (s.Peers.take m).length = some () := by unfold roomL; rw [if_pos (by omega)]
      have hol : (out ++ [(⟨s.Vid, s.Vni, s.Peers.take m⟩ : api_Seg)]).length = i + 1 := by rw [List.length_append, ho]; rfl
      have hr2 : roomL 40 (out ++ [(⟨s.Vid, s.Vni, s.Peers.take m⟩ : api_Seg)]).length = some () := by unfold roomL; rw [hol, if_pos (by omega)]
      rw [hr1, Option.bind_some, hr2, Option.bind_some, i64_id (by omega), show ((i : Int) + 1) = ((i + 1 : Nat) : Int) by omega]
      refine bound_loop l j (i + 1) fuel _ (by omega) (by omega) hol fun q hq => ?_
      rw [List.mem_append, List.mem_singleton] at hq
      rcases hq with hq | rfl
      · exact hp q hq
      · exact htl
    · rw [decide_eq_false (by omega : ¬ (i : Int) < (l.length : Int)), cond_false]
      exact ⟨out, rfl, by omega, hp⟩
theorem bound_spec (l : List api_Seg) : ∃ r, gangwaylaw21_Bound.f 2000 l = some r ∧ r.length ≤ 12 ∧ ∀ s ∈ r, s.Peers.length ≤ 20 :=
  bound_loop l 12 0 2000 [] (by omega) (by omega) rfl (by simp)
end Go.Proofs.YtbodofjnfmjbpaaGreatDoor

namespace Go.Proofs.YtbodofjnfmjbpaaGreatDoor
open Go Eng
theorem fixed_true : gangwaylaw22_fixed.f 2000 = some true := by kernel_rfl
end Go.Proofs.YtbodofjnfmjbpaaGreatDoor

namespace Go.Proofs.YtbodofjnfmjbpaaGreatDoor
open Go Eng
set_option linter.unusedVariables false

def Ok3 (n : Int) : Prop := (-9223372036854775808) ≤ n ∧ n ≤ 9223372036854775807
theorem dec3 (W : World) : Dec Tryz.prog W 3 (pl (encI .i64)) noK Ok3 := (Dec.int Tryz.underlying3).mono fun _ h => Eng.wf_i64 h

def Ok22 (n : Int) : Prop := 0 ≤ n ∧ n ≤ 4294967295
theorem dec22 (W : World) : Dec Tryz.prog W 22 (pl (encI .u32)) noK Ok22 := (Dec.int Tryz.underlying22).mono fun _ h => Eng.wf_u32 h

def Ok33 (xs : (List Int)) : Prop := (∀ x ∈ xs, Ok22 x) ∧ xs.length * 4 ≤ 140737488351232
set_option maxRecDepth 100000 in
theorem dec33 (W : World) : Dec Tryz.prog W 33 (fun (xs : (List Int)) s => [slcV s xs.length]) (fun (xs : (List Int)) s => Row 1 (pl (encI .u32)) noK s xs) Ok33 := Dec.slice 0 () (by kernel_rfl) (by kernel_rfl) (by decide) (fun _ _ => rfl) (by kernel_rfl : _ = 4) (dec22 W)

def Ok35 (x : api_Seg) : Prop := Ok3 x.Vid ∧ Ok3 x.Vni ∧ Ok33 x.Peers
set_option maxRecDepth 100000 in
theorem dec35 (W : World) : Dec Tryz.prog W 35 api_Seg.encS api_Seg.inK Ok35 := fun H enc fuel cs d h hw => by
  obtain ⟨ps, r0, rfl⟩ := Dec.fields [3, 3, 33] Tryz.underlying35 (by kernel_rfl) (by kernel_rfl) h hw
  obtain ⟨p0, ps0, rfl, ⟨f0, d0, h0, w0⟩, r1⟩ := r0.cons
  obtain ⟨x0, s0, rfl, k0, q0⟩ := dec3 W H enc f0 p0 d0 h0 w0
  obtain ⟨p1, ps1, rfl, ⟨f1, d1, h1, w1⟩, r2⟩ := r1.cons
  obtain ⟨x1, s1, rfl, k1, q1⟩ := dec3 W H enc f1 p1 d1 h1 w1
  obtain ⟨p2, ps2, rfl, ⟨f2, d2, h2, w2⟩, r3⟩ := r2.cons
  obtain ⟨x2, s2, rfl, k2, q2⟩ := dec33 W H enc f2 p2 d2 h2 w2
  obtain rfl := r3.nil
  exact ⟨⟨x0, x1, x2⟩, s2, rfl, k2, q0, q1, q2⟩
theorem up35 : Up api_Seg.inK := fun x s w w' h k => (Up.row Up.no) x.Peers s w w' h k

def Ok38 (xs : (List api_Seg)) : Prop := (∀ x ∈ xs, Ok35 x) ∧ xs.length * 40 ≤ 140737488351232
set_option maxRecDepth 100000 in
theorem dec38 (W : World) : Dec Tryz.prog W 38 (fun (xs : (List api_Seg)) s => [slcV s xs.length]) (fun (xs : (List api_Seg)) s => Row 3 api_Seg.encS api_Seg.inK s xs) Ok38 := Dec.slice (api_Seg.mk 0 0 ([] : List Int)) (SkL.nil (fun _ => ())) (by kernel_rfl) (by kernel_rfl) (by decide) (fun _ _ => rfl) (by kernel_rfl : _ = 40) (dec35 W)
end Go.Proofs.YtbodofjnfmjbpaaGreatDoor
