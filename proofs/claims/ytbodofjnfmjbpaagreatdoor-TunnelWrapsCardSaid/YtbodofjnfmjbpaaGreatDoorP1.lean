/- Plain arithmetic of the functions' models: no conditions but those that each theorem bears. -/
import Derived.Test.YtbodofjnfmjbpaaGreatDoorF2
import Derived.Test.YtbodofjnfmjbpaaGreatDoorF1
import Derived.Test.YtbodofjnfmjbpaaGreatDoorE2
import Derived.Test.YtbodofjnfmjbpaaGreatDoorF3
import Derived.Test.YtbodofjnfmjbpaaGreatDoorF5

namespace Go.Proofs.YtbodofjnfmjbpaaGreatDoor
open Go Eng
set_option linter.unusedVariables false
set_option linter.unusedSimpArgs false

theorem pow256 (i : Nat) : (2 : Nat) ^ (8 * i) = 256 ^ i := by rw [Nat.pow_mul]
theorem shr_spec (v i : Nat) (hi : i ≤ 7) : shrI .u64 (v : Int) (i64 (8 * (i : Int))) = some ((v / 256 ^ i : Nat) : Int) := by
  rw [i64_id (by omega)]
  simp only [shrI, IntKind.bits]
  rw [if_neg (by omega)]
  have : (8 * (i : Int)).toNat = 8 * i := by omega
  rw [this, Nat.min_eq_left (by omega), ← pow256, Int.fdiv_eq_ediv_of_nonneg _ (Int.pow_nonneg (by decide)), Int.natCast_ediv, Int.natCast_pow]
  rfl

theorem drop_set {α : Type} (l : List α) (i : Nat) (b : α) (hi : i < l.length) : (l.set i b).drop i = b :: l.drop (i + 1) := by
  apply List.ext_getElem?
  intro j
  rw [List.getElem?_drop]
  cases j with
  | zero => simp [hi]
  | succ j =>
    rw [List.getElem?_cons_succ, List.getElem?_drop, List.getElem?_set_ne (by omega)]
    congr 1; omega

theorem put_loop (v w : Nat) (hw : 1 ≤ w ∧ w ≤ 8) : ∀ (j i : Nat) (xs : List Int) (fuel : Nat), i + j = w → xs.length = w → j < fuel → xs.drop (w - i) = (beL i v).map (fun b => (b.toNat : Int)) →
    octets_Put.l3 w v w fuel i xs = some (be w v, 0)
  | 0, i, xs, 0, hij, hl, hf, hd => by omega
  | 0, i, xs, fuel + 1, hij, hl, hf, hd => by
    obtain rfl : i = w := by omega
    simp only [octets_Put.l3]
    rw [show decide ((i : Int) < (i : Int)) = false by simp]
    simp only [cond_false, octets_Put.k4]
    rw [show i - i = 0 by omega, List.drop_zero] at hd
    have : strOf i xs = some (be i v) := by
      unfold strOf
      rw [if_pos (by omega), List.take_of_length_le (by omega)]
      congr 1
      rw [hd]
      simp only [strOfNums, be, List.map_map]
      congr 1
      rw [show ((fun n : Int => UInt8.ofNat n.toNat) ∘ fun b : UInt8 => (b.toNat : Int)) = id by funext b; simp]
      simp
    rw [this]
    rfl
  | j + 1, i, xs, 0, hij, hl, hf, hd => by omega
  | j + 1, i, xs, fuel + 1, hij, hl, hf, hd => by
    simp only [octets_Put.l3]
    rw [show decide ((i : Int) < (w : Int)) = true by simp; omega]
    simp only [cond_true]
    rw [shr_spec v i (by omega), i64_id (n := (w : Int) - 1) (by omega), i64_id (n := (w : Int) - 1 - (i : Int)) (by omega), i64_id (n := (i : Int) + 1) (by omega)]
    have hg : ((w : Int) - 1 - (i : Int)).toNat = w - (i + 1) := by omega
    obtain ⟨x, hx⟩ : ∃ x, getL w xs ((w : Int) - 1 - (i : Int)) = some x := by
      unfold getL
      rw [if_pos (by omega), hg]
      exact ⟨_, List.getElem?_eq_getElem (by omega)⟩
    rw [hx]
    simp only [Option.bind_some]
    have := put_loop v w hw j (i + 1) (List.set xs (w - (i + 1)) (u8 ((v / 256 ^ i : Nat) : Int))) fuel (by omega) (by simpa using hl) (by omega) (by
      rw [drop_set _ _ _ (by omega)]
      simp only [beL, List.map_cons]
      rw [show w - (i + 1) + 1 = w - i by omega, hd]
      congr 1
      rw [u8_mod]
      simp)
    rw [hg]
    exact this

theorem put_spec (v w : Nat) (hw : 1 ≤ w ∧ w ≤ 8) (hv : v < 256 ^ w) (hv2 : v < 2 ^ 64) : octets_Put.f 2000 v w = some (be w v, 0) := by
  have hk : octets_Put.k2 w v 2000 false = some (be w v, 0) := by
    simp only [octets_Put.k2, cond_false]
    have : mkLen 1 w = some w := by
      unfold mkLen
      rw [if_pos (by omega)]
      simp
    rw [this, Option.bind_some]
    exact put_loop v w hw w 0 _ 2000 (by omega) (by simp) (by omega) (by simp [beL])
  simp only [octets_Put.f]
  rw [show ((decide ((w : Int) < 1)) || (decide ((w : Int) > 8))) = false by simp; omega]
  simp only [cond_false]
  by_cases h8 : w < 8
  · rw [show decide ((w : Int) < 8) = true by simp; omega]
    simp only [cond_true]
    rw [shr_spec v w (by omega), Option.bind_some, Nat.div_eq_of_lt hv]
    exact hk
  · rw [show decide ((w : Int) < 8) = false by simp; omega]
    simp only [cond_false]
    exact hk

/-! ### Get -/
theorem mul_or {a c : Nat} (ha : a < 72057594037927936) (hc : c < 256) : bOr .u64 (u64 ((a : Int) * 256)) (u64 (c : Int)) = ((a * 256 + c : Nat) : Int) := by
  rw [u64_id (by omega), u64_id (by omega)]
  have e : ((a : Int) * 256) = ((a * 256 : Nat) : Int) := by omega
  rw [e]
  have h1 : a * 256 < 2 ^ 64 := by omega
  have h2 : c < 2 ^ 64 := by omega
  have h3 := bOr_u64 h1 h2
  rw [h3]
  have h4 := or_add 8 (x := a) (y := c) (by omega)
  rw [show (2 : Nat) ^ 8 = 256 from rfl] at h4
  rw [h4]
theorem get_loop (r : ByteArray) (n : Nat) (hn : n ≤ 8) (hr : r.size = n) : ∀ (j i fuel : Nat), i + j = n → j < fuel → octets_Get.l1 n r fuel ((beV ((L r).take i) : Nat) : Int) i = some (((beV (L r) : Nat) : Int), 0)
  | 0, i, 0, hij, hf => by omega
  | 0, i, fuel + 1, hij, hf => by
    obtain rfl : i = n := by omega
    simp only [octets_Get.l1]
    rw [show decide ((i : Int) < (i : Int)) = false by simp]
    rw [List.take_of_length_le (by rw [L_length]; omega)]
    rfl
  | j + 1, i, 0, hij, hf => by omega
  | j + 1, i, fuel + 1, hij, hf => by
    simp only [octets_Get.l1]
    rw [show decide ((i : Int) < (n : Int)) = true by simp; omega]
    simp only [cond_true]
    have hlen : i < (L r).length := by rw [L_length]; omega
    have hidx : idxS r i = some (((L r)[i].toNat : Nat) : Int) := by
      unfold idxS
      rw [if_pos (by omega)]
      have : (r.data[(i : Int).toNat]?) = some (L r)[i] := by
        rw [← Array.getElem?_toList]
        exact List.getElem?_eq_getElem hlen
      rw [this]; rfl
    rw [hidx, Option.bind_some]
    have ht : (L r).take (i + 1) = (L r).take i ++ [(L r)[i]] := by rw [List.take_append_getElem]
    have hb := beV_lt ((L r).take i)
    rw [List.length_take, Nat.min_eq_left (by omega)] at hb
    have hp : 256 ^ i ≤ 256 ^ 7 := Nat.pow_le_pow_right (by decide) (by omega)
    have h7 : (256 : Nat) ^ 7 = 72057594037927936 := by decide
    have hc := (L r)[i].toNat_lt
    have hval : beV ((L r).take (i + 1)) = beV ((L r).take i) * 256 + (L r)[i].toNat := by
      rw [ht]
      show List.foldl _ 0 (_ ++ _) = _
      rw [List.foldl_append]
      rfl
    have hstep := mul_or (a := beV ((L r).take i)) (c := (L r)[i].toNat) (by omega) (by omega)
    rw [← hval] at hstep
    rw [hstep, i64_id (by omega)]
    have := get_loop r n hn hr j (i + 1) fuel (by omega) (by omega)
    exact this

theorem part_in (s : ByteArray) (o n : Nat) (h : o + n ≤ s.size) (hs : s.size ≤ 140737488351232) : octets_part.f s o n = some (s.extract o (o + n), none) := by
  simp only [octets_part.f]
  rw [show ((decide ((o : Int) < 0)) || (decide ((n : Int) < 0))) = false by simp]
  simp only [cond_false]
  rw [i64_id (by omega), i64_id (by omega)]
  rw [show ((decide ((o : Int) > (s.size : Int))) || (decide ((n : Int) > (s.size : Int) - (o : Int)))) = false by simp; omega]
  simp only [cond_false]
  rw [sliceS_eq (by omega)]
  rfl
theorem part_out (s : ByteArray) (o n : Nat) (h : s.size < o + n) (hs : s.size ≤ 140737488351232) : octets_part.f s o n = some ((⟨#[]⟩ : ByteArray), some ((o : Int), 10)) := by
  simp only [octets_part.f]
  rw [show ((decide ((o : Int) < 0)) || (decide ((n : Int) < 0))) = false by simp]
  simp only [cond_false]
  by_cases ho : s.size < o
  · rw [show decide ((o : Int) > (s.size : Int)) = true by simp; omega]
    rfl
  · rw [i64_id (by omega)]
    rw [show ((decide ((o : Int) > (s.size : Int))) || (decide ((n : Int) > (s.size : Int) - (o : Int)))) = true by simp; omega]
    rfl

theorem get_in (s : ByteArray) (o n : Nat) (hn : 1 ≤ n ∧ n ≤ 8) (h : o + n ≤ s.size) (hs : s.size ≤ 140737488351232) : octets_Get.f 2000 s o n = some (((beV (((L s).drop o).take n) : Nat) : Int), 0) := by
  simp only [octets_Get.f]
  rw [show ((decide ((n : Int) < 1)) || (decide ((n : Int) > 8))) = false by simp; omega]
  simp only [cond_false]
  rw [part_in s o n h hs, Option.bind_some]
  have e : L (s.extract o (o + n)) = ((L s).drop o).take n := by rw [L_extract]; congr 1; omega
  have hz : (s.extract o (o + n)).size = n := by rw [← L_length, e]; simp [L_length]; omega
  have := get_loop (s.extract o (o + n)) n (by omega) hz n 0 2000 (by omega) (by omega)
  rw [e] at this
  exact this
theorem get_out (s : ByteArray) (o n : Nat) (hn : 1 ≤ n ∧ n ≤ 8) (h : s.size < o + n) (hs : s.size ≤ 140737488351232) : octets_Get.f 2000 s o n = some (0, 10) := by
  simp only [octets_Get.f]
  rw [show ((decide ((n : Int) < 1)) || (decide ((n : Int) > 8))) = false by simp; omega]
  simp only [cond_false]
  rw [part_out s o n h hs, Option.bind_some]
  rfl
end Go.Proofs.YtbodofjnfmjbpaaGreatDoor

namespace Go.Proofs.YtbodofjnfmjbpaaGreatDoor
open Go Eng
set_option linter.unusedVariables false
set_option linter.unusedSimpArgs false

def tag0 : api_Tag := ⟨false, 0, false, 0⟩
def frame0 : api_Frame := ⟨0, 0, tag0, 0, ⟨#[]⟩⟩

structure Good (a : api_Frame) : Prop where
  dst : 0 ≤ a.Dst ∧ a.Dst < 281474976710656
  src : 0 ≤ a.Src ∧ a.Src < 281474976710656
  bare : a.Tag.Has = false → a.Tag = tag0
  tag : a.Tag.Has = true → 0 ≤ a.Tag.Pri ∧ a.Tag.Pri < 8 ∧ 0 ≤ a.Tag.Vid ∧ a.Tag.Vid < 4096
  type : (a.Type_ = 0 ∧ a.Body.size ≤ 1500) ∨ (1536 ≤ a.Type_ ∧ a.Type_ ≤ 65535 ∧ a.Type_ ≠ 33024)
  size : 14 + a.Body.size + (if a.Tag.Has then 4 else 0) ≤ 1600

theorem size_spec (a : api_Frame) (hb : a.Body.size ≤ 140737488351232) : ether_size.f a = some (((14 + a.Body.size + (if a.Tag.Has then 4 else 0) : Nat) : Int)) := by
  unfold ether_size.f ether_size.k1
  rw [i64_id (n := 14 + (a.Body.size : Int)) (by omega), i64_id (by omega)]
  cases a.Tag.Has <;> simp <;> omega

theorem tag_spec (t : api_Tag) : ∃ b, ether_tag.f t = some b ∧ (b = true ↔ ((t.Has = false → t = tag0) ∧ (t.Has = true → 0 ≤ t.Pri ∧ t.Pri < 8 ∧ 0 ≤ t.Vid ∧ t.Vid < 4096))) := by
  obtain ⟨h, p, d, v⟩ := t
  unfold ether_tag.f
  cases h
  · refine ⟨_, rfl, ?_⟩
    simp [tag0]
  · refine ⟨_, rfl, ?_⟩
    simp [and_assoc]

theorem check_spec (a : api_Frame) (h1 : 0 ≤ a.Dst) (h2 : 0 ≤ a.Src) (hb : a.Body.size ≤ 140737488351232) : ∃ c, ether_Check.f a = some c ∧ (c = 0 ↔ Good a) := by
  have hk1 : ∃ c, ether_Check.k1 a true = some c ∧ c ≠ 0 := ⟨41, rfl, by decide⟩
  have hk2 : ether_Check.k2 a true = ether_Check.k1 a true := rfl
  unfold ether_Check.f
  by_cases hd : a.Dst < 281474976710656 ∧ a.Src < 281474976710656
  · rw [show ((decide (a.Dst ≥ 281474976710656)) || (decide (a.Src ≥ 281474976710656))) = false by simp; omega]
    simp only [cond_false]
    obtain ⟨b, hb1, hb2⟩ := tag_spec a.Tag
    rw [hb1, Option.bind_some]
    cases b
    · refine ⟨41, rfl, ⟨fun h => (by cases h), fun g => ?_⟩⟩
      have := hb2.2 ⟨g.bare, g.tag⟩
      cases this
    · have ht := hb2.1 rfl
      simp only [Bool.not_true, ether_Check.k2, cond_false]
      by_cases hty : a.Type_ = 0 ∨ (1536 ≤ a.Type_ ∧ a.Type_ ≤ 65535 ∧ a.Type_ ≠ 33024)
      · rw [show ((a.Type_ != 0) && (!(((decide (a.Type_ ≥ 1536)) && (decide (a.Type_ ≤ 65535))) && (a.Type_ != 33024)))) = false by
          rcases hty with h | ⟨x, y, z⟩
          · simp [h]
          · simp [x, y, z]]
        simp only [ether_Check.k1, cond_false]
        by_cases hs : a.Type_ = 0 ∧ 1500 < a.Body.size
        · rw [show ((a.Type_ == 0) && (decide ((a.Body.size : Int) > 1500))) = true by simp [hs.1]; omega]
          refine ⟨40, rfl, ⟨fun h => (by cases h), fun g => ?_⟩⟩
          rcases g.type with h | h <;> omega
        · rw [show ((a.Type_ == 0) && (decide ((a.Body.size : Int) > 1500))) = false by simp; omega]
          simp only [cond_false]
          rw [size_spec a hb, Option.bind_some]
          by_cases hz : 14 + a.Body.size + (if a.Tag.Has then 4 else 0) ≤ 1600
          · rw [show decide ((((14 + a.Body.size + (if a.Tag.Has then 4 else 0) : Nat) : Int)) > 1600) = false by simp only [decide_eq_false_iff_not]; omega]
            refine ⟨0, rfl, ⟨fun _ => ⟨⟨h1, hd.1⟩, ⟨h2, hd.2⟩, ht.1, ht.2, ?_, hz⟩, fun _ => rfl⟩⟩
            rcases hty with h | h
            · exact .inl ⟨h, by omega⟩
            · exact .inr h
          · rw [show decide ((((14 + a.Body.size + (if a.Tag.Has then 4 else 0) : Nat) : Int)) > 1600) = true by simp only [decide_eq_true_eq]; omega]
            exact ⟨41, rfl, ⟨fun h => (by cases h), fun g => absurd g.size hz⟩⟩
      · rw [show ((a.Type_ != 0) && (!(((decide (a.Type_ ≥ 1536)) && (decide (a.Type_ ≤ 65535))) && (a.Type_ != 33024)))) = true by
          simp; omega]
        refine ⟨41, rfl, ⟨fun h => (by cases h), fun g => ?_⟩⟩
        rcases g.type with h | h <;> omega
  · rw [show ((decide (a.Dst ≥ 281474976710656)) || (decide (a.Src ≥ 281474976710656))) = true by simp; omega]
    refine ⟨41, rfl, ⟨fun h => (by cases h), fun g => ?_⟩⟩
    exact absurd ⟨g.dst.2, g.src.2⟩ hd

/-! ### Build -/
def infoN (t : api_Tag) : Nat := t.Pri.toNat * 8192 + ((if t.Dei then 4096 else 0) + t.Vid.toNat)
def tagL (t : api_Tag) : List UInt8 := if t.Has then beL 2 33024 ++ beL 2 (infoN t) else []
def typeN (a : api_Frame) : Nat := if a.Type_ = 0 then a.Body.size else a.Type_.toNat
def frameL (a : api_Frame) : List UInt8 := beL 6 a.Dst.toNat ++ (beL 6 a.Src.toNat ++ (tagL a.Tag ++ (beL 2 (typeN a) ++ L a.Body)))

theorem eput (v wi : Int) (w : Nat) (hwi : wi = (w : Int)) (hw : 1 ≤ w ∧ w ≤ 8) (h0 : 0 ≤ v) (hv : v < ((256 ^ w : Nat) : Int)) (hv2 : v < 18446744073709551616) : ether_put.f 2000 v wi = some (be w v.toNat) := by
  subst hwi
  have : v = ((v.toNat : Nat) : Int) := by omega
  unfold ether_put.f
  have h := put_spec v.toNat w hw (by omega) (by omega)
  rw [← this] at h
  rw [h]
  rfl

theorem info_spec (t : api_Tag) (h : 0 ≤ t.Pri ∧ t.Pri < 8 ∧ 0 ≤ t.Vid ∧ t.Vid < 4096) : ether_info.f t = some ((infoN t : Nat) : Int) ∧ infoN t < 65536 := by
  obtain ⟨ha, p, d, v⟩ := t
  obtain ⟨p, rfl⟩ : ∃ n : Nat, p = n := ⟨p.toNat, by simp only at h; omega⟩
  obtain ⟨v, rfl⟩ : ∃ n : Nat, v = n := ⟨v.toNat, by simp only at h; omega⟩
  simp only at h
  have e1 : bOr .i64 (i64 ((p : Int) * 8192)) (v : Int) = ((p * 8192 + v : Nat) : Int) := by
    rw [i64_id (by omega)]
    have e : ((p : Int) * 8192) = ((p * 8192 : Nat) : Int) := by omega
    rw [e, bOr_i64 (show p * 8192 < 2 ^ 63 by omega) (show v < 2 ^ 63 by omega)]
    have h4 := or_add 13 (x := p) (y := v) (by omega)
    rw [show (2 : Nat) ^ 13 = 8192 from rfl] at h4
    rw [h4]
  unfold ether_info.f
  cases d
  · simp only [cond_false, e1, ether_info.k1]
    rw [u64_id (by omega)]
    simp only [infoN]
    refine ⟨by simp, by simp; omega⟩
  · simp only [cond_true, e1, ether_info.k1]
    have e2 : bOr .i64 ((p * 8192 + v : Nat) : Int) 4096 = ((p * 8192 + (4096 + v) : Nat) : Int) := by
      have h1 := bOr_i64 (show p * 8192 + v < 2 ^ 63 by omega) (show 4096 < 2 ^ 63 by decide)
      rw [show ((4096 : Nat) : Int) = 4096 from rfl] at h1
      rw [h1]
      have a1 := or_add 13 (x := p) (y := v) (by omega)
      have a2 := or_add 12 (x := 1) (y := v) (by omega)
      have a3 := or_add 13 (x := p) (y := 4096 + v) (by omega)
      rw [show (2 : Nat) ^ 13 = 8192 from rfl] at a1 a3
      rw [show 1 * (2 : Nat) ^ 12 = 4096 from rfl] at a2
      rw [← a1, Nat.or_assoc, Nat.or_comm v 4096, a2, a3]
    rw [e2, u64_id (by omega)]
    simp only [infoN]
    refine ⟨by simp, by simp; omega⟩

theorem build_good (a : api_Frame) (g : Good a) : ether_Build.f 2000 a = some (⟨(frameL a).toArray⟩, 0) := by
  have hbs : a.Body.size ≤ 1600 := by have := g.size; omega
  obtain ⟨c, hc, hc0⟩ := check_spec a g.dst.1 g.src.1 (by omega)
  have : c = 0 := hc0.2 g
  subst this
  unfold ether_Build.f
  rw [hc, Option.bind_some]
  rw [show ((0 : Int) != 0) = false from rfl]
  simp only [cond_false]
  rw [eput a.Dst 6 6 rfl (by omega) g.dst.1 (by have := g.dst.2; simpa using this) (by have := g.dst.2; omega), Option.bind_some]
  rw [eput a.Src 6 6 rfl (by omega) g.src.1 (by have := g.src.2; simpa using this) (by have := g.src.2; omega), Option.bind_some]
  rw [catS_eq (by simp [be_size]), Option.bind_some]
  -- the rest, behind the tag
  have k1 : ∀ (x : ByteArray) (z : Int), x.size ≤ 100 → z = ((typeN a : Nat) : Int) → ether_Build.k1 2000 x a z = some (⟨(L x ++ (beL 2 (typeN a) ++ L a.Body)).toArray⟩, 0) := fun x z hx hz => by
    have hz2 : z < 65536 := by
      rw [hz]
      rcases g.type with h | h
      · simp only [typeN, h.1, if_true]; omega
      · simp only [typeN]; rw [if_neg (by omega)]; omega
    unfold ether_Build.k1
    rw [u64_id (by omega), eput z 2 2 rfl (by omega) (by omega) (by simpa using hz2) (by omega), Option.bind_some]
    have e : z.toNat = typeN a := by omega
    rw [e, catS_eq (by simp [be_size]; omega), Option.bind_some, catS_eq (by simp [be_size]; omega), Option.bind_some]
    refine congrArg (fun z => some (z, (0 : Int))) (L_inj (Eq.trans ?_ (L_mk _).symm))
    rw [L_append, L_append, L_be, List.append_assoc]
  have k2 : ∀ (x : ByteArray), x.size ≤ 100 → ether_Build.k2 a 2000 x = some (⟨(L x ++ (beL 2 (typeN a) ++ L a.Body)).toArray⟩, 0) := fun x hx => by
    unfold ether_Build.k2
    by_cases ht : a.Type_ = 0
    · rw [show (a.Type_ == 0) = true by simp [ht]]
      exact k1 x _ hx (by simp [typeN, ht])
    · rw [show (a.Type_ == 0) = false by simp [ht]]
      refine k1 x _ hx ?_
      rcases g.type with h | h
      · exact absurd h.1 ht
      · simp only [typeN]; rw [if_neg ht]; omega
  cases hh : a.Tag.Has
  · simp only [cond_false]
    rw [k2 _ (by simp [be_size])]
    refine congrArg (fun z => some (z, (0 : Int))) (L_inj (Eq.trans (L_mk _) (Eq.trans ?_ (L_mk _).symm)))
    rw [L_append, L_be, L_be]
    simp [frameL, tagL, hh]
  · simp only [cond_true]
    obtain ⟨hi, hi2⟩ := info_spec a.Tag (g.tag hh)
    rw [eput 33024 2 2 rfl (by omega) (by omega) (by decide) (by omega), Option.bind_some, hi, Option.bind_some, eput _ 2 2 rfl (by omega) (by omega) (Int.ofNat_lt.2 (by simpa using hi2)) (by omega), Option.bind_some]
    rw [catS_eq (by simp [be_size]), Option.bind_some, catS_eq (by simp [be_size]), Option.bind_some, k2 _ (by simp [be_size])]
    refine congrArg (fun z => some (z, (0 : Int))) (L_inj (Eq.trans (L_mk _) (Eq.trans ?_ (L_mk _).symm)))
    rw [L_append, L_append, L_append, L_be, L_be, L_be, L_be]
    simp [frameL, tagL, hh]

theorem build_bad (a : api_Frame) (h1 : 0 ≤ a.Dst) (h2 : 0 ≤ a.Src) (hb : a.Body.size ≤ 140737488351232) (g : ¬ Good a) : ∃ c, c ≠ 0 ∧ ether_Check.f a = some c ∧ ether_Build.f 2000 a = some (⟨#[]⟩, c) := by
  obtain ⟨c, hc, hc0⟩ := check_spec a h1 h2 hb
  have hne : c ≠ 0 := fun h => g (hc0.1 h)
  refine ⟨c, hne, hc, ?_⟩
  unfold ether_Build.f
  rw [hc, Option.bind_some, show (c != 0) = true by simp [hne]]
  rfl
end Go.Proofs.YtbodofjnfmjbpaaGreatDoor

namespace Go.Proofs.YtbodofjnfmjbpaaGreatDoor
open Go Eng
set_option linter.unusedVariables false
set_option linter.unusedSimpArgs false

theorem rget_in (s : ByteArray) (o n : Nat) (oi ni : Int) (ho : oi = o) (hni : ni = n) (nm : ByteArray) (hn : 1 ≤ n ∧ n ≤ 8) (h : o + n ≤ s.size) (hs : s.size ≤ 1600) :
    ether_reader_get.f 2000 ⟨s, oi⟩ ni nm = some (((beV (((L s).drop o).take n) : Nat) : Int), none, ⟨s, ((o + n : Nat) : Int)⟩) := by
  subst ho; subst hni
  unfold ether_reader_get.f
  simp only
  rw [get_in s o n hn h (by omega), Option.bind_some]
  simp only [bne_self_eq_false, cond_false]
  rw [i64_id (by omega)]
  rfl
theorem rget_out (s : ByteArray) (o n : Nat) (oi ni : Int) (ho : oi = o) (hni : ni = n) (nm : ByteArray) (hn : 1 ≤ n ∧ n ≤ 8) (h : s.size < o + n) (hs : s.size ≤ 1600) :
    ether_reader_get.f 2000 ⟨s, oi⟩ ni nm = some (0, some (nm, 40), ⟨s, oi⟩) := by
  subst ho; subst hni
  unfold ether_reader_get.f
  simp only
  rw [get_out s o n hn h (by omega), Option.bind_some]
  rfl

/-- What the reader ends with, as a Parse: the frame, or why there is none. -/
def ends (x : api_Frame × Un1 × ether_reader) : api_Frame × Int := match x.2.1 with
  | none => (x.1, 0)
  | some (_, e) => (frame0, e)

theorem parse_of (s : ByteArray) (hs : s.size ≤ 1600) (x : api_Frame × Un1 × ether_reader) (h : ether_reader_frame.f 2000 ⟨s, 0⟩ = some x) : ether_Parse.f 2000 s = some (ends x) := by
  unfold ether_Parse.f
  rw [show decide ((s.size : Int) > 1600) = false by simp; omega]
  simp only [cond_false]
  rw [h, Option.bind_some]
  obtain ⟨g, u, r⟩ := x
  rcases u with _ | ⟨q, e⟩
  · rfl
  · simp only [ends]
    by_cases he : e = 40
    · subst he; rfl
    · have h1 : errors_Is_1.f q e 40 = some false := by
        unfold errors_Is_1.f errors_is.f ether_odd_Unwrap.f
        rw [Option.bind_some]
        rw [show (true && (e == 40)) = false by simp [he]]
        rfl
      rw [h1, Option.bind_some]
      rfl

/-- The number behind the two addresses (and the tag). -/
def bodyR (s : ByteArray) (p : Nat) (a : api_Frame) (n : Nat) : api_Frame × Int :=
  if n = 33024 ∨ (1500 < n ∧ n < 1536) then (frame0, 41)
  else if 1500 < n then (⟨a.Dst, a.Src, a.Tag, n, s.extract p s.size⟩, 0)
  else if s.size < p + n then (frame0, 40)
  else (⟨a.Dst, a.Src, a.Tag, a.Type_, (s.extract p s.size).extract 0 n⟩, 0)

theorem body_spec (s : ByteArray) (p n : Nat) (pi ni : Int) (hpi : pi = p) (hni : ni = n) (a : api_Frame) (hp : p ≤ s.size) (hs : s.size ≤ 1600) (r : ether_reader) :
    ∃ u g, ether_reader_body.f ⟨s, pi⟩ a ni = some (u, g) ∧ ends (g, u, r) = bodyR s p a n := by
  subst hpi; subst hni
  unfold ether_reader_body.f
  simp only
  rw [sliceS_eq (by omega), Option.bind_some]
  simp only [Int.toNat_natCast]
  have hz : (s.extract p s.size).size = s.size - p := by simp
  by_cases h1 : n = 33024
  · subst h1
    refine ⟨_, _, rfl, ?_⟩
    simp [ends, bodyR]
  · rw [show (((n : Int)) == 33024) = false by simp; omega]
    simp only [cond_false]
    by_cases h2 : 1500 < n ∧ n < 1536
    · rw [show ((decide ((n : Int) > 1500)) && (decide ((n : Int) < 1536))) = true by simp; omega]
      refine ⟨_, _, rfl, ?_⟩
      simp [ends, bodyR, h2]
    · rw [show ((decide ((n : Int) > 1500)) && (decide ((n : Int) < 1536))) = false by simp; omega]
      simp only [ether_reader_body.k1, cond_false]
      by_cases h3 : 1500 < n
      · rw [show decide ((n : Int) > 1500) = true by simp; omega]
        refine ⟨_, _, rfl, ?_⟩
        simp only [ends, bodyR]
        rw [if_neg (by omega), if_pos h3]
      · rw [show decide ((n : Int) > 1500) = false by simp; omega]
        simp only [cond_false]
        by_cases h4 : s.size < p + n
        · rw [show decide ((n : Int) > ((s.extract p s.size).size : Int)) = true by rw [hz]; simp; omega]
          refine ⟨_, _, rfl, ?_⟩
          simp only [ends, bodyR]
          rw [if_neg (by omega), if_neg h3, if_pos h4]
        · rw [show decide ((n : Int) > ((s.extract p s.size).size : Int)) = false by rw [hz]; simp; omega]
          simp only [cond_false]
          rw [sliceS_eq (by rw [hz]; omega), Option.bind_some]
          refine ⟨_, _, rfl, ?_⟩
          simp only [ends, bodyR]
          rw [if_neg (by omega), if_neg h3, if_neg h4]
          rfl

theorem k1_spec (s : ByteArray) (p n : Nat) (pi ni d e : Int) (hpi : pi = p) (hni : ni = n) (t : api_Tag) (hp : p ≤ s.size) (hs : s.size ≤ 1600) :
    ∃ x, ether_reader_frame.k1 none ni s pi d e t.Has t.Pri t.Dei t.Vid 0 ⟨#[]⟩ = some x ∧ ends x = bodyR s p ⟨d, e, t, 0, ⟨#[]⟩⟩ n := by
  obtain ⟨u, g, h, he⟩ := body_spec s p n pi ni hpi hni ⟨d, e, t, 0, ⟨#[]⟩⟩ hp hs ⟨s, pi⟩
  unfold ether_reader_frame.k1
  simp only
  rw [h, Option.bind_some]
  rcases u with _ | ⟨q, w⟩
  · exact ⟨_, rfl, he⟩
  · exact ⟨_, rfl, he⟩

def at2 (s : ByteArray) (o n : Nat) : Nat := beV (((L s).drop o).take n)
def tagOf (v : Nat) : api_Tag := ⟨true, ((v / 8192 : Nat) : Int), decide (v / 4096 % 2 = 1), ((v % 4096 : Nat) : Int)⟩

/-- Parse, in plain words. -/
def parseR (s : ByteArray) : api_Frame × Int :=
  if 1600 < s.size then (frame0, 41)
  else if s.size < 14 then (frame0, 40)
  else if at2 s 12 2 = 33024 then
    (if s.size < 18 then (frame0, 40) else bodyR s 18 ⟨(at2 s 0 6 : Nat), (at2 s 6 6 : Nat), tagOf (at2 s 14 2), 0, ⟨#[]⟩⟩ (at2 s 16 2))
  else bodyR s 14 ⟨(at2 s 0 6 : Nat), (at2 s 6 6 : Nat), tag0, 0, ⟨#[]⟩⟩ (at2 s 12 2)

theorem at2_lt (s : ByteArray) (o n : Nat) : at2 s o n < 256 ^ n := by
  refine Nat.lt_of_lt_of_le (beV_lt _) (Nat.pow_le_pow_right (by decide) ?_)
  rw [List.length_take]; omega

theorem tagOf_spec (v : Nat) (hv : v < 65536) : (⟨true, Int.fdiv (i64 (v : Int)) 8192, (bAnd .i64 (i64 (v : Int)) 4096) != 0, Int.tmod (i64 (v : Int)) 4096⟩ : api_Tag) = tagOf v := by
  rw [i64_id (by omega), bAnd_4096 (by omega)]
  unfold tagOf
  have e1 : Int.fdiv (v : Int) 8192 = ((v / 8192 : Nat) : Int) := by
    rw [Int.fdiv_eq_ediv_of_nonneg _ (by decide)]; omega
  have e2 : Int.tmod (v : Int) 4096 = ((v % 4096 : Nat) : Int) := by
    rw [Int.tmod_eq_emod_of_nonneg (by omega)]; omega
  have e3 : ((((v / 4096 % 2) * 4096 : Nat) : Int) != 0) = decide (v / 4096 % 2 = 1) := by
    rcases Nat.mod_two_eq_zero_or_one (v / 4096) with h | h <;> simp [h]
  rw [e1, e2, e3]

theorem parse_spec (s : ByteArray) : ether_Parse.f 2000 s = some (parseR s) := by
  by_cases hs : 1600 < s.size
  · unfold ether_Parse.f parseR
    rw [if_pos hs, show decide ((s.size : Int) > 1600) = true by simp; omega]
    rfl
  · have hs' : s.size ≤ 1600 := by omega
    suffices h : ∃ x, ether_reader_frame.f 2000 ⟨s, 0⟩ = some x ∧ ends x = parseR s by
      obtain ⟨x, h1, h2⟩ := h
      rw [parse_of s hs' x h1, h2]
    unfold ether_reader_frame.f
    by_cases h6 : s.size < 6
    · rw [rget_out s 0 6 0 6 rfl rfl _ (by omega) (by omega) hs', Option.bind_some]
      refine ⟨_, rfl, ?_⟩
      simp only [ends, parseR]
      rw [if_neg hs, if_pos (by omega)]
    · rw [rget_in s 0 6 0 6 rfl rfl _ (by omega) (by omega) hs', Option.bind_some]
      simp only
      by_cases h12 : s.size < 12
      · rw [rget_out s 6 6 _ 6 rfl rfl _ (by omega) (by omega) hs', Option.bind_some]
        refine ⟨_, rfl, ?_⟩
        simp only [ends, parseR]
        rw [if_neg hs, if_pos (by omega)]
      · rw [rget_in s 6 6 _ 6 rfl rfl _ (by omega) (by omega) hs', Option.bind_some]
        simp only
        by_cases h14 : s.size < 14
        · rw [rget_out s 12 2 _ 2 rfl rfl _ (by omega) (by omega) hs', Option.bind_some]
          refine ⟨_, rfl, ?_⟩
          simp only [ends, parseR]
          rw [if_neg hs, if_pos h14]
        · rw [rget_in s 12 2 _ 2 rfl rfl _ (by omega) (by omega) hs', Option.bind_some]
          simp only
          have h2 := at2_lt s 12 2
          have hi : i64 ((beV (((L s).drop 12).take 2) : Nat) : Int) = ((at2 s 12 2 : Nat) : Int) := i64_id (by unfold at2 at h2; omega)
          rw [hi]
          unfold parseR
          rw [if_neg hs, if_neg h14]
          by_cases h81 : at2 s 12 2 = 33024
          · rw [if_pos h81, h81, show (((33024 : Nat) : Int) == 33024) = true from rfl]
            simp only [cond_true]
            unfold ether_reader_tagged.f
            by_cases h16 : s.size < 16
            · rw [rget_out s 14 2 _ 2 rfl rfl _ (by omega) (by omega) hs', Option.bind_some]
              refine ⟨_, rfl, ?_⟩
              rw [if_pos (by omega)]
              rfl
            · rw [rget_in s 14 2 _ 2 rfl rfl _ (by omega) (by omega) hs', Option.bind_some]
              simp only
              by_cases h18 : s.size < 18
              · rw [rget_out s 16 2 _ 2 rfl rfl _ (by omega) (by omega) hs', Option.bind_some]
                refine ⟨_, rfl, ?_⟩
                rw [if_pos h18]
                rfl
              · rw [rget_in s 16 2 _ 2 rfl rfl _ (by omega) (by omega) hs', Option.bind_some, if_neg h18]
                simp only [Option.bind_some]
                have ht := tagOf_spec (at2 s 14 2) (at2_lt s 14 2)
                have e16 := at2_lt s 16 2
                rw [← ht]
                exact k1_spec s 18 (at2 s 16 2) _ _ _ _ rfl (i64_id (by omega)) (⟨true, Int.fdiv (i64 ((at2 s 14 2 : Nat) : Int)) 8192, (bAnd .i64 (i64 ((at2 s 14 2 : Nat) : Int)) 4096) != 0, Int.tmod (i64 ((at2 s 14 2 : Nat) : Int)) 4096⟩ : api_Tag) (by omega) hs'
          · rw [if_neg h81, show ((((at2 s 12 2 : Nat) : Int)) == 33024) = false by simp; omega]
            simp only [cond_false]
            exact k1_spec s 14 (at2 s 12 2) _ _ _ _ rfl rfl tag0 (by omega) hs'
end Go.Proofs.YtbodofjnfmjbpaaGreatDoor

namespace Go.Proofs.YtbodofjnfmjbpaaGreatDoor
open Go Eng
set_option linter.unusedVariables false
set_option linter.unusedSimpArgs false

theorem at2_app (s : ByteArray) (o n v : Nat) (pre post : List UInt8) (h : L s = pre ++ (beL n v ++ post)) (hp : pre.length = o) (hv : v < 256 ^ n) : at2 s o n = v := by
  unfold at2
  rw [h, ← hp, List.drop_left, List.take_append_of_le_length (by rw [beL_length]; exact Nat.le_refl _), List.take_of_length_le (by rw [beL_length]; exact Nat.le_refl _), beV_beL, Nat.mod_eq_of_lt hv]

theorem beL_at2 (s : ByteArray) (o n : Nat) (h : o + n ≤ s.size) : beL n (at2 s o n) = ((L s).drop o).take n := by
  have := beL_beV (((L s).drop o).take n)
  rw [List.length_take, List.length_drop, L_length, Nat.min_eq_left (by omega)] at this
  exact this
theorem drop_split (s : ByteArray) (o n : Nat) (h : o + n ≤ s.size) : (L s).drop o = beL n (at2 s o n) ++ (L s).drop (o + n) := by
  rw [beL_at2 s o n h, ← List.drop_drop, List.take_append_drop]

/-! ### What is built is parsed as it was -/
def more (g : api_Frame) (rest : List UInt8) : api_Frame := ⟨g.Dst, g.Src, g.Tag, g.Type_, if g.Type_ = 0 then g.Body else ⟨(L g.Body ++ rest).toArray⟩⟩

theorem L_drop (s : ByteArray) (p : Nat) : L (s.extract p s.size) = (L s).drop p := by
  rw [L_extract, List.take_of_length_le (by rw [List.length_drop, L_length]; exact Nat.le_refl _)]

theorem frame_eq {d e t t' : Int} {g : api_Tag} {b b' : ByteArray} (ht : t = t') (hb : L b = L b') : ((⟨d, e, g, t, b⟩ : api_Frame), (0 : Int)) = (⟨d, e, g, t', b'⟩, 0) := by
  subst ht
  rw [L_inj hb]

theorem bodyR_app (s : ByteArray) (p : Nat) (g : api_Frame) (hg : Good g) (rest : List UInt8) (h : (L s).drop p = L g.Body ++ rest) (hp : p ≤ s.size) : bodyR s p ⟨g.Dst, g.Src, g.Tag, 0, ⟨#[]⟩⟩ (typeN g) = (more g rest, 0) := by
  have hl := congrArg List.length h
  rw [List.length_drop, L_length, List.length_append, L_length] at hl
  unfold bodyR typeN more
  rcases hg.type with ht | ht
  · rw [if_pos ht.1, if_neg (by omega), if_neg (by omega), if_neg (by omega), if_pos ht.1]
    refine frame_eq ht.1.symm ?_
    show L (ByteArray.extract _ 0 g.Body.size) = _
    rw [L_extract, L_drop, h, List.drop_zero, Nat.sub_zero, ← L_length, List.take_left]
  · have hne : g.Type_ ≠ 0 := by omega
    simp only [if_neg hne]
    rw [if_neg (by omega), if_pos (by omega)]
    refine frame_eq ?_ ?_
    · show ((g.Type_.toNat : Nat) : Int) = g.Type_
      omega
    · show L (ByteArray.extract _ _ _) = L _
      rw [L_drop, h]
      rfl

theorem parse_build (g : api_Frame) (hg : Good g) (s : ByteArray) (rest : List UInt8) (h : L s = frameL g ++ rest) (hs : s.size ≤ 1600) : parseR s = (more g rest, 0) := by
  have hl := congrArg List.length h
  have hd := hg.dst
  have hsr := hg.src
  have e256 : (256 : Nat) ^ 6 = 281474976710656 := by decide
  have e2562 : (256 : Nat) ^ 2 = 65536 := by decide
  have hty : typeN g < 65536 := by
    unfold typeN
    rcases hg.type with ht | ht
    · rw [if_pos ht.1]; omega
    · rw [if_neg (by omega)]; omega
  have h0 : L s = [] ++ (beL 6 g.Dst.toNat ++ (beL 6 g.Src.toNat ++ (tagL g.Tag ++ (beL 2 (typeN g) ++ L g.Body)) ++ rest)) := by rw [h]; simp [frameL]
  have a0 := at2_app s 0 6 g.Dst.toNat [] _ h0 rfl (by omega)
  have h6 : L s = beL 6 g.Dst.toNat ++ (beL 6 g.Src.toNat ++ (tagL g.Tag ++ (beL 2 (typeN g) ++ L g.Body) ++ rest)) := by rw [h]; simp [frameL]
  have a6 := at2_app s 6 6 g.Src.toNat _ _ h6 (by rw [beL_length]) (by omega)
  rw [L_length, List.length_append] at hl
  unfold parseR
  rw [if_neg (by omega)]
  cases hh : g.Tag.Has
  · have hfl : (frameL g).length = 14 + g.Body.size := by simp [frameL, tagL, hh, beL_length, L_length]; omega
    have h12 : L s = (beL 6 g.Dst.toNat ++ beL 6 g.Src.toNat) ++ (beL 2 (typeN g) ++ (L g.Body ++ rest)) := by rw [h]; simp [frameL, tagL, hh]
    have a12 := at2_app s 12 2 (typeN g) _ _ h12 (by simp [beL_length]) (by omega)
    have h14 : (L s).drop 14 = L g.Body ++ rest := by
      rw [h12, ← List.append_assoc]
      rw [show 14 = (beL 6 g.Dst.toNat ++ beL 6 g.Src.toNat ++ beL 2 (typeN g)).length by simp [beL_length], List.drop_left]
    rw [if_neg (by omega), a12, if_neg (by
      unfold typeN
      rcases hg.type with ht | ht
      · rw [if_pos ht.1]; omega
      · rw [if_neg (by omega)]; omega), a0, a6]
    have e1 : ((g.Dst.toNat : Nat) : Int) = g.Dst := by omega
    have e2 : ((g.Src.toNat : Nat) : Int) = g.Src := by omega
    rw [e1, e2, ← hg.bare hh]
    exact bodyR_app s 14 g hg rest h14 (by omega)
  · have hfl : (frameL g).length = 18 + g.Body.size := by simp [frameL, tagL, hh, beL_length, L_length]; omega
    obtain ⟨_, hi⟩ := info_spec g.Tag (hg.tag hh)
    have hti := hg.tag hh
    have h12 : L s = (beL 6 g.Dst.toNat ++ beL 6 g.Src.toNat) ++ (beL 2 33024 ++ (beL 2 (infoN g.Tag) ++ (beL 2 (typeN g) ++ (L g.Body ++ rest)))) := by rw [h]; simp [frameL, tagL, hh]
    have a12 := at2_app s 12 2 33024 _ _ h12 (by simp [beL_length]) (by omega)
    have h14 : L s = (beL 6 g.Dst.toNat ++ beL 6 g.Src.toNat ++ beL 2 33024) ++ (beL 2 (infoN g.Tag) ++ (beL 2 (typeN g) ++ (L g.Body ++ rest))) := by rw [h]; simp [frameL, tagL, hh]
    have a14 := at2_app s 14 2 (infoN g.Tag) _ _ h14 (by simp [beL_length]) (by omega)
    have h16 : L s = (beL 6 g.Dst.toNat ++ beL 6 g.Src.toNat ++ beL 2 33024 ++ beL 2 (infoN g.Tag)) ++ (beL 2 (typeN g) ++ (L g.Body ++ rest)) := by rw [h]; simp [frameL, tagL, hh]
    have a16 := at2_app s 16 2 (typeN g) _ _ h16 (by simp [beL_length]) (by omega)
    have h18 : (L s).drop 18 = L g.Body ++ rest := by
      rw [h16, ← List.append_assoc]
      rw [show 18 = (beL 6 g.Dst.toNat ++ beL 6 g.Src.toNat ++ beL 2 33024 ++ beL 2 (infoN g.Tag) ++ beL 2 (typeN g)).length by simp [beL_length], List.drop_left]
    rw [if_neg (by omega), a12, if_pos rfl, if_neg (by omega), a14, a16, a0, a6]
    have e1 : ((g.Dst.toNat : Nat) : Int) = g.Dst := by omega
    have e2 : ((g.Src.toNat : Nat) : Int) = g.Src := by omega
    have e3 : tagOf (infoN g.Tag) = g.Tag := by
      obtain ⟨D, S, ⟨th, tp, td, tv⟩, ty, bd⟩ := g
      simp only at hh hti
      subst hh
      simp only [tagOf, infoN]
      cases td
      · simp only [Bool.false_eq_true, if_false]
        congr 1
        · omega
        · simp; omega
        · omega
      · simp only [if_true]
        congr 1
        · omega
        · simp; omega
        · omega
    rw [e1, e2, e3]
    exact bodyR_app s 18 g hg rest h18 (by omega)

/-! ### What is parsed may be, and, built, is the beginning of the bytes -/
theorem bodyR_back (s : ByteArray) (hs : s.size ≤ 1600) (p n : Nat) (d e : Nat) (t : api_Tag) (hd : d < 281474976710656) (he : e < 281474976710656) (hb : t.Has = false → t = tag0)
    (ht : t.Has = true → 0 ≤ t.Pri ∧ t.Pri < 8 ∧ 0 ≤ t.Vid ∧ t.Vid < 4096) (hp : p = 14 + (if t.Has then 4 else 0)) (hps : p ≤ s.size) (hn : n < 65536)
    (h : L s = beL 6 d ++ (beL 6 e ++ (tagL t ++ (beL 2 n ++ (L s).drop p)))) (g : api_Frame) (c : Int) (hr : bodyR s p ⟨d, e, t, 0, ⟨#[]⟩⟩ n = (g, c)) :
    (c ≠ 0 ∧ g = frame0) ∨ (c = 0 ∧ Good g ∧ ∃ rest, L s = frameL g ++ rest ∧ (g.Type_ ≠ 0 → rest = [])) := by
  unfold bodyR at hr
  split at hr
  · injection hr with h1 h2
    exact .inl ⟨by omega, h1.symm⟩
  · next h1 =>
    split at hr
    · next h2 =>
      injection hr with e1 e2
      subst e1; subst e2
      have hsz : (s.extract p s.size).size = s.size - p := by simp
      refine .inr ⟨rfl, ⟨⟨by simp, by simp only; omega⟩, ⟨by simp, by simp only; omega⟩, hb, ht, .inr ⟨by simp only; omega, by simp only; omega, by simp only; omega⟩, ?_⟩, [], ?_, fun _ => rfl⟩
      · simp only [hsz]; omega
      · have : typeN ⟨d, e, t, n, s.extract p s.size⟩ = n := by
          unfold typeN
          simp only
          rw [if_neg (by omega)]
          omega
        rw [List.append_nil]
        conv => lhs; rw [h]
        simp only [frameL, this, L_drop, Int.toNat_natCast]
    · next h2 =>
      split at hr
      · injection hr with e1 e2
        exact .inl ⟨by omega, e1.symm⟩
      · next h3 =>
        injection hr with e1 e2
        subst e1; subst e2
        have hsz : ((s.extract p s.size).extract 0 n).size = n := by simp; omega
        have hL : L ((s.extract p s.size).extract 0 n) = ((L s).drop p).take n := by rw [L_extract, L_drop]; simp
        refine .inr ⟨rfl, ⟨⟨by simp, by simp only; omega⟩, ⟨by simp, by simp only; omega⟩, hb, ht, .inl ⟨rfl, by simp only [hsz]; omega⟩, ?_⟩, ((L s).drop p).drop n, ?_, fun h => absurd rfl h⟩
        · simp only [hsz]; omega
        · have : typeN ⟨d, e, t, 0, (s.extract p s.size).extract 0 n⟩ = n := by
            unfold typeN
            simp only [if_true]
            exact hsz
          conv => lhs; rw [h]
          simp only [frameL, this, hL, Int.toNat_natCast, List.append_assoc, List.take_append_drop]

theorem parse_back (s : ByteArray) (g : api_Frame) (c : Int) (h : parseR s = (g, c)) :
    (c ≠ 0 ∧ g = frame0) ∨ (c = 0 ∧ s.size ≤ 1600 ∧ Good g ∧ ∃ rest, L s = frameL g ++ rest ∧ (g.Type_ ≠ 0 → rest = [])) := by
  have e256 : (256 : Nat) ^ 6 = 281474976710656 := by decide
  have e2562 : (256 : Nat) ^ 2 = 65536 := by decide
  unfold parseR at h
  split at h
  · injection h with h1 h2
    exact .inl ⟨by omega, h1.symm⟩
  · next hs =>
    split at h
    · injection h with h1 h2
      exact .inl ⟨by omega, h1.symm⟩
    · next h14 =>
      have d0 := drop_split s 0 6 (by omega)
      have d6 := drop_split s 6 6 (by omega)
      have d12 := drop_split s 12 2 (by omega)
      rw [List.drop_zero] at d0
      have l0 := at2_lt s 0 6
      have l6 := at2_lt s 6 6
      split at h
      · next h81 =>
        split at h
        · injection h with h1 h2
          exact .inl ⟨by omega, h1.symm⟩
        · next h18 =>
          have d14 := drop_split s 14 2 (by omega)
          have d16 := drop_split s 16 2 (by omega)
          have l14 := at2_lt s 14 2
          have l16 := at2_lt s 16 2
          have hi : infoN (tagOf (at2 s 14 2)) = at2 s 14 2 := by
            unfold infoN tagOf
            simp only [Int.toNat_natCast]
            by_cases hb : at2 s 14 2 / 4096 % 2 = 1
            · simp only [hb, decide_true, if_true]; omega
            · simp only [hb, decide_false, Bool.false_eq_true, if_false]; omega
          refine (bodyR_back s (by omega) 18 (at2 s 16 2) (at2 s 0 6) (at2 s 6 6) (tagOf (at2 s 14 2)) (by omega) (by omega) (fun h => by cases h) (fun _ => by simp only [tagOf]; omega) rfl (by omega) (by omega) ?_ g c h).imp id (fun ⟨a, b⟩ => ⟨a, by omega, b⟩)
          have htl : tagL (tagOf (at2 s 14 2)) = beL 2 33024 ++ beL 2 (at2 s 14 2) := by
            unfold tagL
            rw [hi]
            rfl
          rw [htl]
          conv => lhs; rw [d0, d6, d12, d14, d16, h81]
          simp only [List.append_assoc]
      · next h81 =>
        have l12 := at2_lt s 12 2
        refine (bodyR_back s (by omega) 14 (at2 s 12 2) (at2 s 0 6) (at2 s 6 6) tag0 (by omega) (by omega) (fun _ => rfl) (fun h => by cases h) rfl (by omega) (by omega) ?_ g c h).imp id (fun ⟨a, b⟩ => ⟨a, by omega, b⟩)
        conv => lhs; rw [d0, d6, d12]
        rfl
end Go.Proofs.YtbodofjnfmjbpaaGreatDoor

namespace Go.Proofs.YtbodofjnfmjbpaaGreatDoor
open Go Eng
set_option linter.unusedVariables false
set_option linter.unusedSimpArgs false


theorem cut_spec (s : ByteArray) (m : Nat) : ∃ t, sliceS s 0 (imin (s.size : Int) m) = some t ∧ t.size ≤ m := by
  refine ⟨s.extract 0 (imin (s.size : Int) m).toNat, sliceS_eq ?_, ?_⟩
  · unfold imin; split <;> omega
  · have : (s.extract 0 (imin (s.size : Int) m).toNat).size = min (imin (s.size : Int) m).toNat s.size - 0 := by simp
    rw [this]
    unfold imin; split <;> omega

theorem more_nil (g : api_Frame) : more g [] = g := by
  unfold more
  split
  · rfl
  · have : (⟨(L g.Body ++ []).toArray⟩ : ByteArray) = g.Body := L_inj (by rw [L_mk, List.append_nil])
    rw [this]

theorem same_frame (g : api_Frame) : ((g.Dst == g.Dst) && ((g.Src == g.Src) && (((g.Tag.Has == g.Tag.Has) && ((g.Tag.Pri == g.Tag.Pri) && ((g.Tag.Dei == g.Tag.Dei) && ((g.Tag.Vid == g.Tag.Vid) && true)))) && ((g.Type_ == g.Type_) && ((g.Body == g.Body) && true))))) = true := by
  simp [bytes_refl]

theorem frameL_size (g : api_Frame) (rest : List UInt8) (s : ByteArray) (h : L s = frameL g ++ rest) : (⟨(frameL g).toArray⟩ : ByteArray).size ≤ s.size ∧ L (s.extract 0 (⟨(frameL g).toArray⟩ : ByteArray).size) = frameL g := by
  have hz : (⟨(frameL g).toArray⟩ : ByteArray).size = (frameL g).length := by simp [ByteArray.size]
  have hl := congrArg List.length h
  rw [L_length, List.length_append] at hl
  refine ⟨by omega, ?_⟩
  rw [L_extract, hz, h]
  simp

theorem frameL_len (g : api_Frame) : (frameL g).length = 14 + g.Body.size + (if g.Tag.Has then 4 else 0) := by
  simp only [frameL, List.length_append, beL_length, L_length, tagL]
  split <;> simp [beL_length] <;> omega
theorem mk_size (l : List UInt8) : (⟨l.toArray⟩ : ByteArray).size = l.length := by simp [ByteArray.size]
end Go.Proofs.YtbodofjnfmjbpaaGreatDoor

namespace Go.Proofs.YtbodofjnfmjbpaaGreatDoor
open Go Eng
set_option linter.unusedVariables false
set_option linter.unusedSimpArgs false

/-! ### The folded sum -/
def foldN (n : Nat) : Nat := if n = 0 then 0 else (n - 1) % 65535 + 1
theorem foldN_le (n : Nat) : foldN n ≤ 65535 := by unfold foldN; split <;> omega
theorem foldN_small {n : Nat} (h : n ≤ 65535) : foldN n = n := by unfold foldN; split <;> omega
theorem foldN_add (a b : Nat) : foldN (foldN a + b) = foldN (a + b) := by
  unfold foldN
  by_cases h : a = 0
  · simp [h]
  · rw [if_neg h, if_neg (by omega), if_neg (by omega)]
    omega
theorem foldN_step {n : Nat} (h : 65535 < n) : foldN (n % 65536 + n / 65536) = foldN n := by
  unfold foldN
  rw [if_neg (by omega), if_neg (by omega)]
  omega
theorem foldN_right (w : Nat) (h : 0 < w) : foldN (w + (65535 - foldN w)) = 65535 := by
  have h1 : foldN w = (w - 1) % 65535 + 1 := by unfold foldN; rw [if_neg (by omega)]
  rw [h1]
  unfold foldN
  rw [if_neg (by omega)]
  omega

theorem bAnd_65535 {n : Nat} (h : n < 2 ^ 63) : bAnd .i64 n 65535 = ((n % 65536 : Nat) : Int) := by
  have h1 := bAnd_i64 (x := n) (y := 65535) h (by decide)
  rw [show ((65535 : Nat) : Int) = 65535 from rfl] at h1
  rw [h1]
  have := and_mask 16 n
  rw [show (2 : Nat) ^ 16 - 1 = 65535 from rfl, show (2 : Nat) ^ 16 = 65536 from rfl] at this
  rw [this]

theorem fold_end {n : Nat} (h : n ≤ 65535) (fuel : Nat) : csum_fold.l1 (fuel + 1) (n : Int) = some (n : Int) := by
  simp only [csum_fold.l1]
  rw [show decide ((n : Int) > 65535) = false by simp; omega, cond_false]
theorem fold_one {n : Nat} (h : 65535 < n) (h2 : n < 2 ^ 62) (fuel : Nat) : csum_fold.l1 (fuel + 1) (n : Int) = csum_fold.l1 fuel ((n % 65536 + n / 65536 : Nat) : Int) := by
  simp only [csum_fold.l1]
  rw [show decide ((n : Int) > 65535) = true by simp; omega, cond_true, bAnd_65535 (by omega), Int.fdiv_eq_ediv_of_nonneg _ (by decide)]
  congr 1
  have : (((n % 65536 : Nat) : Int) + (n : Int) / 65536) = ((n % 65536 + n / 65536 : Nat) : Int) := by omega
  rw [this, i64_id (by omega)]
theorem fold_spec (n : Nat) (h : n ≤ 1048576) : csum_fold.f 2000 (n : Int) = some ((foldN n : Nat) : Int) := by
  unfold csum_fold.f
  by_cases h1 : n ≤ 65535
  · rw [fold_end h1 1999, foldN_small h1]
  · rw [fold_one (by omega) (by omega) 1999, ← foldN_step (by omega : 65535 < n)]
    by_cases h2 : n % 65536 + n / 65536 ≤ 65535
    · rw [fold_end h2 1998, foldN_small h2]
    · rw [fold_one (by omega) (by omega) 1998, ← foldN_step (by omega : 65535 < n % 65536 + n / 65536), fold_end (by omega) 1997, foldN_small (by omega)]

/-! ### Words -/
def wsum : List UInt8 → Nat
  | a :: b :: r => a.toNat * 256 + b.toNat + wsum r
  | [a] => a.toNat * 256
  | [] => 0

theorem wsum_append : ∀ (n : Nat) (a b : List UInt8), a.length = 2 * n → wsum (a ++ b) = wsum a + wsum b
  | 0, [], b, _ => by simp [wsum]
  | 0, _ :: _, b, h => by simp at h
  | n + 1, [], b, h => by simp at h
  | n + 1, [x], b, h => by simp at h; omega
  | n + 1, x :: y :: r, b, h => by
    have := wsum_append n r b (by simp at h; omega)
    simp only [List.cons_append, wsum, this]
    omega
theorem wsum_beL2 (c : Nat) (h : c < 65536) : wsum (beL 2 c) = c := by
  simp only [beL, wsum, UInt8.toNat_ofNat']
  omega

theorem idxS_get (s : ByteArray) (i : Nat) (x : UInt8) (h : (L s)[i]? = some x) : idxS s (i : Int) = some ((x.toNat : Nat) : Int) := by
  unfold idxS
  rw [if_pos (by omega)]
  have : s.data[(i : Int).toNat]? = some x := by rw [← Array.getElem?_toList]; exact h
  rw [this]; rfl

theorem total_loop (x : ByteArray) (hx : x.size ≤ 3000) : ∀ (n : Nat) (r pre : List UInt8) (a fuel : Nat), L x = pre ++ r → r.length = 2 * n → n < fuel →
    csum_total.l1 x 2000 fuel ((foldN a : Nat) : Int) (pre.length : Int) = some ((foldN (a + wsum r) : Nat) : Int)
  | n, r, pre, a, 0, _, _, h => by omega
  | 0, [], pre, a, fuel + 1, e, hr, h => by
    have hs : x.size = pre.length := by rw [← L_length, e]; simp
    simp only [csum_total.l1]
    rw [hs, show decide ((pre.length : Int) < (pre.length : Int)) = false by simp]
    simp [wsum]
  | 0, _ :: _, pre, a, fuel + 1, e, hr, h => by simp at hr
  | n + 1, [], pre, a, fuel + 1, e, hr, h => by simp at hr
  | n + 1, [y], pre, a, fuel + 1, e, hr, h => by simp at hr; omega
  | n + 1, y :: z :: r, pre, a, fuel + 1, e, hr, h => by
    have hs : x.size = pre.length + (r.length + 2) := by rw [← L_length, e]; simp
    have h0 : (L x)[pre.length]? = some y := by rw [e]; simp
    have h1 : (L x)[pre.length + 1]? = some z := by rw [e, List.getElem?_append_right (by omega)]; simp
    have hy := y.toNat_lt
    have hz := z.toNat_lt
    have hf := foldN_le a
    simp only [csum_total.l1]
    rw [show decide ((pre.length : Int) < (x.size : Int)) = true by simp; omega, cond_true, idxS_get x _ _ h0, Option.bind_some, i64_id (n := (pre.length : Int) + 1) (by omega), show ((pre.length : Int) + 1) = ((pre.length + 1 : Nat) : Int) by omega, idxS_get x _ _ h1, Option.bind_some]
    rw [i64_id (n := ((y.toNat : Nat) : Int)) (by omega), i64_id (n := ((z.toNat : Nat) : Int)) (by omega), i64_id (n := ((y.toNat : Nat) : Int) * 256) (by omega), i64_id (n := ((foldN a : Nat) : Int) + ((y.toNat : Nat) : Int) * 256) (by omega), i64_id (n := ((foldN a : Nat) : Int) + ((y.toNat : Nat) : Int) * 256 + ((z.toNat : Nat) : Int)) (by omega)]
    have e2 : ((foldN a : Nat) : Int) + ((y.toNat : Nat) : Int) * 256 + ((z.toNat : Nat) : Int) = ((foldN a + (y.toNat * 256 + z.toNat) : Nat) : Int) := by omega
    rw [e2, fold_spec _ (by omega), Option.bind_some, foldN_add, i64_id (n := (pre.length : Int) + 2) (by omega)]
    have := total_loop x hx n r (pre ++ [y, z]) (a + (y.toNat * 256 + z.toNat)) fuel (by rw [e]; simp) (by simp at hr; omega) (by omega)
    rw [List.length_append] at this
    have e3 : ((pre.length : Int) + 2) = ((pre.length + [y, z].length : Nat) : Int) := by simp
    rw [e3, this]
    simp only [wsum]
    congr 3
    omega

theorem join_flat : ∀ (xs : List (List UInt8)), Lib.join xs [] = xs.flatten
  | [] => rfl
  | [a] => by simp [Lib.join, List.intercalate]
  | a :: b :: r => by
    have := join_flat (b :: r)
    simp only [Lib.join, List.intercalate] at this ⊢
    simp only [List.intersperse, List.flatten_cons, List.nil_append]
    rw [this]; rfl

theorem join_spec (xs : List ByteArray) (h1 : xs.length ≤ 100) (h2 : (xs.map L).flatten.length ≤ 140737488355328) : strings_Join.f xs (⟨#[]⟩ : ByteArray) = some ⟨((xs.map L).flatten).toArray⟩ := by
  have e : Lib.join (xs.map (·.data.toList)) (⟨#[]⟩ : ByteArray).data.toList = (xs.map L).flatten := join_flat _
  unfold strings_Join.f
  rw [e, if_pos ⟨by omega, h2⟩]

/-- The sum of parts of an even number of bytes. -/
theorem total_even (xs : List ByteArray) (n : Nat) (h1 : xs.length ≤ 100) (hn : (xs.map L).flatten.length = 2 * n) (h2 : n ≤ 1500) : csum_total.f 2000 xs = some ((foldN (wsum (xs.map L).flatten) : Nat) : Int) := by
  unfold csum_total.f
  rw [join_spec xs h1 (by omega), Option.bind_some]
  have hs : (⟨((xs.map L).flatten).toArray⟩ : ByteArray).size = 2 * n := by rw [mk_size, hn]
  rw [hs]
  have hm : (Int.tmod ((2 * n : Nat) : Int) 2 == 1) = false := by
    rw [show (2 : Int) = ((2 : Nat) : Int) from rfl, ← Int.ofNat_tmod]
    simp
  rw [hm, cond_false]
  unfold csum_total.k2
  have := total_loop ⟨((xs.map L).flatten).toArray⟩ (by omega) n (xs.map L).flatten [] 0 2000 rfl hn (by omega)
  rw [Nat.zero_add] at this
  exact this
theorem of_even (xs : List ByteArray) (n : Nat) (h1 : xs.length ≤ 100) (hn : (xs.map L).flatten.length = 2 * n) (h2 : n ≤ 1500) : csum_Of.f 2000 xs = some ((65535 - foldN (wsum (xs.map L).flatten) : Nat) : Int) := by
  unfold csum_Of.f
  have := foldN_le (wsum (xs.map L).flatten)
  rw [total_even xs n h1 hn h2, Option.bind_some, i64_id (by omega)]
  congr 1
  omega
theorem right_even (xs : List ByteArray) (n : Nat) (h1 : xs.length ≤ 100) (hn : (xs.map L).flatten.length = 2 * n) (h2 : n ≤ 1500) : csum_Right.f 2000 xs = some (foldN (wsum (xs.map L).flatten) == 65535) := by
  unfold csum_Right.f
  rw [total_even xs n h1 hn h2, Option.bind_some]
  congr 1
  rw [Bool.eq_iff_iff]
  simp only [beq_iff_eq]
  omega
end Go.Proofs.YtbodofjnfmjbpaaGreatDoor

namespace Go.Proofs.YtbodofjnfmjbpaaGreatDoor
open Go Eng
set_option linter.unusedVariables false
set_option linter.unusedSimpArgs false

theorem cat2 {x y : ByteArray} {lx ly : List UInt8} (hx : L x = lx) (hy : L y = ly) (h : lx.length + ly.length ≤ 100000) : ∃ z, catS x y = some z ∧ L z = lx ++ ly := by
  subst hx; subst hy
  rw [L_length, L_length] at h
  exact ⟨x ++ y, catS_eq (by omega), L_append x y⟩

theorem put2 (v : Int) (n : Nat) (h : v = n) (hn : n < 65536) : octets_Put.f 2000 (u64 v) 2 = some (be 2 n, 0) := by
  subst h
  rw [u64_id (by omega)]
  exact put_spec n 2 (by omega) (by rw [show (256 : Nat) ^ 2 = 65536 from rfl]; exact hn) (by omega)
theorem put4 (v : Int) (n : Nat) (h : v = n) (hn : n < 4294967296) : octets_Put.f 2000 (u64 v) 4 = some (be 4 n, 0) := by
  subst h
  rw [u64_id (by omega)]
  exact put_spec n 4 (by omega) (by rw [show (256 : Nat) ^ 4 = 4294967296 from rfl]; exact hn) (by omega)
theorem uword (v : Int) (n : Nat) (h : v = n) (hn : n < 65536) : udp_word.f 2000 v = some (be 2 n) := by
  unfold udp_word.f
  rw [put2 v n h hn]; rfl
theorem iword (v : Int) (n : Nat) (h : v = n) (hn : n < 65536) : inet_word.f 2000 v = some (be 2 n) := by
  unfold inet_word.f
  rw [put2 v n h hn]; rfl

/-! ### The frame's bytes behind a head -/
def vxL (vni : Nat) (b : List UInt8) : List UInt8 := [8, 0, 0, 0] ++ (beL 3 vni ++ ([0] ++ b))
theorem vbuild_good (v : Int) (n : Nat) (h : v = n) (hn : n ≤ 16777215) (b : ByteArray) (hb : b.size ≤ 10000) : ∃ z, vxlan_Build.f 2000 v b = some (z, 0) ∧ L z = vxL n (L b) := by
  subst h
  have hb' : (L b).length ≤ 10000 := by rw [L_length]; exact hb
  unfold vxlan_Build.f
  rw [show ((decide ((n : Int) < 0)) || (decide ((n : Int) > 16777215))) = false by simp; omega, cond_false, u64_id (by omega)]
  have hp : octets_Put.f 2000 (n : Int) 3 = some (be 3 n, 0) := put_spec n 3 (by omega) (by rw [show (256 : Nat) ^ 3 = 16777216 from rfl]; omega) (by omega)
  rw [hp, Option.bind_some]
  simp only
  obtain ⟨z1, e1, l1⟩ := cat2 (x := ByteArray.push (ByteArray.push (ByteArray.push (ByteArray.push ByteArray.empty (UInt8.ofNat (Int.toNat 8))) (UInt8.ofNat (Int.toNat 0))) (UInt8.ofNat (Int.toNat 0))) (UInt8.ofNat (Int.toNat 0))) (y := be 3 n) (lx := [8, 0, 0, 0]) rfl (L_be _ _) (by rw [beL_length]; decide)
  rw [e1, Option.bind_some]
  obtain ⟨z2, e2, l2⟩ := cat2 (x := z1) (y := (⟨#[0]⟩ : ByteArray)) l1 (ly := [0]) rfl (by simp [beL_length])
  rw [e2, Option.bind_some]
  obtain ⟨z3, e3, l3⟩ := cat2 (x := z2) (y := b) l2 rfl (by simp [beL_length]; omega)
  rw [e3, Option.bind_some]
  exact ⟨z3, rfl, by rw [l3]; simp [vxL]⟩

theorem u32_range (n : Int) : 0 ≤ u32 n ∧ u32 n < 4294967296 := by
  simp [u32, IntKind.wrap, IntKind.bits, IntKind.signed]; omega
theorem u32_id {n : Int} (h : 0 ≤ n ∧ n < 4294967296) : u32 n = n := by
  simp [u32, IntKind.wrap, IntKind.bits, IntKind.signed]; omega

theorem hash_loop (s : ByteArray) (hs : s.size ≤ 100) : ∀ (j i fuel : Nat) (x : Int), i + j = s.size → j < fuel → (0 ≤ x ∧ x < 4294967296) → ∃ h, vxlan_Hash.l1 s fuel x (i : Int) = some h ∧ 0 ≤ h ∧ h < 4294967296
  | j, i, 0, x, _, h, _ => by omega
  | 0, i, fuel + 1, x, hij, h, hx => by
    simp only [vxlan_Hash.l1]
    rw [show decide ((i : Int) < (s.size : Int)) = false by simp; omega, cond_false]
    exact ⟨x, rfl, hx⟩
  | j + 1, i, fuel + 1, x, hij, h, hx => by
    simp only [vxlan_Hash.l1]
    have hlt : i < (L s).length := by rw [L_length]; omega
    rw [show decide ((i : Int) < (s.size : Int)) = true by simp; omega, cond_true, idxS_get s i _ (List.getElem?_eq_getElem hlt), Option.bind_some, i64_id (n := (i : Int) + 1) (by omega), show ((i : Int) + 1) = ((i + 1 : Nat) : Int) by omega]
    exact hash_loop s hs j (i + 1) fuel _ (by omega) (by omega) (u32_range _)

theorem port_spec (b : ByteArray) : ∃ p : Nat, vxlan_Port.f 2000 b = some (p : Int) ∧ 49152 ≤ p ∧ p < 65536 := by
  unfold vxlan_Port.f
  obtain ⟨t, e, z⟩ := cut_spec b 14
  rw [show ((14 : Nat) : Int) = 14 from rfl] at e
  rw [e, Option.bind_some]
  obtain ⟨h, h1, h2, h3⟩ := hash_loop t (by omega) t.size 0 2000 2166136261 (by omega) (by omega) (by decide)
  have h1' : vxlan_Hash.f 2000 t = some h := h1
  rw [h1', Option.bind_some]
  obtain ⟨n, rfl⟩ : ∃ n : Nat, h = n := ⟨h.toNat, by omega⟩
  have hm : Int.tmod (n : Int) 16384 = ((n % 16384 : Nat) : Int) := by rw [show (16384 : Int) = ((16384 : Nat) : Int) from rfl, ← Int.ofNat_tmod]
  rw [hm, i64_id (n := ((n % 16384 : Nat) : Int)) (by omega), i64_id (by omega)]
  exact ⟨49152 + n % 16384, by congr 1, by omega, by omega⟩

/-! ### A datagram without a sum -/
def udpL (p : Nat) (body : List UInt8) : List UInt8 := beL 2 p ++ (beL 2 4789 ++ (beL 2 (8 + body.length) ++ (beL 2 0 ++ body)))
theorem ubuild_good (src dst : Int) (p : Nat) (hp : p < 65536) (body : ByteArray) (hb : body.size ≤ 10000) : ∃ z, udp_Build.f 2000 src dst ⟨p, 4789, true, body⟩ = some (z, 0) ∧ L z = udpL p (L body) := by
  have hb' : (L body).length = body.size := L_length body
  unfold udp_Build.f
  have hc : udp_Check.f ⟨p, 4789, true, body⟩ = some 0 := by
    have a1 : udp_Check_1.f (p : Int) = some true := by
      unfold udp_Check_1.f
      rw [decide_eq_true (by omega : (p : Int) ≥ 0), decide_eq_true (by omega : (p : Int) < 65536)]; rfl
    have a2 : udp_Check_1.f 4789 = some true := by kernel_rfl
    unfold udp_Check.f
    simp only
    rw [a1, Option.bind_some, cond_true, a2, Option.bind_some]
    unfold udp_Check.k1
    simp only
    rw [decide_eq_true (by omega : (body.size : Int) ≤ 65507)]
    rfl
  rw [hc, Option.bind_some, show ((0 : Int) != 0) = false from rfl, cond_false, uword (p : Int) p rfl hp, Option.bind_some, uword 4789 4789 (by omega) (by omega), Option.bind_some]
  obtain ⟨z1, e1, l1⟩ := cat2 (L_be 2 p) (L_be 2 4789) (by simp [beL_length])
  rw [e1, Option.bind_some]
  simp only
  rw [uword (i64 (8 + (body.size : Int))) (8 + body.size) (by rw [i64_id (by omega)]; omega) (by omega), Option.bind_some]
  obtain ⟨z2, e2, l2⟩ := cat2 l1 (L_be 2 (8 + body.size)) (by simp [beL_length])
  rw [e2, Option.bind_some]
  simp only [Bool.not_true, cond_false]
  unfold udp_Build.k1
  rw [uword 0 0 (by omega) (by omega), Option.bind_some]
  obtain ⟨z3, e3, l3⟩ := cat2 l2 (L_be 2 0) (by simp [beL_length])
  rw [e3, Option.bind_some]
  obtain ⟨z4, e4, l4⟩ := cat2 (y := body) l3 rfl (by simp [beL_length]; omega)
  rw [e4, Option.bind_some]
  exact ⟨z4, rfl, by rw [l4]; simp [udpL, hb']⟩

/-! ### A packet -/
def h1L (n id : Nat) : List UInt8 := [69, 0] ++ (beL 2 (20 + n) ++ (beL 2 id ++ (beL 2 16384 ++ [64, 17])))
def abL (src dst : Nat) : List UInt8 := beL 4 src ++ beL 4 dst
def sumN (n id src dst : Nat) : Nat := 65535 - foldN (wsum (h1L n id) + wsum (abL src dst))
def ipL (id src dst : Nat) (body : List UInt8) : List UInt8 := h1L body.length id ++ (beL 2 (sumN body.length id src dst) ++ (abL src dst ++ body))
theorem h1L_length (n id : Nat) : (h1L n id).length = 10 := by simp [h1L, beL_length]
theorem abL_length (s d : Nat) : (abL s d).length = 8 := by simp [abL, beL_length]
theorem sumN_lt (n id src dst : Nat) : sumN n id src dst < 65536 := by unfold sumN; omega
theorem ipL_length (id src dst : Nat) (b : List UInt8) : (ipL id src dst b).length = 20 + b.length := by simp [ipL, h1L_length, abL_length, beL_length]; omega

theorem ib1 : inet_below.f 0 256 = some true := by kernel_rfl
theorem ib2 : inet_below.f 64 256 = some true := by kernel_rfl
theorem ib3 : inet_below.f 17 256 = some true := by kernel_rfl
theorem ib5 : inet_below.f 0 8192 = some true := by kernel_rfl
theorem ib4 (id : Nat) (hid : id < 65536) : inet_below.f (id : Int) 65536 = some true := by
  unfold inet_below.f
  rw [decide_eq_true (by omega : (id : Int) ≥ 0), decide_eq_true (by omega : (id : Int) < 65536)]; rfl
theorem icheck (a : api_Ip) (h1 : inet_below.f a.Tos 256 = some true) (h2 : inet_below.f a.Ttl 256 = some true) (h3 : inet_below.f a.Proto 256 = some true) (h4 : inet_below.f a.Id 65536 = some true) (h5 : inet_below.f a.Off 8192 = some true) (h6 : a.Body.size ≤ 10000) : inet_Check.f a = some 0 := by
  unfold inet_Check.f
  rw [h1, Option.bind_some, cond_true, h2, Option.bind_some]
  unfold inet_Check.k4
  rw [cond_true, h3, Option.bind_some]
  unfold inet_Check.k3
  rw [cond_true, h4, Option.bind_some]
  unfold inet_Check.k2
  rw [cond_true, h5, Option.bind_some]
  unfold inet_Check.k1
  rw [decide_eq_true (by omega : (a.Body.size : Int) ≤ 65515)]
  rfl
theorem ibuild_good (id src dst : Nat) (hid : id < 65536) (hs : src < 4294967296) (hd : dst < 4294967296) (body : ByteArray) (hb : body.size ≤ 10000) :
    ∃ z, inet_Build.f 2000 ⟨0, id, true, false, 0, 64, 17, src, dst, body⟩ = some (z, 0) ∧ L z = ipL id src dst (L body) := by
  have hb' : (L body).length = body.size := L_length body
  have hc : inet_Check.f ⟨0, id, true, false, 0, 64, 17, src, dst, body⟩ = some 0 := icheck _ ib1 ib2 ib3 (ib4 id hid) ib5 (by simp only; omega)
  unfold inet_Build.f
  rw [hc, Option.bind_some, show ((0 : Int) != 0) = false from rfl, cond_false]
  simp only
  rw [put4 _ src rfl hs, Option.bind_some]
  simp only
  rw [put4 _ dst rfl hd, Option.bind_some]
  simp only
  rw [iword _ (20 + body.size) (by rw [i64_id (by omega)]; omega) (by omega), Option.bind_some]
  obtain ⟨z1, e1, l1⟩ := cat2 (x := ByteArray.push (ByteArray.push ByteArray.empty (UInt8.ofNat (Int.toNat 69))) (UInt8.ofNat (Int.toNat (u8 0)))) (lx := [69, 0]) rfl (L_be 2 (20 + body.size)) (by simp [beL_length])
  rw [e1, Option.bind_some, iword _ id rfl hid, Option.bind_some]
  obtain ⟨z2, e2, l2⟩ := cat2 l1 (L_be 2 id) (by simp [beL_length])
  rw [e2, Option.bind_some]
  have hfl : inet_flags.f ⟨0, id, true, false, 0, 64, 17, src, dst, body⟩ = some 16384 := by kernel_rfl
  rw [hfl, Option.bind_some, iword 16384 16384 (by omega) (by omega), Option.bind_some]
  obtain ⟨z3, e3, l3⟩ := cat2 l2 (L_be 2 16384) (by simp [beL_length])
  rw [e3, Option.bind_some]
  obtain ⟨z4, e4, l4⟩ := cat2 l3 (y := ByteArray.push (ByteArray.push ByteArray.empty (UInt8.ofNat (Int.toNat (u8 64)))) (UInt8.ofNat (Int.toNat (u8 17)))) (ly := [64, 17]) rfl (by simp [beL_length])
  rw [e4, Option.bind_some]
  obtain ⟨z5, e5, l5⟩ := cat2 (L_be 4 src) (L_be 4 dst) (by simp [beL_length])
  rw [e5, Option.bind_some, iword 0 0 (by omega) (by omega), Option.bind_some]
  have l4' : L z4 = h1L body.size id := by rw [l4]; simp [h1L]
  have l5' : L z5 = abL src dst := l5
  have hflat : (([z4, be 2 0, z5] : List ByteArray).map L).flatten = h1L body.size id ++ (beL 2 0 ++ abL src dst) := by simp [l4', l5', L_be]
  have hof := of_even [z4, be 2 0, z5] 10 (by simp) (by rw [hflat]; simp [h1L_length, abL_length, beL_length]) (by omega)
  have hw : wsum (h1L body.size id ++ (beL 2 0 ++ abL src dst)) = wsum (h1L body.size id) + wsum (abL src dst) := by
    rw [wsum_append 5 _ _ (by rw [h1L_length]), wsum_append 1 _ _ (by rw [beL_length]), wsum_beL2 0 (by omega), Nat.zero_add]
  rw [hflat, hw] at hof
  have hsum : (65535 - foldN (wsum (h1L body.size id) + wsum (abL src dst))) = sumN body.size id src dst := rfl
  rw [hof, Option.bind_some, hsum, iword _ (sumN body.size id src dst) rfl (sumN_lt _ _ _ _), Option.bind_some]
  obtain ⟨z6, e6, l6⟩ := cat2 l4' (L_be 2 (sumN body.size id src dst)) (by simp [beL_length, h1L_length])
  rw [e6, Option.bind_some]
  obtain ⟨z7, e7, l7⟩ := cat2 l6 l5' (by simp [beL_length, h1L_length, abL_length])
  rw [e7, Option.bind_some]
  obtain ⟨z8, e8, l8⟩ := cat2 (y := body) l7 rfl (by simp [beL_length, h1L_length, abL_length]; omega)
  rw [e8, Option.bind_some]
  exact ⟨z8, rfl, by rw [l8]; simp [ipL, hb']⟩

/-! ### Make, and Wrap -/
theorem id_range (a : Int) : ∃ id : Nat, bAnd .i64 a 65535 = (id : Int) ∧ id < 65536 := by
  have h : (BitVec.ofInt 64 a).toNat &&& 65535 ≤ 65535 := Nat.and_le_right
  refine ⟨(BitVec.ofInt 64 a).toNat &&& 65535, ?_, by omega⟩
  show IntKind.i64.wrap ((BitVec.ofInt 64 a &&& BitVec.ofInt 64 65535).toNat : Int) = _
  rw [BitVec.toNat_and]
  have e : (BitVec.ofInt 64 65535).toNat = 65535 := by decide
  rw [e]
  exact i64_id (by omega)

def bare (f : api_Frame) : api_Frame := ⟨f.Dst, f.Src, tag0, f.Type_, f.Body⟩
/-- The bytes of a packet that takes a frame, with the port p. -/
def pktL (src dst id p vni : Nat) (f : api_Frame) : List UInt8 := ipL id src dst (udpL p (vxL vni (frameL (bare f))))
theorem vxL_length (n : Nat) (b : List UInt8) : (vxL n b).length = 8 + b.length := by simp [vxL, beL_length]; omega
theorem udpL_length (n : Nat) (b : List UInt8) : (udpL n b).length = 8 + b.length := by simp [udpL, beL_length]; omega

/-- A frame that may be, without its tag, is wrapped, wherever so many bytes may be: from one port. -/
theorem wrap_good (f : api_Frame) (hg : Good (bare f)) : ∃ p : Nat, (49152 ≤ p ∧ p < 65536) ∧ ∀ (src dst vni : Nat) (vid : Int) (ps : List Int) (id most : Int), src < 4294967296 → dst < 4294967296 → vni ≤ 16777215 →
    ∃ (idN : Nat) (z : ByteArray), idN < 65536 ∧ L z = pktL src dst idN p vni f ∧ tunnel_Wrap.f 2000 src dst vid vni ps f id most = some (if (z.size : Int) > most then (⟨#[]⟩, 201) else (z, 0)) := by
  obtain ⟨p, hp, hp1, hp2⟩ := port_spec ⟨(frameL (bare f)).toArray⟩
  refine ⟨p, ⟨hp1, hp2⟩, fun src dst vni vid ps id most hs hd hv => ?_⟩
  obtain ⟨idN, hid, hidl⟩ := id_range id
  have hfl := frameL_len (bare f)
  have hsz := hg.size
  simp only [bare, tag0, Bool.false_eq_true, if_false] at hfl hsz
  have hz : (⟨(frameL (bare f)).toArray⟩ : ByteArray).size = 14 + f.Body.size := by rw [mk_size]; simp only [bare, tag0]; exact hfl
  obtain ⟨v, ev, lv⟩ := vbuild_good (vni : Int) vni rfl hv ⟨(frameL (bare f)).toArray⟩ (by omega)
  have lv' : L v = vxL vni (frameL (bare f)) := lv
  have hvz : v.size = 22 + f.Body.size := by
    rw [← L_length, lv', vxL_length]
    have := mk_size (frameL (bare f))
    omega
  obtain ⟨u, eu, lu⟩ := ubuild_good (src : Int) (dst : Int) p hp2 v (by omega)
  have huz : u.size = 30 + f.Body.size := by rw [← L_length, lu, udpL_length, L_length]; omega
  obtain ⟨z, ez, lz⟩ := ibuild_good idN src dst hidl hs hd u (by omega)
  refine ⟨idN, z, hidl, by rw [lz, lu, lv']; rfl, ?_⟩
  unfold tunnel_Wrap.f
  have hb : ether_Bare.f f = some (bare f) := rfl
  rw [hb, Option.bind_some, build_good _ hg, Option.bind_some]
  simp only
  rw [show ((0 : Int) != 0) = false from rfl, cond_false, ev, Option.bind_some]
  simp only
  rw [show ((0 : Int) != 0) = false from rfl, cond_false, hp, Option.bind_some]
  unfold station_Make.f
  rw [eu, Option.bind_some]
  simp only
  rw [show ((0 : Int) != 0) = false from rfl, cond_false, hid, ez, Option.bind_some]
  simp only
  rw [show ((0 : Int) != 0) = false from rfl, Bool.false_or]
  by_cases hm : (z.size : Int) > most
  · rw [if_pos hm, decide_eq_true hm]; rfl
  · rw [if_neg hm, decide_eq_false hm]; rfl

theorem wrap_bad (f : api_Frame) (h1 : 0 ≤ f.Dst) (h2 : 0 ≤ f.Src) (hb : f.Body.size ≤ 140737488351232) (hg : ¬ Good (bare f)) (src dst vni vid : Int) (ps : List Int) (id most : Int) : tunnel_Wrap.f 2000 src dst vid vni ps f id most = some (⟨#[]⟩, 220) := by
  obtain ⟨c, hc, _, e⟩ := build_bad (bare f) h1 h2 hb hg
  unfold tunnel_Wrap.f
  have hbr : ether_Bare.f f = some (bare f) := rfl
  rw [hbr, Option.bind_some, e, Option.bind_some]
  simp only
  rw [show (c != 0) = true by simp [hc], cond_true]
end Go.Proofs.YtbodofjnfmjbpaaGreatDoor

namespace Go.Proofs.YtbodofjnfmjbpaaGreatDoor
open Go Eng
set_option linter.unusedVariables false
set_option linter.unusedSimpArgs false

theorem bytes_loop (v n : Nat) (hv : v < 18446744073709551616) (hn : n ≤ 8) : ∀ (j i fuel : Nat), i + j = n → j < fuel → gangwayref01_Bytes.l1 n fuel ((v / 256 ^ i : Nat) : Int) (be i v) i = some (be n v)
  | 0, i, 0, hij, hf => by omega
  | 0, i, fuel + 1, hij, hf => by
    obtain rfl : i = n := by omega
    simp only [gangwayref01_Bytes.l1]
    rw [show decide ((i : Int) < (i : Int)) = false by simp]
    rfl
  | j + 1, i, 0, hij, hf => by omega
  | j + 1, i, fuel + 1, hij, hf => by
    simp only [gangwayref01_Bytes.l1]
    rw [show decide ((i : Int) < (n : Int)) = true by simp; omega]
    simp only [cond_true]
    have hq : v / 256 ^ i ≤ v := Nat.div_le_self _ _
    generalize hx : v / 256 ^ i = x at hq
    have e1 : (u8 (Int.tmod ((x : Nat) : Int) 256)).toNat = x % 256 := by
      rw [Int.tmod_eq_emod_of_nonneg (by omega), u8_id (by omega)]
      omega
    have e2 : u64 (Int.tdiv ((x : Nat) : Int) 256) = ((v / 256 ^ (i + 1) : Nat) : Int) := by
      rw [Int.tdiv_eq_ediv_of_nonneg (by omega), u64_id (by omega), Nat.pow_succ, ← Nat.div_div_eq_div_mul, hx]
      omega
    rw [e1, catS_eq (by rw [be_size]; simp; omega), Option.bind_some, e2, i64_id (by omega)]
    have e3 : ByteArray.push ByteArray.empty (UInt8.ofNat (x % 256)) ++ be i v = be (i + 1) v := L_inj (by
      rw [L_append, L_be, L_be]
      simp only [beL, hx]
      rfl)
    rw [e3]
    exact bytes_loop v n hv hn j (i + 1) fuel (by omega) (by omega)

theorem rbytes (v wi : Int) (w : Nat) (hwi : wi = (w : Int)) (hw : w ≤ 8) (h0 : 0 ≤ v) (hv2 : v < 18446744073709551616) : gangwayref01_Bytes.f 2000 v wi = some (be w v.toNat) := by
  subst hwi
  have e : v = ((v.toNat / 256 ^ 0 : Nat) : Int) := by simp; omega
  have := bytes_loop v.toNat w (by omega) hw w 0 2000 (by omega) (by omega)
  rw [← e] at this
  exact this

theorem ref_tag (t : api_Tag) : gangwayref04_tag.f t = ether_tag.f t := by
  obtain ⟨h, p, d, v⟩ := t
  unfold gangwayref04_tag.f ether_tag.f
  cases h
  · simp only [cond_false, Bool.not_false, cond_true]
    congr 1
    cases d <;> simp [Bool.and_assoc]
  · simp only [cond_true, Bool.not_true, cond_false]
    congr 1
    have e1 : decide (p ≤ 7) = decide (p < 8) := by congr 1; apply propext; omega
    have e2 : decide (v ≤ 4095) = decide (v < 4096) := by congr 1; apply propext; omega
    rw [e1, e2]

theorem ref_check (a : api_Frame) (h1 : 0 ≤ a.Dst ∧ a.Dst ≤ 18446744073709551615) (h2 : 0 ≤ a.Src ∧ a.Src ≤ 18446744073709551615) : gangwayref04_Check.f a = ether_Check.f a := by
  have hfd : ∀ x : Int, 0 ≤ x → ((Int.fdiv x 281474976710656) != 0) = decide (x ≥ 281474976710656) := fun x hx => by
    rw [Int.fdiv_eq_ediv_of_nonneg _ (by decide)]
    by_cases h : x ≥ 281474976710656
    · rw [decide_eq_true h]; simp; omega
    · rw [decide_eq_false h]; simp; omega
  have hk2 : ∀ x y, x = y → gangwayref04_Check.k2 a x = ether_Check.k1 a y := fun x y e => by
    subst e
    unfold gangwayref04_Check.k2 ether_Check.k1
    cases x
    · simp only [cond_false]
      cases ((a.Type_ == 0) && (decide ((a.Body.size : Int) > 1500)))
      · simp only [cond_false]
        unfold ether_size.f ether_size.k1
        cases a.Tag.Has
        · rfl
        · rfl
      · rfl
    · rfl
  have hk1 : ∀ x, gangwayref04_Check.k1 a x = ether_Check.k2 a x := fun x => by
    unfold gangwayref04_Check.k1 ether_Check.k2
    cases x
    · simp only [cond_false]
      by_cases ht : a.Type_ = 0
      · rw [show (a.Type_ != 0) = false by simp [ht], cond_false, Bool.false_and]
        exact hk2 _ _ rfl
      · rw [show (a.Type_ != 0) = true by simp [ht], cond_true, Bool.true_and]
        refine hk2 _ _ ?_
        have q1 : decide (a.Type_ ≥ 1536) = !decide (a.Type_ < 1536) := by
          rw [← decide_not]
          congr 1
          apply propext
          omega
        have q2 : decide (a.Type_ ≤ 65535) = !decide (a.Type_ > 65535) := by
          rw [← decide_not]
          congr 1
          apply propext
          omega
        rw [q1, q2, show (a.Type_ != 33024) = !(a.Type_ == 33024) from rfl]
        cases decide (a.Type_ < 1536) <;> cases decide (a.Type_ > 65535) <;> cases (a.Type_ == 33024) <;> rfl
    · rfl
  unfold gangwayref04_Check.f ether_Check.f
  rw [hfd _ h1.1, hfd _ h2.1, ref_tag]
  cases ((decide (a.Dst ≥ 281474976710656)) || (decide (a.Src ≥ 281474976710656)))
  · simp only [cond_false]
    simp only [hk1]
  · exact hk1 true

theorem ref_build_good (a : api_Frame) (g : Good a) : gangwayref04_Build.f 2000 a = some (⟨(frameL a).toArray⟩, 0) := by
  have hbs : a.Body.size ≤ 1600 := by have := g.size; omega
  have hd := g.dst
  have hs := g.src
  obtain ⟨c, hc, hc0⟩ := check_spec a g.dst.1 g.src.1 (by omega)
  have : c = 0 := hc0.2 g
  subst this
  unfold gangwayref04_Build.f
  rw [ref_check a (by omega) (by omega), hc, Option.bind_some, show ((0 : Int) != 0) = false from rfl]
  simp only [cond_false]
  rw [rbytes a.Dst 6 6 rfl (by omega) g.dst.1 (by omega), Option.bind_some, rbytes a.Src 6 6 rfl (by omega) g.src.1 (by omega), Option.bind_some, catS_eq (by simp [be_size]), Option.bind_some]
  have k1 : ∀ (x : ByteArray) (z : Int), x.size ≤ 100 → z = ((typeN a : Nat) : Int) → gangwayref04_Build.k2 2000 x a z = some (⟨(L x ++ (beL 2 (typeN a) ++ L a.Body)).toArray⟩, 0) := fun x z hx hz => by
    have hz2 : z < 65536 := by
      rw [hz]
      rcases g.type with h | h
      · simp only [typeN, h.1, if_true]; omega
      · simp only [typeN]; rw [if_neg (by omega)]; omega
    unfold gangwayref04_Build.k2
    rw [u64_id (by omega), rbytes z 2 2 rfl (by omega) (by omega) (by omega), Option.bind_some]
    have e : z.toNat = typeN a := by omega
    rw [e, catS_eq (by simp [be_size]; omega), Option.bind_some, catS_eq (by simp [be_size]; omega), Option.bind_some]
    refine congrArg (fun z => some (z, (0 : Int))) (L_inj (Eq.trans ?_ (L_mk _).symm))
    rw [L_append, L_append, L_be, List.append_assoc]
  have k2 : ∀ (x : ByteArray), x.size ≤ 100 → gangwayref04_Build.k3 a 2000 x = some (⟨(L x ++ (beL 2 (typeN a) ++ L a.Body)).toArray⟩, 0) := fun x hx => by
    unfold gangwayref04_Build.k3
    by_cases ht : a.Type_ = 0
    · rw [show (a.Type_ == 0) = true by simp [ht]]
      exact k1 x _ hx (by simp [typeN, ht])
    · rw [show (a.Type_ == 0) = false by simp [ht]]
      refine k1 x _ hx ?_
      rcases g.type with h | h
      · exact absurd h.1 ht
      · simp only [typeN]; rw [if_neg ht]; omega
  cases hh : a.Tag.Has
  · simp only [cond_false]
    rw [k2 _ (by simp [be_size])]
    refine congrArg (fun z => some (z, (0 : Int))) (L_inj (Eq.trans (L_mk _) (Eq.trans ?_ (L_mk _).symm)))
    rw [L_append, L_be, L_be]
    simp [frameL, tagL, hh]
  · simp only [cond_true]
    obtain ⟨_, hi2⟩ := info_spec a.Tag (g.tag hh)
    have hti := g.tag hh
    have kk : ∀ z : Int, z = ((infoN a.Tag : Nat) : Int) → gangwayref04_Build.k1 2000 (be 6 a.Dst.toNat ++ be 6 a.Src.toNat) a z = some (⟨(frameL a).toArray⟩, 0) := fun z hz => by
      subst hz
      unfold gangwayref04_Build.k1
      rw [u64_id (by omega), rbytes _ 2 2 rfl (by omega) (by omega) (by omega), Option.bind_some, catS_eq (by rw [be_size]; decide), Option.bind_some, catS_eq (by
        have : (⟨#[129, 0]⟩ : ByteArray).size = 2 := rfl
        simp [be_size, this]), Option.bind_some, k2 _ (by
        have : (⟨#[129, 0]⟩ : ByteArray).size = 2 := rfl
        simp [be_size, this])]
      refine congrArg (fun z => some (z, (0 : Int))) (L_inj (Eq.trans (L_mk _) (Eq.trans ?_ (L_mk _).symm)))
      rw [L_append, L_append, L_append, L_be, L_be, L_be]
      rw [show L (⟨#[129, 0]⟩ : ByteArray) = beL 2 33024 by decide]
      simp [frameL, tagL, hh]
    have e0 : i64 (a.Tag.Pri * 8192) = a.Tag.Pri * 8192 := i64_id (by omega)
    have e1 : i64 (a.Tag.Pri * 8192 + a.Tag.Vid) = a.Tag.Pri * 8192 + a.Tag.Vid := i64_id (by omega)
    cases hde : a.Tag.Dei
    · simp only [cond_false]
      refine kk _ ?_
      rw [e0, e1]
      simp only [infoN, hde, Bool.false_eq_true, if_false]
      omega
    · simp only [cond_true]
      refine kk _ ?_
      rw [e0, e1, i64_id (by omega)]
      simp only [infoN, hde, if_true]
      omega

theorem ref_build (a : api_Frame) (h1 : 0 ≤ a.Dst ∧ a.Dst ≤ 18446744073709551615) (h2 : 0 ≤ a.Src ∧ a.Src ≤ 18446744073709551615) (hb : a.Body.size ≤ 140737488351232) : ∃ x, gangwayref04_Build.f 2000 a = some x ∧ ether_Build.f 2000 a = some x := by
  by_cases hg : Good a
  · exact ⟨_, ref_build_good a hg, build_good a hg⟩
  · obtain ⟨c, hc, hk, hbb⟩ := build_bad a h1.1 h2.1 hb hg
    refine ⟨_, ?_, hbb⟩
    unfold gangwayref04_Build.f
    rw [ref_check a h1 h2, hk, Option.bind_some, show (c != 0) = true by simp [hc]]
    rfl

end Go.Proofs.YtbodofjnfmjbpaaGreatDoor

namespace Go.Proofs.YtbodofjnfmjbpaaGreatDoor
open Go Eng
set_option linter.unusedVariables false
set_option linter.unusedSimpArgs false

theorem rb (v w : Int) (n m : Nat) (h : v = n) (hw : w = m) (hm : m ≤ 8) (hn : n < 18446744073709551616) : gangwayref01_Bytes.f 2000 v w = some (be m n) := by
  subst h
  have := rbytes (n : Int) w m hw hm (by omega) (by omega)
  rw [Int.toNat_natCast] at this
  exact this
theorem rbu (v w : Int) (n m : Nat) (h : v = n) (hw : w = m) (hm : m ≤ 8) (hn : n < 18446744073709551616) : gangwayref01_Bytes.f 2000 (u64 v) w = some (be m n) := by
  rw [u64_id (by omega)]
  exact rb v w n m h hw hm hn

/-! ### The number's head -/
theorem beL4_256 (n : Nat) : beL 4 (n * 256) = beL 3 n ++ [0] := by
  have e0 : n * 256 / 256 ^ 0 % 256 = 0 := by simp
  have e1 : n * 256 / 256 ^ 1 = n := by simp
  have e2 : n * 256 / 256 ^ 2 = n / 256 := by rw [show (256 : Nat) ^ 2 = 256 * 256 from rfl, ← Nat.div_div_eq_div_mul, Nat.mul_div_cancel _ (by decide)]
  have e3 : n * 256 / 256 ^ 3 = n / 256 ^ 2 := by rw [show (256 : Nat) ^ 3 = 256 * 256 ^ 2 from rfl, ← Nat.div_div_eq_div_mul, Nat.mul_div_cancel _ (by decide)]
  simp only [beL, e0, e1, e2, e3, List.cons_append, List.nil_append]
  simp
theorem rvx_good (v : Int) (n : Nat) (h : v = n) (hn : n ≤ 16777215) (b : ByteArray) (hb : b.size ≤ 10000) : ∃ z, gangwayref08_Build.f 2000 v b = some (z, 0) ∧ L z = vxL n (L b) := by
  subst h
  have hb' : (L b).length ≤ 10000 := by rw [L_length]; exact hb
  unfold gangwayref08_Build.f
  rw [show ((decide ((n : Int) < 0)) || (decide ((n : Int) > 16777215))) = false by simp; omega, cond_false, u64_id (n := (n : Int)) (by omega), rbu _ 4 (n * 256) 4 (by omega) rfl (by omega) (by omega), Option.bind_some]
  obtain ⟨z1, e1, l1⟩ := cat2 (x := (⟨#[8, 0, 0, 0]⟩ : ByteArray)) (lx := [8, 0, 0, 0]) rfl (L_be 4 (n * 256)) (by simp [beL_length])
  rw [e1, Option.bind_some]
  obtain ⟨z2, e2, l2⟩ := cat2 (y := b) l1 rfl (by simp [beL_length]; omega)
  rw [e2, Option.bind_some]
  exact ⟨z2, rfl, by rw [l2, beL4_256]; simp [vxL]⟩

/-! ### The port -/
theorem xor_ofInt (k : Nat) (a b : Nat) (ha : a < 4294967296) (hb : b < 4294967296) (hk : 32 ≤ k) : (BitVec.ofInt k (a : Int) ^^^ BitVec.ofInt k (b : Int)).toNat = a ^^^ b := by
  have h2 : (4294967296 : Nat) ≤ 2 ^ k := Nat.le_trans (by decide : (4294967296 : Nat) ≤ 2 ^ 32) (Nat.pow_le_pow_right (by decide) hk)
  rw [BitVec.toNat_xor, BitVec.ofInt_natCast, BitVec.ofInt_natCast, BitVec.toNat_ofNat, BitVec.toNat_ofNat, Nat.mod_eq_of_lt (by omega), Nat.mod_eq_of_lt (by omega)]
theorem xor_lt32 {a b : Nat} (ha : a < 4294967296) (hb : b < 4294967296) : a ^^^ b < 4294967296 :=
  Nat.xor_lt_two_pow (n := 32) ha hb
theorem xor32 (a b : Nat) (ha : a < 4294967296) (hb : b < 4294967296) : bXor .u32 (a : Int) (b : Int) = ((a ^^^ b : Nat) : Int) := by
  show IntKind.u32.wrap ((BitVec.ofInt 32 (a : Int) ^^^ BitVec.ofInt 32 (b : Int)).toNat : Int) = _
  rw [xor_ofInt 32 a b ha hb (by omega)]
  have := xor_lt32 ha hb
  exact u32_id (by omega)
theorem xor64 (a b : Nat) (ha : a < 4294967296) (hb : b < 4294967296) : bXor .u64 (a : Int) (b : Int) = ((a ^^^ b : Nat) : Int) := by
  show IntKind.u64.wrap ((BitVec.ofInt 64 (a : Int) ^^^ BitVec.ofInt 64 (b : Int)).toNat : Int) = _
  rw [xor_ofInt 64 a b ha hb (by omega)]
  have := xor_lt32 ha hb
  exact u64_id (by omega)
theorem u32_mod (n : Nat) : u32 (n : Int) = ((n % 4294967296 : Nat) : Int) := by
  simp [u32, IntKind.wrap, IntKind.bits, IntKind.signed]

theorem rhash_loop (s : ByteArray) (hs : s.size ≤ 100) : ∀ (j i fuel x : Nat), i + j = s.size → j < fuel → x < 4294967296 → gangwayref08_Hash.l1 s fuel (x : Int) (i : Int) = vxlan_Hash.l1 s fuel (x : Int) (i : Int)
  | j, i, 0, x, _, h, _ => by omega
  | 0, i, fuel + 1, x, hij, h, hx => by
    simp only [vxlan_Hash.l1, gangwayref08_Hash.l1]
    rw [show decide ((i : Int) < (s.size : Int)) = false by simp; omega, cond_false, cond_false, u32_id (by omega)]
  | j + 1, i, fuel + 1, x, hij, h, hx => by
    simp only [vxlan_Hash.l1, gangwayref08_Hash.l1]
    have hlt : i < (L s).length := by rw [L_length]; omega
    have hb := ((L s)[i]).toNat_lt
    rw [show decide ((i : Int) < (s.size : Int)) = true by simp; omega, cond_true, cond_true, idxS_get s i _ (List.getElem?_eq_getElem hlt), Option.bind_some, Option.bind_some, i64_id (n := (i : Int) + 1) (by omega), show ((i : Int) + 1) = ((i + 1 : Nat) : Int) by omega]
    generalize ((L s)[i]).toNat = c at hb
    rw [u32_id (n := (c : Int)) (by omega), u64_id (n := (c : Int)) (by omega), xor32 x c hx (by omega), xor64 x c hx (by omega)]
    have hxl := xor_lt32 hx (by omega : c < 4294967296)
    generalize x ^^^ c = y at hxl
    rw [u64_id (n := (y : Int) * 16777619) (by omega), show (y : Int) * 16777619 = ((y * 16777619 : Nat) : Int) by omega, u32_mod, show (4294967296 : Int) = ((4294967296 : Nat) : Int) from rfl, ← Int.ofNat_tmod]
    exact rhash_loop s hs j (i + 1) fuel _ (by omega) (by omega) (by omega)

theorem rport (b : ByteArray) : gangwayref08_Port.f 2000 b = vxlan_Port.f 2000 b := by
  have hh : ∀ t : ByteArray, t.size ≤ 14 → gangwayref08_Hash.f 2000 t = vxlan_Hash.f 2000 t := fun t ht => rhash_loop t (by omega) t.size 0 2000 2166136261 (by omega) (by omega) (by omega)
  unfold gangwayref08_Port.f vxlan_Port.f gangwayref08_Port.k1
  by_cases h : b.size > 14
  · rw [decide_eq_true (by omega : (b.size : Int) > 14), cond_true]
    have hi : imin (b.size : Int) 14 = 14 := by unfold imin; split <;> omega
    rw [hi, sliceS_eq (by omega), Option.bind_some, Option.bind_some, hh _ (by
      have e : (14 : Int).toNat = 14 := rfl
      rw [e, ByteArray.size_extract]; omega)]
  · rw [decide_eq_false (by omega : ¬ (b.size : Int) > 14), cond_false]
    have hi : imin (b.size : Int) 14 = b.size := by unfold imin; split <;> omega
    have e : b.extract (0 : Int).toNat ((b.size : Nat) : Int).toNat = b := L_inj (by
      rw [L_extract, Int.toNat_natCast]
      show ((L b).drop 0).take (b.size - 0) = L b
      rw [List.drop_zero, ← L_length, Nat.sub_zero, List.take_length])
    rw [hi, sliceS_eq (by omega), e, Option.bind_some, hh _ (by omega)]

/-! ### Sums -/
theorem rtotal (x : ByteArray) (hx : x.size ≤ 1990) : ∀ (r pre : List UInt8) (m a fuel : Nat), L x = pre ++ r → pre.length = 2 * m → r.length < fuel → a ≤ 65535 * m →
    gangwayref03_Total.l2 x fuel (a : Int) (pre.length : Int) = some ((a + wsum r : Nat) : Int)
  | _, pre, m, a, 0, _, _, h, _ => by omega
  | [], pre, m, a, fuel + 1, e, hm, h, ha => by
    have hs : x.size = pre.length := by rw [← L_length, e]; simp
    simp only [gangwayref03_Total.l2]
    rw [hs, show decide ((pre.length : Int) < (pre.length : Int)) = false by simp]
    simp [wsum]
  | [y], pre, m, a, 1, e, hm, h, ha => by simp at h
  | [y], pre, m, a, fuel + 2, e, hm, h, ha => by
    have hs : x.size = pre.length + 1 := by rw [← L_length, e]; simp
    have h0 : (L x)[pre.length]? = some y := by rw [e]; simp
    have hy := y.toNat_lt
    simp only [gangwayref03_Total.l2, gangwayref03_Total.k1]
    have hm2 : (Int.tmod (pre.length : Int) 2 == 0) = true := by
      rw [hm, show (2 : Int) = ((2 : Nat) : Int) from rfl, ← Int.ofNat_tmod]; simp
    rw [show decide ((pre.length : Int) < (x.size : Int)) = true by simp; omega, cond_true, hm2, cond_true, idxS_get x _ _ h0, Option.bind_some, i64_id (n := (pre.length : Int) + 1) (by omega), hs, show decide ((pre.length : Int) + 1 < ((pre.length + 1 : Nat) : Int)) = false by simp, cond_false]
    rw [i64_id (n := ((y.toNat : Nat) : Int)) (by omega), i64_id (n := 256 * ((y.toNat : Nat) : Int)) (by omega), i64_id (by omega)]
    simp only [wsum]
    congr 1
    omega
  | y :: z :: r, pre, m, a, 1, e, hm, h, ha => by simp at h
  | y :: z :: r, pre, m, a, fuel + 2, e, hm, h, ha => by
    have hs : x.size = pre.length + (r.length + 2) := by rw [← L_length, e]; simp
    have h0 : (L x)[pre.length]? = some y := by rw [e]; simp
    have h1 : (L x)[pre.length + 1]? = some z := by rw [e, List.getElem?_append_right (by omega)]; simp
    have hy := y.toNat_lt
    have hz := z.toNat_lt
    simp only [gangwayref03_Total.l2, gangwayref03_Total.k1]
    have hm2 : (Int.tmod (pre.length : Int) 2 == 0) = true := by
      rw [hm, show (2 : Int) = ((2 : Nat) : Int) from rfl, ← Int.ofNat_tmod]; simp
    have hm3 : (Int.tmod ((pre.length + 1 : Nat) : Int) 2 == 0) = false := by
      rw [hm, show (2 : Int) = ((2 : Nat) : Int) from rfl, ← Int.ofNat_tmod]; simp
    rw [show decide ((pre.length : Int) < (x.size : Int)) = true by simp; omega, cond_true, hm2, cond_true, idxS_get x _ _ h0, Option.bind_some, i64_id (n := (pre.length : Int) + 1) (by omega), show ((pre.length : Int) + 1) = ((pre.length + 1 : Nat) : Int) by omega]
    rw [show decide (((pre.length + 1 : Nat) : Int) < (x.size : Int)) = true by simp; omega, cond_true, hm3, cond_false, idxS_get x _ _ h1, Option.bind_some]
    rw [i64_id (n := ((y.toNat : Nat) : Int)) (by omega), i64_id (n := ((z.toNat : Nat) : Int)) (by omega), i64_id (n := 256 * ((y.toNat : Nat) : Int)) (by omega), i64_id (n := (a : Int) + 256 * ((y.toNat : Nat) : Int)) (by omega), i64_id (n := (a : Int) + 256 * ((y.toNat : Nat) : Int) + ((z.toNat : Nat) : Int)) (by omega), i64_id (n := ((pre.length + 1 : Nat) : Int) + 1) (by omega)]
    have e2 : (a : Int) + 256 * ((y.toNat : Nat) : Int) + ((z.toNat : Nat) : Int) = ((a + (y.toNat * 256 + z.toNat) : Nat) : Int) := by omega
    have := rtotal x hx r (pre ++ [y, z]) (m + 1) (a + (y.toNat * 256 + z.toNat)) fuel (by rw [e]; simp) (by simp; omega) (by simp at h; omega) (by omega)
    rw [List.length_append] at this
    have e3 : (((pre.length + 1 : Nat) : Int) + 1) = ((pre.length + [y, z].length : Nat) : Int) := by simp; omega
    rw [e2, e3, this]
    simp only [wsum]
    congr 2
    omega

theorem wsum_le : ∀ (l : List UInt8), wsum l ≤ 65535 * l.length
  | [] => by simp [wsum]
  | [a] => by have := a.toNat_lt; simp [wsum]; omega
  | a :: b :: r => by
    have h1 := a.toNat_lt
    have h2 := b.toNat_lt
    have := wsum_le r
    simp only [wsum, List.length_cons]
    omega
theorem rof (x : ByteArray) (hx : x.size ≤ 1990) : gangwayref03_Of.f 2000 x = some ((65535 - foldN (wsum (L x)) : Nat) : Int) := by
  unfold gangwayref03_Of.f gangwayref03_Total.f
  have h := rtotal x hx (L x) [] 0 0 2000 rfl rfl (by rw [L_length]; omega) (by omega)
  rw [Nat.zero_add] at h
  have h' : gangwayref03_Total.l2 x 2000 0 0 = some ((wsum (L x) : Nat) : Int) := h
  have hl := wsum_le (L x)
  rw [L_length] at hl
  have hf := foldN_le (wsum (L x))
  rw [h', Option.bind_some]
  have hfo : gangwayref03_Fold.f ((wsum (L x) : Nat) : Int) = some ((foldN (wsum (L x)) : Nat) : Int) := by
    generalize wsum (L x) = n at hl
    unfold gangwayref03_Fold.f foldN
    by_cases hn : n = 0
    · subst hn; rfl
    · have : (((n : Nat) : Int) == 0) = false := by simp; exact hn
      rw [this, cond_false, if_neg hn, i64_id (n := (n : Int) - 1) (by omega), show ((n : Int) - 1) = ((n - 1 : Nat) : Int) by omega, show (65535 : Int) = ((65535 : Nat) : Int) from rfl, ← Int.ofNat_tmod, i64_id (by omega)]
      congr 1
  rw [hfo, Option.bind_some, i64_id (by omega)]
  congr 1
  omega

/-! ### A datagram without a sum -/
theorem fdiv_zero (n m : Nat) (v : Int) (h : v = n) (hn : n < m) : (Int.fdiv v (m : Int) != 0) = false := by
  subst h
  rw [Int.fdiv_eq_ediv_of_nonneg _ (by omega), ← Int.natCast_ediv, Nat.div_eq_of_lt hn]
  rfl
theorem tmod65536 (a : Nat) (v : Int) (h : v = a) : Int.tmod v 65536 = ((a % 65536 : Nat) : Int) := by
  subst h
  exact (Int.ofNat_tmod a 65536).symm
theorem rlow (n : Nat) (h : n < 65536) : gangwayref03_low.f (n : Int) = some (n : Int) := by
  unfold gangwayref03_low.f
  rw [tmod65536 n _ rfl, tmod65536 (n + 65536) _ (by rw [i64_id (by omega)]; omega)]
  exact congrArg some (by omega)
theorem rhead (src dst : Nat) (n : Nat) (hs : src < 4294967296) (hd : dst < 4294967296) (hn : n < 65536) : ∃ z, gangwayref03_Head.f 2000 src dst 17 (n : Int) = some z ∧ z.size = 12 := by
  unfold gangwayref03_Head.f
  rw [rbu _ 4 src 4 rfl rfl (by omega) (by omega), Option.bind_some, rbu _ 4 dst 4 rfl rfl (by omega) (by omega), Option.bind_some]
  obtain ⟨z1, e1, l1⟩ := cat2 (L_be 4 src) (L_be 4 dst) (by simp [beL_length])
  rw [e1, Option.bind_some, show u8 17 = 17 from rfl, rbu 17 2 17 2 rfl rfl (by omega) (by omega), Option.bind_some]
  obtain ⟨z2, e2, l2⟩ := cat2 l1 (L_be 2 17) (by simp [beL_length])
  rw [e2, Option.bind_some, rlow n hn, Option.bind_some, rbu _ 2 n 2 rfl rfl (by omega) (by omega), Option.bind_some]
  obtain ⟨z3, e3, l3⟩ := cat2 l2 (L_be 2 n) (by simp [beL_length])
  rw [e3, Option.bind_some]
  exact ⟨z3, rfl, by rw [← L_length, l3]; simp [beL_length]⟩

theorem rudp_good (src dst : Nat) (hsr : src < 4294967296) (hds : dst < 4294967296) (p : Nat) (hp : p < 65536) (body : ByteArray) (hb : body.size ≤ 1900) : ∃ z, gangwayref07_Build.f 2000 src dst ⟨p, 4789, true, body⟩ = some (z, 0) ∧ L z = udpL p (L body) := by
  have hb' : (L body).length = body.size := L_length body
  unfold gangwayref07_Build.f
  have hc : gangwayref07_Check.f ⟨p, 4789, true, body⟩ = some 0 := by
    unfold gangwayref07_Check.f
    simp only
    have a1 : (Int.fdiv (p : Int) 65536 != 0) = false := fdiv_zero p 65536 _ rfl (by omega)
    have a2 : (Int.fdiv 4789 65536 != 0) = false := fdiv_zero 4789 65536 _ (by omega) (by omega)
    rw [a1, a2, decide_eq_false (by omega : ¬ (body.size : Int) > 65507)]
    rfl
  rw [hc, Option.bind_some, show ((0 : Int) != 0) = false from rfl, cond_false]
  simp only
  rw [rbu (p : Int) 2 p 2 rfl rfl (by omega) (by omega), Option.bind_some, rbu 4789 2 4789 2 (by omega) rfl (by omega) (by omega), Option.bind_some]
  obtain ⟨z1, e1, l1⟩ := cat2 (L_be 2 p) (L_be 2 4789) (by simp [beL_length])
  have en : i64 ((body.size : Int) + 8) = ((8 + body.size : Nat) : Int) := by rw [i64_id (by omega)]; omega
  rw [e1, Option.bind_some, en, rbu _ 2 (8 + body.size) 2 rfl rfl (by omega) (by omega), Option.bind_some]
  obtain ⟨z2, e2, l2⟩ := cat2 l1 (L_be 2 (8 + body.size)) (by simp [beL_length])
  obtain ⟨zh, eh, lh⟩ := rhead src dst (8 + body.size) hsr hds (by omega)
  rw [e2, Option.bind_some, eh, Option.bind_some]
  obtain ⟨z3, e3, l3⟩ := cat2 (x := zh) rfl l2 (by rw [L_length]; simp [beL_length]; omega)
  rw [e3, Option.bind_some]
  obtain ⟨z4, e4, l4⟩ := cat2 (y := (⟨#[0, 0]⟩ : ByteArray)) (ly := [0, 0]) l3 rfl (by simp [beL_length, L_length]; omega)
  rw [e4, Option.bind_some]
  obtain ⟨z5, e5, l5⟩ := cat2 (y := body) l4 rfl (by simp [beL_length, L_length]; omega)
  have hz5 : z5.size = 20 + body.size := by rw [← L_length, l5]; simp [beL_length, L_length]; omega
  rw [e5, Option.bind_some, rof z5 (by omega), Option.bind_some]
  have hk : ∀ x : Int, gangwayref07_Build.k2 ⟨p, 4789, true, body⟩ 2000 z2 x = gangwayref07_Build.k1 2000 z2 ⟨p, 4789, true, body⟩ 0 := fun x => rfl
  rw [hk, hk]
  unfold gangwayref07_Build.k1
  simp only
  rw [show (bif (((65535 - foldN (wsum (L z5)) : Nat) : Int) == 0) then (gangwayref01_Bytes.f 2000 (u64 0) 2).bind fun r29 => (catS z2 r29).bind fun t31 => (catS t31 body).bind fun t33 => some (t33, (0 : Int)) else (gangwayref01_Bytes.f 2000 (u64 0) 2).bind fun r29 => (catS z2 r29).bind fun t31 => (catS t31 body).bind fun t33 => some (t33, (0 : Int))) = (gangwayref01_Bytes.f 2000 (u64 0) 2).bind fun r29 => (catS z2 r29).bind fun t31 => (catS t31 body).bind fun t33 => some (t33, (0 : Int)) by cases (((65535 - foldN (wsum (L z5)) : Nat) : Int) == 0) <;> rfl]
  rw [rbu 0 2 0 2 rfl rfl (by omega) (by omega), Option.bind_some]
  obtain ⟨z6, e6, l6⟩ := cat2 l2 (L_be 2 0) (by simp [beL_length])
  rw [e6, Option.bind_some]
  obtain ⟨z7, e7, l7⟩ := cat2 (y := body) l6 rfl (by simp [beL_length]; omega)
  rw [e7, Option.bind_some]
  exact ⟨z7, rfl, by rw [l7]; simp [udpL, hb']⟩

/-! ### A packet -/
theorem riphead (src dst id sum : Nat) (hid : id < 65536) (hs : src < 4294967296) (hd : dst < 4294967296) (hsum : sum < 65536) (body : ByteArray) (hb : body.size ≤ 10000) :
    ∃ z, gangwayref06_Head.f 2000 ⟨0, id, true, false, 0, 64, 17, src, dst, body⟩ (sum : Int) = some z ∧ L z = h1L body.size id ++ (beL 2 sum ++ abL src dst) := by
  unfold gangwayref06_Head.f gangwayref06_Head.k2
  simp only [cond_true, cond_false]
  unfold gangwayref06_Head.k1
  simp only
  rw [rbu 0 1 0 1 rfl rfl (by omega) (by omega), Option.bind_some]
  obtain ⟨z1, e1, l1⟩ := cat2 (x := (⟨#[69]⟩ : ByteArray)) (lx := [69]) rfl (L_be 1 0) (by simp [beL_length])
  rw [e1, Option.bind_some, rbu _ 2 (20 + body.size) 2 (by rw [i64_id (by omega)]; omega) rfl (by omega) (by omega), Option.bind_some]
  obtain ⟨z2, e2, l2⟩ := cat2 l1 (L_be 2 (20 + body.size)) (by simp [beL_length])
  rw [e2, Option.bind_some, rbu _ 2 id 2 rfl rfl (by omega) (by omega), Option.bind_some]
  obtain ⟨z3, e3, l3⟩ := cat2 l2 (L_be 2 id) (by simp [beL_length])
  rw [e3, Option.bind_some, rbu _ 2 16384 2 (by decide) rfl (by omega) (by omega), Option.bind_some]
  obtain ⟨z4, e4, l4⟩ := cat2 l3 (L_be 2 16384) (by simp [beL_length])
  rw [e4, Option.bind_some, rbu 64 1 64 1 rfl rfl (by omega) (by omega), Option.bind_some]
  obtain ⟨z5, e5, l5⟩ := cat2 l4 (L_be 1 64) (by simp [beL_length])
  rw [e5, Option.bind_some, rbu 17 1 17 1 rfl rfl (by omega) (by omega), Option.bind_some]
  obtain ⟨z6, e6, l6⟩ := cat2 l5 (L_be 1 17) (by simp [beL_length])
  rw [e6, Option.bind_some, rbu _ 2 sum 2 rfl rfl (by omega) (by omega), Option.bind_some]
  obtain ⟨z7, e7, l7⟩ := cat2 l6 (L_be 2 sum) (by simp [beL_length])
  rw [e7, Option.bind_some, rbu _ 4 src 4 rfl rfl (by omega) (by omega), Option.bind_some]
  obtain ⟨z8, e8, l8⟩ := cat2 l7 (L_be 4 src) (by simp [beL_length])
  rw [e8, Option.bind_some, rbu _ 4 dst 4 rfl rfl (by omega) (by omega), Option.bind_some]
  obtain ⟨z9, e9, l9⟩ := cat2 l8 (L_be 4 dst) (by simp [beL_length])
  rw [e9, Option.bind_some]
  refine ⟨z9, rfl, ?_⟩
  rw [l9, show beL 1 0 = [0] by decide, show beL 1 64 = [64] by decide, show beL 1 17 = [17] by decide]
  simp [h1L, abL]

theorem h1_wsum (n id src dst : Nat) : wsum (h1L n id ++ (beL 2 0 ++ abL src dst)) = wsum (h1L n id) + wsum (abL src dst) := by
  rw [wsum_append 5 _ _ (by rw [h1L_length]), wsum_append 1 _ _ (by rw [beL_length]), wsum_beL2 0 (by omega), Nat.zero_add]

theorem rip_good (id src dst : Nat) (hid : id < 65536) (hs : src < 4294967296) (hd : dst < 4294967296) (body : ByteArray) (hb : body.size ≤ 10000) :
    ∃ z, gangwayref06_Build.f 2000 ⟨0, id, true, false, 0, 64, 17, src, dst, body⟩ = some (z, 0) ∧ L z = ipL id src dst (L body) := by
  have hb' : (L body).length = body.size := L_length body
  unfold gangwayref06_Build.f
  have hc : gangwayref06_Check.f ⟨0, id, true, false, 0, 64, 17, src, dst, body⟩ = some 0 := by
    unfold gangwayref06_Check.f
    simp only
    have a1 : (Int.fdiv (id : Int) 65536 != 0) = false := fdiv_zero id 65536 _ rfl (by omega)
    have a2 : (Int.fdiv 0 8192 != 0) = false := fdiv_zero 0 8192 _ rfl (by omega)
    have a3 : (!(((Int.fdiv 0 256 == 0) && (Int.fdiv 64 256 == 0)) && (Int.fdiv 17 256 == 0))) = false := by decide
    rw [a1, a2, a3, decide_eq_false (by omega : ¬ (body.size : Int) > 65515)]
    rfl
  rw [hc, Option.bind_some, show ((0 : Int) != 0) = false from rfl, cond_false]
  obtain ⟨z1, e1, l1⟩ := riphead src dst id 0 hid hs hd (by omega) body hb
  rw [show ((0 : Int)) = ((0 : Nat) : Int) from rfl] 
  have hz1 : z1.size = 20 := by rw [← L_length, l1]; simp [h1L_length, abL_length, beL_length]
  have e1' : gangwayref06_Head.f 2000 ⟨((0 : Nat) : Int), id, true, false, ((0 : Nat) : Int), 64, 17, src, dst, body⟩ ((0 : Nat) : Int) = some z1 := e1
  rw [e1', Option.bind_some, rof z1 (by omega), Option.bind_some, l1, h1_wsum]
  have hsum : (65535 - foldN (wsum (h1L body.size id) + wsum (abL src dst))) = sumN body.size id src dst := rfl
  rw [hsum]
  obtain ⟨z2, e2, l2⟩ := riphead src dst id (sumN body.size id src dst) hid hs hd (sumN_lt _ _ _ _) body hb
  have e2' : gangwayref06_Head.f 2000 ⟨((0 : Nat) : Int), id, true, false, ((0 : Nat) : Int), 64, 17, src, dst, body⟩ ((sumN body.size id src dst : Nat) : Int) = some z2 := e2
  rw [e2', Option.bind_some]
  simp only
  obtain ⟨z3, e3, l3⟩ := cat2 (y := body) l2 rfl (by simp [h1L_length, abL_length, beL_length]; omega)
  rw [e3, Option.bind_some]
  exact ⟨z3, rfl, by rw [l3]; simp [ipL, hb']⟩
end Go.Proofs.YtbodofjnfmjbpaaGreatDoor

namespace Go.Proofs.YtbodofjnfmjbpaaGreatDoor
open Go Eng
theorem fixed_true : gangwaylaw22_fixed.f 2000 = some true := by kernel_rfl
end Go.Proofs.YtbodofjnfmjbpaaGreatDoor
