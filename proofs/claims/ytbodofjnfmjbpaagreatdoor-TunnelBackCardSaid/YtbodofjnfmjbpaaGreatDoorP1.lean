/- Plain arithmetic of the functions' models: no conditions but those that each theorem bears. -/
import Derived.Test.YtbodofjnfmjbpaaGreatDoorF1
import Derived.Test.YtbodofjnfmjbpaaGreatDoorF2
import Derived.Test.YtbodofjnfmjbpaaGreatDoorE2
import Derived.Test.YtbodofjnfmjbpaaGreatDoorF3
import Derived.Test.YtbodofjnfmjbpaaGreatDoorF4

namespace Go.Proofs.YtbodofjnfmjbpaaGreatDoor
open Go Eng
set_option linter.unusedVariables false
set_option linter.unusedSimpArgs false

theorem pow256 (i : Nat) : (2 : Nat) ^ (8 * i) = 256 ^ i := by rw [Nat.pow_mul]
theorem shr_spec (v i : Nat) (hi : i ≤ 7) : shrI .u64 (v : Int) (i64 (8 * (i : Int))) = some ((v / 256 ^ i : Nat) : Int) := by
  rw [i64_id (by omega)]
  simp only [shrI, IntKind.bits]
  rw [if_neg (by omega)]
  have : (8 * (i : Int)).toNat = 8 * i := by omega
  rw [this, Nat.min_eq_left (by omega), ← pow256, Int.fdiv_eq_ediv_of_nonneg _ (Int.pow_nonneg (by decide)), Int.natCast_ediv, Int.natCast_pow]
  rfl

theorem drop_set {α : Type} (l : List α) (i : Nat) (b : α) (hi : i < l.length) : (l.set i b).drop i = b :: l.drop (i + 1) := by
  apply List.ext_getElem?
  intro j
  rw [List.getElem?_drop]
  cases j with
  | zero => simp [hi]
  | succ j =>
    rw [List.getElem?_cons_succ, List.getElem?_drop, List.getElem?_set_ne (by omega)]
    congr 1; omega

theorem put_loop (v w : Nat) (hw : 1 ≤ w ∧ w ≤ 8) : ∀ (j i : Nat) (xs : List Int) (fuel : Nat), i + j = w → xs.length = w → j < fuel → xs.drop (w - i) = (beL i v).map (fun b => (b.toNat : Int)) →
    octets_Put.l3 w v w fuel i xs = some (be w v, 0)
  | 0, i, xs, 0, hij, hl, hf, hd => by omega
  | 0, i, xs, fuel + 1, hij, hl, hf, hd => by
    obtain rfl : i = w := by omega
    simp only [octets_Put.l3]
    rw [show decide ((i : Int) < (i : Int)) = false by simp]
    simp only [cond_false, octets_Put.k4]
    rw [show i - i = 0 by omega, List.drop_zero] at hd
    have : strOf i xs = some (be i v) := by
      unfold strOf
      rw [if_pos (by omega), List.take_of_length_le (by omega)]
      congr 1
      rw [hd]
      simp only [strOfNums, be, List.map_map]
      congr 1
      rw [show ((fun n : Int => UInt8.ofNat n.toNat) ∘ fun b : UInt8 => (b.toNat : Int)) = id by funext b; simp]
      simp
    rw [this]
    rfl
  | j + 1, i, xs, 0, hij, hl, hf, hd => by omega
  | j + 1, i, xs, fuel + 1, hij, hl, hf, hd => by
    simp only [octets_Put.l3]
    rw [show decide ((i : Int) < (w : Int)) = true by simp; omega]
    simp only [cond_true]
    rw [shr_spec v i (by omega), i64_id (n := (w : Int) - 1) (by omega), i64_id (n := (w : Int) - 1 - (i : Int)) (by omega), i64_id (n := (i : Int) + 1) (by omega)]
    have hg : ((w : Int) - 1 - (i : Int)).toNat = w - (i + 1) := by omega
    obtain ⟨x, hx⟩ : ∃ x, getL w xs ((w : Int) - 1 - (i : Int)) = some x := by
      unfold getL
      rw [if_pos (by omega), hg]
      exact ⟨_, List.getElem?_eq_getElem (by omega)⟩
    rw [hx]
    simp only [Option.bind_some]
    have := put_loop v w hw j (i + 1) (List.set xs (w - (i + 1)) (u8 ((v / 256 ^ i : Nat) : Int))) fuel (by omega) (by simpa using hl) (by omega) (by
      rw [drop_set _ _ _ (by omega)]
      simp only [beL, List.map_cons]
      rw [show w - (i + 1) + 1 = w - i by omega, hd]
      congr 1
      rw [u8_mod]
      simp)
    rw [hg]
    exact this

theorem put_spec (v w : Nat) (hw : 1 ≤ w ∧ w ≤ 8) (hv : v < 256 ^ w) (hv2 : v < 2 ^ 64) : octets_Put.f 2000 v w = some (be w v, 0) := by
  have hk : octets_Put.k2 w v 2000 false = some (be w v, 0) := by
    simp only [octets_Put.k2, cond_false]
    have : mkLen 1 w = some w := by
      unfold mkLen
      rw [if_pos (by omega)]
      simp
    rw [this, Option.bind_some]
    exact put_loop v w hw w 0 _ 2000 (by omega) (by simp) (by omega) (by simp [beL])
  simp only [octets_Put.f]
  rw [show ((decide ((w : Int) < 1)) || (decide ((w : Int) > 8))) = false by simp; omega]
  simp only [cond_false]
  by_cases h8 : w < 8
  · rw [show decide ((w : Int) < 8) = true by simp; omega]
    simp only [cond_true]
    rw [shr_spec v w (by omega), Option.bind_some, Nat.div_eq_of_lt hv]
    exact hk
  · rw [show decide ((w : Int) < 8) = false by simp; omega]
    simp only [cond_false]
    exact hk

/-! ### Get -/
theorem mul_or {a c : Nat} (ha : a < 72057594037927936) (hc : c < 256) : bOr .u64 (u64 ((a : Int) * 256)) (u64 (c : Int)) = ((a * 256 + c : Nat) : Int) := by
  rw [u64_id (by omega), u64_id (by omega)]
  have e : ((a : Int) * 256) = ((a * 256 : Nat) : Int) := by omega
  rw [e]
  have h1 : a * 256 < 2 ^ 64 := by omega
  have h2 : c < 2 ^ 64 := by omega
  have h3 := bOr_u64 h1 h2
  rw [h3]
  have h4 := or_add 8 (x := a) (y := c) (by omega)
  rw [show (2 : Nat) ^ 8 = 256 from rfl] at h4
  rw [h4]
theorem get_loop (r : ByteArray) (n : Nat) (hn : n ≤ 8) (hr : r.size = n) : ∀ (j i fuel : Nat), i + j = n → j < fuel → octets_Get.l1 n r fuel ((beV ((L r).take i) : Nat) : Int) i = some (((beV (L r) : Nat) : Int), 0)
  | 0, i, 0, hij, hf => by omega
  | 0, i, fuel + 1, hij, hf => by
    obtain rfl : i = n := by omega
    simp only [octets_Get.l1]
    rw [show decide ((i : Int) < (i : Int)) = false by simp]
    rw [List.take_of_length_le (by rw [L_length]; omega)]
    rfl
  | j + 1, i, 0, hij, hf => by omega
  | j + 1, i, fuel + 1, hij, hf => by
    simp only [octets_Get.l1]
    rw [show decide ((i : Int) < (n : Int)) = true by simp; omega]
    simp only [cond_true]
    have hlen : i < (L r).length := by rw [L_length]; omega
    have hidx : idxS r i = some (((L r)[i].toNat : Nat) : Int) := by
      unfold idxS
      rw [if_pos (by omega)]
      have : (r.data[(i : Int).toNat]?) = some (L r)[i] := by
        rw [← Array.getElem?_toList]
        exact List.getElem?_eq_getElem hlen
      rw [this]; rfl
    rw [hidx, Option.bind_some]
    have ht : (L r).take (i + 1) = (L r).take i ++ [(L r)[i]] := by rw [List.take_append_getElem]
    have hb := beV_lt ((L r).take i)
    rw [List.length_take, Nat.min_eq_left (by omega)] at hb
    have hp : 256 ^ i ≤ 256 ^ 7 := Nat.pow_le_pow_right (by decide) (by omega)
    have h7 : (256 : Nat) ^ 7 = 72057594037927936 := by decide
    have hc := (L r)[i].toNat_lt
    have hval : beV ((L r).take (i + 1)) = beV ((L r).take i) * 256 + (L r)[i].toNat := by
      rw [ht]
      show List.foldl _ 0 (_ ++ _) = _
      rw [List.foldl_append]
      rfl
    have hstep := mul_or (a := beV ((L r).take i)) (c := (L r)[i].toNat) (by omega) (by omega)
    rw [← hval] at hstep
    rw [hstep, i64_id (by omega)]
    have := get_loop r n hn hr j (i + 1) fuel (by omega) (by omega)
    exact this

theorem part_in (s : ByteArray) (o n : Nat) (h : o + n ≤ s.size) (hs : s.size ≤ 140737488351232) : octets_part.f s o n = some (s.extract o (o + n), none) := by
  simp only [octets_part.f]
  rw [show ((decide ((o : Int) < 0)) || (decide ((n : Int) < 0))) = false by simp]
  simp only [cond_false]
  rw [i64_id (by omega), i64_id (by omega)]
  rw [show ((decide ((o : Int) > (s.size : Int))) || (decide ((n : Int) > (s.size : Int) - (o : Int)))) = false by simp; omega]
  simp only [cond_false]
  rw [sliceS_eq (by omega)]
  rfl
theorem part_out (s : ByteArray) (o n : Nat) (h : s.size < o + n) (hs : s.size ≤ 140737488351232) : octets_part.f s o n = some ((⟨#[]⟩ : ByteArray), some ((o : Int), 10)) := by
  simp only [octets_part.f]
  rw [show ((decide ((o : Int) < 0)) || (decide ((n : Int) < 0))) = false by simp]
  simp only [cond_false]
  by_cases ho : s.size < o
  · rw [show decide ((o : Int) > (s.size : Int)) = true by simp; omega]
    rfl
  · rw [i64_id (by omega)]
    rw [show ((decide ((o : Int) > (s.size : Int))) || (decide ((n : Int) > (s.size : Int) - (o : Int)))) = true by simp; omega]
    rfl

theorem get_in (s : ByteArray) (o n : Nat) (hn : 1 ≤ n ∧ n ≤ 8) (h : o + n ≤ s.size) (hs : s.size ≤ 140737488351232) : octets_Get.f 2000 s o n = some (((beV (((L s).drop o).take n) : Nat) : Int), 0) := by
  simp only [octets_Get.f]
  rw [show ((decide ((n : Int) < 1)) || (decide ((n : Int) > 8))) = false by simp; omega]
  simp only [cond_false]
  rw [part_in s o n h hs, Option.bind_some]
  have e : L (s.extract o (o + n)) = ((L s).drop o).take n := by rw [L_extract]; congr 1; omega
  have hz : (s.extract o (o + n)).size = n := by rw [← L_length, e]; simp [L_length]; omega
  have := get_loop (s.extract o (o + n)) n (by omega) hz n 0 2000 (by omega) (by omega)
  rw [e] at this
  exact this
theorem get_out (s : ByteArray) (o n : Nat) (hn : 1 ≤ n ∧ n ≤ 8) (h : s.size < o + n) (hs : s.size ≤ 140737488351232) : octets_Get.f 2000 s o n = some (0, 10) := by
  simp only [octets_Get.f]
  rw [show ((decide ((n : Int) < 1)) || (decide ((n : Int) > 8))) = false by simp; omega]
  simp only [cond_false]
  rw [part_out s o n h hs, Option.bind_some]
  rfl
end Go.Proofs.YtbodofjnfmjbpaaGreatDoor

namespace Go.Proofs.YtbodofjnfmjbpaaGreatDoor
open Go Eng
set_option linter.unusedVariables false
set_option linter.unusedSimpArgs false

def tag0 : api_Tag := ⟨false, 0, false, 0⟩
def frame0 : api_Frame := ⟨0, 0, tag0, 0, ⟨#[]⟩⟩

structure Good (a : api_Frame) : Prop where
  dst : 0 ≤ a.Dst ∧ a.Dst < 281474976710656
  src : 0 ≤ a.Src ∧ a.Src < 281474976710656
  bare : a.Tag.Has = false → a.Tag = tag0
  tag : a.Tag.Has = true → 0 ≤ a.Tag.Pri ∧ a.Tag.Pri < 8 ∧ 0 ≤ a.Tag.Vid ∧ a.Tag.Vid < 4096
  type : (a.Type_ = 0 ∧ a.Body.size ≤ 1500) ∨ (1536 ≤ a.Type_ ∧ a.Type_ ≤ 65535 ∧ a.Type_ ≠ 33024)
  size : 14 + a.Body.size + (if a.Tag.Has then 4 else 0) ≤ 1600

theorem size_spec (a : api_Frame) (hb : a.Body.size ≤ 140737488351232) : ether_size.f a = some (((14 + a.Body.size + (if a.Tag.Has then 4 else 0) : Nat) : Int)) := by
  unfold ether_size.f ether_size.k1
  rw [i64_id (n := 14 + (a.Body.size : Int)) (by omega), i64_id (by omega)]
  cases a.Tag.Has <;> simp <;> omega

theorem tag_spec (t : api_Tag) : ∃ b, ether_tag.f t = some b ∧ (b = true ↔ ((t.Has = false → t = tag0) ∧ (t.Has = true → 0 ≤ t.Pri ∧ t.Pri < 8 ∧ 0 ≤ t.Vid ∧ t.Vid < 4096))) := by
  obtain ⟨h, p, d, v⟩ := t
  unfold ether_tag.f
  cases h
  · refine ⟨_, rfl, ?_⟩
    simp [tag0]
  · refine ⟨_, rfl, ?_⟩
    simp [and_assoc]

theorem check_spec (a : api_Frame) (h1 : 0 ≤ a.Dst) (h2 : 0 ≤ a.Src) (hb : a.Body.size ≤ 140737488351232) : ∃ c, ether_Check.f a = some c ∧ (c = 0 ↔ Good a) := by
  have hk1 : ∃ c, ether_Check.k1 a true = some c ∧ c ≠ 0 := ⟨41, rfl, by decide⟩
  have hk2 : ether_Check.k2 a true = ether_Check.k1 a true := rfl
  unfold ether_Check.f
  by_cases hd : a.Dst < 281474976710656 ∧ a.Src < 281474976710656
  · rw [show ((decide (a.Dst ≥ 281474976710656)) || (decide (a.Src ≥ 281474976710656))) = false by simp; omega]
    simp only [cond_false]
    obtain ⟨b, hb1, hb2⟩ := tag_spec a.Tag
    rw [hb1, Option.bind_some]
    cases b
    · refine ⟨41, rfl, ⟨fun h => (by cases h), fun g => ?_⟩⟩
      have := hb2.2 ⟨g.bare, g.tag⟩
      cases this
    · have ht := hb2.1 rfl
      simp only [Bool.not_true, ether_Check.k2, cond_false]
      by_cases hty : a.Type_ = 0 ∨ (1536 ≤ a.Type_ ∧ a.Type_ ≤ 65535 ∧ a.Type_ ≠ 33024)
      · rw [show ((a.Type_ != 0) && (!(((decide (a.Type_ ≥ 1536)) && (decide (a.Type_ ≤ 65535))) && (a.Type_ != 33024)))) = false by
          rcases hty with h | ⟨x, y, z⟩
          · simp [h]
          · simp [x, y, z]]
        simp only [ether_Check.k1, cond_false]
        by_cases hs : a.Type_ = 0 ∧ 1500 < a.Body.size
        · rw [show ((a.Type_ == 0) && (decide ((a.Body.size : Int) > 1500))) = true by simp [hs.1]; omega]
          refine ⟨40, rfl, ⟨fun h => (by cases h), fun g => ?_⟩⟩
          rcases g.type with h | h <;> omega
        · rw [show ((a.Type_ == 0) && (decide ((a.Body.size : Int) > 1500))) = false by simp; omega]
          simp only [cond_false]
          rw [size_spec a hb, Option.bind_some]
          by_cases hz : 14 + a.Body.size + (if a.Tag.Has then 4 else 0) ≤ 1600
          · rw [show decide ((((14 + a.Body.size + (if a.Tag.Has then 4 else 0) : Nat) : Int)) > 1600) = false by simp only [decide_eq_false_iff_not]; omega]
            refine ⟨0, rfl, ⟨fun _ => ⟨⟨h1, hd.1⟩, ⟨h2, hd.2⟩, ht.1, ht.2, ?_, hz⟩, fun _ => rfl⟩⟩
            rcases hty with h | h
            · exact .inl ⟨h, by omega⟩
            · exact .inr h
          · rw [show decide ((((14 + a.Body.size + (if a.Tag.Has then 4 else 0) : Nat) : Int)) > 1600) = true by simp only [decide_eq_true_eq]; omega]
            exact ⟨41, rfl, ⟨fun h => (by cases h), fun g => absurd g.size hz⟩⟩
      · rw [show ((a.Type_ != 0) && (!(((decide (a.Type_ ≥ 1536)) && (decide (a.Type_ ≤ 65535))) && (a.Type_ != 33024)))) = true by
          simp; omega]
        refine ⟨41, rfl, ⟨fun h => (by cases h), fun g => ?_⟩⟩
        rcases g.type with h | h <;> omega
  · rw [show ((decide (a.Dst ≥ 281474976710656)) || (decide (a.Src ≥ 281474976710656))) = true by simp; omega]
    refine ⟨41, rfl, ⟨fun h => (by cases h), fun g => ?_⟩⟩
    exact absurd ⟨g.dst.2, g.src.2⟩ hd

/-! ### Build -/
def infoN (t : api_Tag) : Nat := t.Pri.toNat * 8192 + ((if t.Dei then 4096 else 0) + t.Vid.toNat)
def tagL (t : api_Tag) : List UInt8 := if t.Has then beL 2 33024 ++ beL 2 (infoN t) else []
def typeN (a : api_Frame) : Nat := if a.Type_ = 0 then a.Body.size else a.Type_.toNat
def frameL (a : api_Frame) : List UInt8 := beL 6 a.Dst.toNat ++ (beL 6 a.Src.toNat ++ (tagL a.Tag ++ (beL 2 (typeN a) ++ L a.Body)))

theorem eput (v wi : Int) (w : Nat) (hwi : wi = (w : Int)) (hw : 1 ≤ w ∧ w ≤ 8) (h0 : 0 ≤ v) (hv : v < ((256 ^ w : Nat) : Int)) (hv2 : v < 18446744073709551616) : ether_put.f 2000 v wi = some (be w v.toNat) := by
  subst hwi
  have : v = ((v.toNat : Nat) : Int) := by omega
  unfold ether_put.f
  have h := put_spec v.toNat w hw (by omega) (by omega)
  rw [← this] at h
  rw [h]
  rfl

theorem info_spec (t : api_Tag) (h : 0 ≤ t.Pri ∧ t.Pri < 8 ∧ 0 ≤ t.Vid ∧ t.Vid < 4096) : ether_info.f t = some ((infoN t : Nat) : Int) ∧ infoN t < 65536 := by
  obtain ⟨ha, p, d, v⟩ := t
  obtain ⟨p, rfl⟩ : ∃ n : Nat, p = n := ⟨p.toNat, by simp only at h; omega⟩
  obtain ⟨v, rfl⟩ : ∃ n : Nat, v = n := ⟨v.toNat, by simp only at h; omega⟩
  simp only at h
  have e1 : bOr .i64 (i64 ((p : Int) * 8192)) (v : Int) = ((p * 8192 + v : Nat) : Int) := by
    rw [i64_id (by omega)]
    have e : ((p : Int) * 8192) = ((p * 8192 : Nat) : Int) := by omega
    rw [e, bOr_i64 (show p * 8192 < 2 ^ 63 by omega) (show v < 2 ^ 63 by omega)]
    have h4 := or_add 13 (x := p) (y := v) (by omega)
    rw [show (2 : Nat) ^ 13 = 8192 from rfl] at h4
    rw [h4]
  unfold ether_info.f
  cases d
  · simp only [cond_false, e1, ether_info.k1]
    rw [u64_id (by omega)]
    simp only [infoN]
    refine ⟨by simp, by simp; omega⟩
  · simp only [cond_true, e1, ether_info.k1]
    have e2 : bOr .i64 ((p * 8192 + v : Nat) : Int) 4096 = ((p * 8192 + (4096 + v) : Nat) : Int) := by
      have h1 := bOr_i64 (show p * 8192 + v < 2 ^ 63 by omega) (show 4096 < 2 ^ 63 by decide)
      rw [show ((4096 : Nat) : Int) = 4096 from rfl] at h1
      rw [h1]
      have a1 := or_add 13 (x := p) (y := v) (by omega)
      have a2 := or_add 12 (x := 1) (y := v) (by omega)
      have a3 := or_add 13 (x := p) (y := 4096 + v) (by omega)
      rw [show (2 : Nat) ^ 13 = 8192 from rfl] at a1 a3
      rw [show 1 * (2 : Nat) ^ 12 = 4096 from rfl] at a2
      rw [← a1, Nat.or_assoc, Nat.or_comm v 4096, a2, a3]
    rw [e2, u64_id (by omega)]
    simp only [infoN]
    refine ⟨by simp, by simp; omega⟩

theorem build_good (a : api_Frame) (g : Good a) : ether_Build.f 2000 a = some (⟨(frameL a).toArray⟩, 0) := by
  have hbs : a.Body.size ≤ 1600 := by have := g.size; omega
  obtain ⟨c, hc, hc0⟩ := check_spec a g.dst.1 g.src.1 (by omega)
  have : c = 0 := hc0.2 g
  subst this
  unfold ether_Build.f
  rw [hc, Option.bind_some]
  rw [show ((0 : Int) != 0) = false from rfl]
  simp only [cond_false]
  rw [eput a.Dst 6 6 rfl (by omega) g.dst.1 (by have := g.dst.2; simpa using this) (by have := g.dst.2; omega), Option.bind_some]
  rw [eput a.Src 6 6 rfl (by omega) g.src.1 (by have := g.src.2; simpa using this) (by have := g.src.2; omega), Option.bind_some]
  rw [catS_eq (by simp [be_size]), Option.bind_some]
  -- the rest, behind the tag
  have k1 : ∀ (x : ByteArray) (z : Int), x.size ≤ 100 → z = ((typeN a : Nat) : Int) → ether_Build.k1 2000 x a z = some (⟨(L x ++ (beL 2 (typeN a) ++ L a.Body)).toArray⟩, 0) := fun x z hx hz => by
    have hz2 : z < 65536 := by
      rw [hz]
      rcases g.type with h | h
      · simp only [typeN, h.1, if_true]; omega
      · simp only [typeN]; rw [if_neg (by omega)]; omega
    unfold ether_Build.k1
    rw [u64_id (by omega), eput z 2 2 rfl (by omega) (by omega) (by simpa using hz2) (by omega), Option.bind_some]
    have e : z.toNat = typeN a := by omega
    rw [e, catS_eq (by simp [be_size]; omega), Option.bind_some, catS_eq (by simp [be_size]; omega), Option.bind_some]
    refine congrArg (fun z => some (z, (0 : Int))) (L_inj (Eq.trans ?_ (L_mk _).symm))
    rw [L_append, L_append, L_be, List.append_assoc]
  have k2 : ∀ (x : ByteArray), x.size ≤ 100 → ether_Build.k2 a 2000 x = some (⟨(L x ++ (beL 2 (typeN a) ++ L a.Body)).toArray⟩, 0) := fun x hx => by
    unfold ether_Build.k2
    by_cases ht : a.Type_ = 0
    · rw [show (a.Type_ == 0) = true by simp [ht]]
      exact k1 x _ hx (by simp [typeN, ht])
    · rw [show (a.Type_ == 0) = false by simp [ht]]
      refine k1 x _ hx ?_
      rcases g.type with h | h
      · exact absurd h.1 ht
      · simp only [typeN]; rw [if_neg ht]; omega
  cases hh : a.Tag.Has
  · simp only [cond_false]
    rw [k2 _ (by simp [be_size])]
    refine congrArg (fun z => some (z, (0 : Int))) (L_inj (Eq.trans (L_mk _) (Eq.trans ?_ (L_mk _).symm)))
    rw [L_append, L_be, L_be]
    simp [frameL, tagL, hh]
  · simp only [cond_true]
    obtain ⟨hi, hi2⟩ := info_spec a.Tag (g.tag hh)
    rw [eput 33024 2 2 rfl (by omega) (by omega) (by decide) (by omega), Option.bind_some, hi, Option.bind_some, eput _ 2 2 rfl (by omega) (by omega) (Int.ofNat_lt.2 (by simpa using hi2)) (by omega), Option.bind_some]
    rw [catS_eq (by simp [be_size]), Option.bind_some, catS_eq (by simp [be_size]), Option.bind_some, k2 _ (by simp [be_size])]
    refine congrArg (fun z => some (z, (0 : Int))) (L_inj (Eq.trans (L_mk _) (Eq.trans ?_ (L_mk _).symm)))
    rw [L_append, L_append, L_append, L_be, L_be, L_be, L_be]
    simp [frameL, tagL, hh]

theorem build_bad (a : api_Frame) (h1 : 0 ≤ a.Dst) (h2 : 0 ≤ a.Src) (hb : a.Body.size ≤ 140737488351232) (g : ¬ Good a) : ∃ c, c ≠ 0 ∧ ether_Check.f a = some c ∧ ether_Build.f 2000 a = some (⟨#[]⟩, c) := by
  obtain ⟨c, hc, hc0⟩ := check_spec a h1 h2 hb
  have hne : c ≠ 0 := fun h => g (hc0.1 h)
  refine ⟨c, hne, hc, ?_⟩
  unfold ether_Build.f
  rw [hc, Option.bind_some, show (c != 0) = true by simp [hne]]
  rfl
end Go.Proofs.YtbodofjnfmjbpaaGreatDoor

namespace Go.Proofs.YtbodofjnfmjbpaaGreatDoor
open Go Eng
set_option linter.unusedVariables false
set_option linter.unusedSimpArgs false

theorem rget_in (s : ByteArray) (o n : Nat) (oi ni : Int) (ho : oi = o) (hni : ni = n) (nm : ByteArray) (hn : 1 ≤ n ∧ n ≤ 8) (h : o + n ≤ s.size) (hs : s.size ≤ 1600) :
    ether_reader_get.f 2000 ⟨s, oi⟩ ni nm = some (((beV (((L s).drop o).take n) : Nat) : Int), none, ⟨s, ((o + n : Nat) : Int)⟩) := by
  subst ho; subst hni
  unfold ether_reader_get.f
  simp only
  rw [get_in s o n hn h (by omega), Option.bind_some]
  simp only [bne_self_eq_false, cond_false]
  rw [i64_id (by omega)]
  rfl
theorem rget_out (s : ByteArray) (o n : Nat) (oi ni : Int) (ho : oi = o) (hni : ni = n) (nm : ByteArray) (hn : 1 ≤ n ∧ n ≤ 8) (h : s.size < o + n) (hs : s.size ≤ 1600) :
    ether_reader_get.f 2000 ⟨s, oi⟩ ni nm = some (0, some (nm, 40), ⟨s, oi⟩) := by
  subst ho; subst hni
  unfold ether_reader_get.f
  simp only
  rw [get_out s o n hn h (by omega), Option.bind_some]
  rfl

/-- What the reader ends with, as a Parse: the frame, or why there is none. -/
def ends (x : api_Frame × Un1 × ether_reader) : api_Frame × Int := match x.2.1 with
  | none => (x.1, 0)
  | some (_, e) => (frame0, e)

theorem parse_of (s : ByteArray) (hs : s.size ≤ 1600) (x : api_Frame × Un1 × ether_reader) (h : ether_reader_frame.f 2000 ⟨s, 0⟩ = some x) : ether_Parse.f 2000 s = some (ends x) := by
  unfold ether_Parse.f
  rw [show decide ((s.size : Int) > 1600) = false by simp; omega]
  simp only [cond_false]
  rw [h, Option.bind_some]
  obtain ⟨g, u, r⟩ := x
  rcases u with _ | ⟨q, e⟩
  · rfl
  · simp only [ends]
    by_cases he : e = 40
    · subst he; rfl
    · have h1 : errors_Is_1.f q e 40 = some false := by
        unfold errors_Is_1.f errors_is.f ether_odd_Unwrap.f
        rw [Option.bind_some]
        rw [show (true && (e == 40)) = false by simp [he]]
        rfl
      rw [h1, Option.bind_some]
      rfl

/-- The number behind the two addresses (and the tag). -/
def bodyR (s : ByteArray) (p : Nat) (a : api_Frame) (n : Nat) : api_Frame × Int :=
  if n = 33024 ∨ (1500 < n ∧ n < 1536) then (frame0, 41)
  else if 1500 < n then (⟨a.Dst, a.Src, a.Tag, n, s.extract p s.size⟩, 0)
  else if s.size < p + n then (frame0, 40)
  else (⟨a.Dst, a.Src, a.Tag, a.Type_, (s.extract p s.size).extract 0 n⟩, 0)

theorem body_spec (s : ByteArray) (p n : Nat) (pi ni : Int) (hpi : pi = p) (hni : ni = n) (a : api_Frame) (hp : p ≤ s.size) (hs : s.size ≤ 1600) (r : ether_reader) :
    ∃ u g, ether_reader_body.f ⟨s, pi⟩ a ni = some (u, g) ∧ ends (g, u, r) = bodyR s p a n := by
  subst hpi; subst hni
  unfold ether_reader_body.f
  simp only
  rw [sliceS_eq (by omega), Option.bind_some]
  simp only [Int.toNat_natCast]
  have hz : (s.extract p s.size).size = s.size - p := by simp
  by_cases h1 : n = 33024
  · subst h1
    refine ⟨_, _, rfl, ?_⟩
    simp [ends, bodyR]
  · rw [show (((n : Int)) == 33024) = false by simp; omega]
    simp only [cond_false]
    by_cases h2 : 1500 < n ∧ n < 1536
    · rw [show ((decide ((n : Int) > 1500)) && (decide ((n : Int) < 1536))) = true by simp; omega]
      refine ⟨_, _, rfl, ?_⟩
      simp [ends, bodyR, h2]
    · rw [show ((decide ((n : Int) > 1500)) && (decide ((n : Int) < 1536))) = false by simp; omega]
      simp only [ether_reader_body.k1, cond_false]
      by_cases h3 : 1500 < n
      · rw [show decide ((n : Int) > 1500) = true by simp; omega]
        refine ⟨_, _, rfl, ?_⟩
        simp only [ends, bodyR]
        rw [if_neg (by omega), if_pos h3]
      · rw [show decide ((n : Int) > 1500) = false by simp; omega]
        simp only [cond_false]
        by_cases h4 : s.size < p + n
        · rw [show decide ((n : Int) > ((s.extract p s.size).size : Int)) = true by rw [hz]; simp; omega]
          refine ⟨_, _, rfl, ?_⟩
          simp only [ends, bodyR]
          rw [if_neg (by omega), if_neg h3, if_pos h4]
        · rw [show decide ((n : Int) > ((s.extract p s.size).size : Int)) = false by rw [hz]; simp; omega]
          simp only [cond_false]
          rw [sliceS_eq (by rw [hz]; omega), Option.bind_some]
          refine ⟨_, _, rfl, ?_⟩
          simp only [ends, bodyR]
          rw [if_neg (by omega), if_neg h3, if_neg h4]
          rfl

theorem k1_spec (s : ByteArray) (p n : Nat) (pi ni d e : Int) (hpi : pi = p) (hni : ni = n) (t : api_Tag) (hp : p ≤ s.size) (hs : s.size ≤ 1600) :
    ∃ x, ether_reader_frame.k1 none ni s pi d e t.Has t.Pri t.Dei t.Vid 0 ⟨#[]⟩ = some x ∧ ends x = bodyR s p ⟨d, e, t, 0, ⟨#[]⟩⟩ n := by
  obtain ⟨u, g, h, he⟩ := body_spec s p n pi ni hpi hni ⟨d, e, t, 0, ⟨#[]⟩⟩ hp hs ⟨s, pi⟩
  unfold ether_reader_frame.k1
  simp only
  rw [h, Option.bind_some]
  rcases u with _ | ⟨q, w⟩
  · exact ⟨_, rfl, he⟩
  · exact ⟨_, rfl, he⟩

def at2 (s : ByteArray) (o n : Nat) : Nat := beV (((L s).drop o).take n)
def tagOf (v : Nat) : api_Tag := ⟨true, ((v / 8192 : Nat) : Int), decide (v / 4096 % 2 = 1), ((v % 4096 : Nat) : Int)⟩

/-- Parse, in plain words. -/
def parseR (s : ByteArray) : api_Frame × Int :=
  if 1600 < s.size then (frame0, 41)
  else if s.size < 14 then (frame0, 40)
  else if at2 s 12 2 = 33024 then
    (if s.size < 18 then (frame0, 40) else bodyR s 18 ⟨(at2 s 0 6 : Nat), (at2 s 6 6 : Nat), tagOf (at2 s 14 2), 0, ⟨#[]⟩⟩ (at2 s 16 2))
  else bodyR s 14 ⟨(at2 s 0 6 : Nat), (at2 s 6 6 : Nat), tag0, 0, ⟨#[]⟩⟩ (at2 s 12 2)

theorem at2_lt (s : ByteArray) (o n : Nat) : at2 s o n < 256 ^ n := by
  refine Nat.lt_of_lt_of_le (beV_lt _) (Nat.pow_le_pow_right (by decide) ?_)
  rw [List.length_take]; omega

theorem tagOf_spec (v : Nat) (hv : v < 65536) : (⟨true, Int.fdiv (i64 (v : Int)) 8192, (bAnd .i64 (i64 (v : Int)) 4096) != 0, Int.tmod (i64 (v : Int)) 4096⟩ : api_Tag) = tagOf v := by
  rw [i64_id (by omega), bAnd_4096 (by omega)]
  unfold tagOf
  have e1 : Int.fdiv (v : Int) 8192 = ((v / 8192 : Nat) : Int) := by
    rw [Int.fdiv_eq_ediv_of_nonneg _ (by decide)]; omega
  have e2 : Int.tmod (v : Int) 4096 = ((v % 4096 : Nat) : Int) := by
    rw [Int.tmod_eq_emod_of_nonneg (by omega)]; omega
  have e3 : ((((v / 4096 % 2) * 4096 : Nat) : Int) != 0) = decide (v / 4096 % 2 = 1) := by
    rcases Nat.mod_two_eq_zero_or_one (v / 4096) with h | h <;> simp [h]
  rw [e1, e2, e3]

theorem parse_spec (s : ByteArray) : ether_Parse.f 2000 s = some (parseR s) := by
  by_cases hs : 1600 < s.size
  · unfold ether_Parse.f parseR
    rw [if_pos hs, show decide ((s.size : Int) > 1600) = true by simp; omega]
    rfl
  · have hs' : s.size ≤ 1600 := by omega
    suffices h : ∃ x, ether_reader_frame.f 2000 ⟨s, 0⟩ = some x ∧ ends x = parseR s by
      obtain ⟨x, h1, h2⟩ := h
      rw [parse_of s hs' x h1, h2]
    unfold ether_reader_frame.f
    by_cases h6 : s.size < 6
    · rw [rget_out s 0 6 0 6 rfl rfl _ (by omega) (by omega) hs', Option.bind_some]
      refine ⟨_, rfl, ?_⟩
      simp only [ends, parseR]
      rw [if_neg hs, if_pos (by omega)]
    · rw [rget_in s 0 6 0 6 rfl rfl _ (by omega) (by omega) hs', Option.bind_some]
      simp only
      by_cases h12 : s.size < 12
      · rw [rget_out s 6 6 _ 6 rfl rfl _ (by omega) (by omega) hs', Option.bind_some]
        refine ⟨_, rfl, ?_⟩
        simp only [ends, parseR]
        rw [if_neg hs, if_pos (by omega)]
      · rw [rget_in s 6 6 _ 6 rfl rfl _ (by omega) (by omega) hs', Option.bind_some]
        simp only
        by_cases h14 : s.size < 14
        · rw [rget_out s 12 2 _ 2 rfl rfl _ (by omega) (by omega) hs', Option.bind_some]
          refine ⟨_, rfl, ?_⟩
          simp only [ends, parseR]
          rw [if_neg hs, if_pos h14]
        · rw [rget_in s 12 2 _ 2 rfl rfl _ (by omega) (by omega) hs', Option.bind_some]
          simp only
          have h2 := at2_lt s 12 2
          have hi : i64 ((beV (((L s).drop 12).take 2) : Nat) : Int) = ((at2 s 12 2 : Nat) : Int) := i64_id (by unfold at2 at h2; omega)
          rw [hi]
          unfold parseR
          rw [if_neg hs, if_neg h14]
          by_cases h81 : at2 s 12 2 = 33024
          · rw [if_pos h81, h81, show (((33024 : Nat) : Int) == 33024) = true from rfl]
            simp only [cond_true]
            unfold ether_reader_tagged.f
            by_cases h16 : s.size < 16
            · rw [rget_out s 14 2 _ 2 rfl rfl _ (by omega) (by omega) hs', Option.bind_some]
              refine ⟨_, rfl, ?_⟩
              rw [if_pos (by omega)]
              rfl
            · rw [rget_in s 14 2 _ 2 rfl rfl _ (by omega) (by omega) hs', Option.bind_some]
              simp only
              by_cases h18 : s.size < 18
              · rw [rget_out s 16 2 _ 2 rfl rfl _ (by omega) (by omega) hs', Option.bind_some]
                refine ⟨_, rfl, ?_⟩
                rw [if_pos h18]
                rfl
              · rw [rget_in s 16 2 _ 2 rfl rfl _ (by omega) (by omega) hs', Option.bind_some, if_neg h18]
                simp only [Option.bind_some]
                have ht := tagOf_spec (at2 s 14 2) (at2_lt s 14 2)
                have e16 := at2_lt s 16 2
                rw [← ht]
                exact k1_spec s 18 (at2 s 16 2) _ _ _ _ rfl (i64_id (by omega)) (⟨true, Int.fdiv (i64 ((at2 s 14 2 : Nat) : Int)) 8192, (bAnd .i64 (i64 ((at2 s 14 2 : Nat) : Int)) 4096) != 0, Int.tmod (i64 ((at2 s 14 2 : Nat) : Int)) 4096⟩ : api_Tag) (by omega) hs'
          · rw [if_neg h81, show ((((at2 s 12 2 : Nat) : Int)) == 33024) = false by simp; omega]
            simp only [cond_false]
            exact k1_spec s 14 (at2 s 12 2) _ _ _ _ rfl rfl tag0 (by omega) hs'
end Go.Proofs.YtbodofjnfmjbpaaGreatDoor

namespace Go.Proofs.YtbodofjnfmjbpaaGreatDoor
open Go Eng
set_option linter.unusedVariables false
set_option linter.unusedSimpArgs false

theorem at2_app (s : ByteArray) (o n v : Nat) (pre post : List UInt8) (h : L s = pre ++ (beL n v ++ post)) (hp : pre.length = o) (hv : v < 256 ^ n) : at2 s o n = v := by
  unfold at2
  rw [h, ← hp, List.drop_left, List.take_append_of_le_length (by rw [beL_length]; exact Nat.le_refl _), List.take_of_length_le (by rw [beL_length]; exact Nat.le_refl _), beV_beL, Nat.mod_eq_of_lt hv]

theorem beL_at2 (s : ByteArray) (o n : Nat) (h : o + n ≤ s.size) : beL n (at2 s o n) = ((L s).drop o).take n := by
  have := beL_beV (((L s).drop o).take n)
  rw [List.length_take, List.length_drop, L_length, Nat.min_eq_left (by omega)] at this
  exact this
theorem drop_split (s : ByteArray) (o n : Nat) (h : o + n ≤ s.size) : (L s).drop o = beL n (at2 s o n) ++ (L s).drop (o + n) := by
  rw [beL_at2 s o n h, ← List.drop_drop, List.take_append_drop]

/-! ### What is built is parsed as it was -/
def more (g : api_Frame) (rest : List UInt8) : api_Frame := ⟨g.Dst, g.Src, g.Tag, g.Type_, if g.Type_ = 0 then g.Body else ⟨(L g.Body ++ rest).toArray⟩⟩

theorem L_drop (s : ByteArray) (p : Nat) : L (s.extract p s.size) = (L s).drop p := by
  rw [L_extract, List.take_of_length_le (by rw [List.length_drop, L_length]; exact Nat.le_refl _)]

theorem frame_eq {d e t t' : Int} {g : api_Tag} {b b' : ByteArray} (ht : t = t') (hb : L b = L b') : ((⟨d, e, g, t, b⟩ : api_Frame), (0 : Int)) = (⟨d, e, g, t', b'⟩, 0) := by
  subst ht
  rw [L_inj hb]

theorem bodyR_app (s : ByteArray) (p : Nat) (g : api_Frame) (hg : Good g) (rest : List UInt8) (h : (L s).drop p = L g.Body ++ rest) (hp : p ≤ s.size) : bodyR s p ⟨g.Dst, g.Src, g.Tag, 0, ⟨#[]⟩⟩ (typeN g) = (more g rest, 0) := by
  have hl := congrArg List.length h
  rw [List.length_drop, L_length, List.length_append, L_length] at hl
  unfold bodyR typeN more
  rcases hg.type with ht | ht
  · rw [if_pos ht.1, if_neg (by omega), if_neg (by omega), if_neg (by omega), if_pos ht.1]
    refine frame_eq ht.1.symm ?_
    show L (ByteArray.extract _ 0 g.Body.size) = _
    rw [L_extract, L_drop, h, List.drop_zero, Nat.sub_zero, ← L_length, List.take_left]
  · have hne : g.Type_ ≠ 0 := by omega
    simp only [if_neg hne]
    rw [if_neg (by omega), if_pos (by omega)]
    refine frame_eq ?_ ?_
    · show ((g.Type_.toNat : Nat) : Int) = g.Type_
      omega
    · show L (ByteArray.extract _ _ _) = L _
      rw [L_drop, h]
      rfl

theorem parse_build (g : api_Frame) (hg : Good g) (s : ByteArray) (rest : List UInt8) (h : L s = frameL g ++ rest) (hs : s.size ≤ 1600) : parseR s = (more g rest, 0) := by
  have hl := congrArg List.length h
  have hd := hg.dst
  have hsr := hg.src
  have e256 : (256 : Nat) ^ 6 = 281474976710656 := by decide
  have e2562 : (256 : Nat) ^ 2 = 65536 := by decide
  have hty : typeN g < 65536 := by
    unfold typeN
    rcases hg.type with ht | ht
    · rw [if_pos ht.1]; omega
    · rw [if_neg (by omega)]; omega
  have h0 : L s = [] ++ (beL 6 g.Dst.toNat ++ (beL 6 g.Src.toNat ++ (tagL g.Tag ++ (beL 2 (typeN g) ++ L g.Body)) ++ rest)) := by rw [h]; simp [frameL]
  have a0 := at2_app s 0 6 g.Dst.toNat [] _ h0 rfl (by omega)
  have h6 : L s = beL 6 g.Dst.toNat ++ (beL 6 g.Src.toNat ++ (tagL g.Tag ++ (beL 2 (typeN g) ++ L g.Body) ++ rest)) := by rw [h]; simp [frameL]
  have a6 := at2_app s 6 6 g.Src.toNat _ _ h6 (by rw [beL_length]) (by omega)
  rw [L_length, List.length_append] at hl
  unfold parseR
  rw [if_neg (by omega)]
  cases hh : g.Tag.Has
  · have hfl : (frameL g).length = 14 + g.Body.size := by simp [frameL, tagL, hh, beL_length, L_length]; omega
    have h12 : L s = (beL 6 g.Dst.toNat ++ beL 6 g.Src.toNat) ++ (beL 2 (typeN g) ++ (L g.Body ++ rest)) := by rw [h]; simp [frameL, tagL, hh]
    have a12 := at2_app s 12 2 (typeN g) _ _ h12 (by simp [beL_length]) (by omega)
    have h14 : (L s).drop 14 = L g.Body ++ rest := by
      rw [h12, ← List.append_assoc]
      rw [show 14 = (beL 6 g.Dst.toNat ++ beL 6 g.Src.toNat ++ beL 2 (typeN g)).length by simp [beL_length], List.drop_left]
    rw [if_neg (by omega), a12, if_neg (by
      unfold typeN
      rcases hg.type with ht | ht
      · rw [if_pos ht.1]; omega
      · rw [if_neg (by omega)]; omega), a0, a6]
    have e1 : ((g.Dst.toNat : Nat) : Int) = g.Dst := by omega
    have e2 : ((g.Src.toNat : Nat) : Int) = g.Src := by omega
    rw [e1, e2, ← hg.bare hh]
    exact bodyR_app s 14 g hg rest h14 (by omega)
  · have hfl : (frameL g).length = 18 + g.Body.size := by simp [frameL, tagL, hh, beL_length, L_length]; omega
    obtain ⟨_, hi⟩ := info_spec g.Tag (hg.tag hh)
    have hti := hg.tag hh
    have h12 : L s = (beL 6 g.Dst.toNat ++ beL 6 g.Src.toNat) ++ (beL 2 33024 ++ (beL 2 (infoN g.Tag) ++ (beL 2 (typeN g) ++ (L g.Body ++ rest)))) := by rw [h]; simp [frameL, tagL, hh]
    have a12 := at2_app s 12 2 33024 _ _ h12 (by simp [beL_length]) (by omega)
    have h14 : L s = (beL 6 g.Dst.toNat ++ beL 6 g.Src.toNat ++ beL 2 33024) ++ (beL 2 (infoN g.Tag) ++ (beL 2 (typeN g) ++ (L g.Body ++ rest))) := by rw [h]; simp [frameL, tagL, hh]
    have a14 := at2_app s 14 2 (infoN g.Tag) _ _ h14 (by simp [beL_length]) (by omega)
    have h16 : L s = (beL 6 g.Dst.toNat ++ beL 6 g.Src.toNat ++ beL 2 33024 ++ beL 2 (infoN g.Tag)) ++ (beL 2 (typeN g) ++ (L g.Body ++ rest)) := by rw [h]; simp [frameL, tagL, hh]
    have a16 := at2_app s 16 2 (typeN g) _ _ h16 (by simp [beL_length]) (by omega)
    have h18 : (L s).drop 18 = L g.Body ++ rest := by
      rw [h16, ← List.append_assoc]
      rw [show 18 = (beL 6 g.Dst.toNat ++ beL 6 g.Src.toNat ++ beL 2 33024 ++ beL 2 (infoN g.Tag) ++ beL 2 (typeN g)).length by simp [beL_length], List.drop_left]
    rw [if_neg (by omega), a12, if_pos rfl, if_neg (by omega), a14, a16, a0, a6]
    have e1 : ((g.Dst.toNat : Nat) : Int) = g.Dst := by omega
    have e2 : ((g.Src.toNat : Nat) : Int) = g.Src := by omega
    have e3 : tagOf (infoN g.Tag) = g.Tag := by
      obtain ⟨D, S, ⟨th, tp, td, tv⟩, ty, bd⟩ := g
      simp only at hh hti
      subst hh
      simp only [tagOf, infoN]
      cases td
      · simp only [Bool.false_eq_true, if_false]
        congr 1
        · omega
        · simp; omega
        · omega
      · simp only [if_true]
        congr 1
        · omega
        · simp; omega
        · omega
    rw [e1, e2, e3]
    exact bodyR_app s 18 g hg rest h18 (by omega)

/-! ### What is parsed may be, and, built, is the beginning of the bytes -/
theorem bodyR_back (s : ByteArray) (hs : s.size ≤ 1600) (p n : Nat) (d e : Nat) (t : api_Tag) (hd : d < 281474976710656) (he : e < 281474976710656) (hb : t.Has = false → t = tag0)
    (ht : t.Has = true → 0 ≤ t.Pri ∧ t.Pri < 8 ∧ 0 ≤ t.Vid ∧ t.Vid < 4096) (hp : p = 14 + (if t.Has then 4 else 0)) (hps : p ≤ s.size) (hn : n < 65536)
    (h : L s = beL 6 d ++ (beL 6 e ++ (tagL t ++ (beL 2 n ++ (L s).drop p)))) (g : api_Frame) (c : Int) (hr : bodyR s p ⟨d, e, t, 0, ⟨#[]⟩⟩ n = (g, c)) :
    (c ≠ 0 ∧ g = frame0) ∨ (c = 0 ∧ Good g ∧ ∃ rest, L s = frameL g ++ rest ∧ (g.Type_ ≠ 0 → rest = [])) := by
  unfold bodyR at hr
  split at hr
  · injection hr with h1 h2
    exact .inl ⟨by omega, h1.symm⟩
  · next h1 =>
    split at hr
    · next h2 =>
      injection hr with e1 e2
      subst e1; subst e2
      have hsz : (s.extract p s.size).size = s.size - p := by simp
      refine .inr ⟨rfl, ⟨⟨by simp, by simp only; omega⟩, ⟨by simp, by simp only; omega⟩, hb, ht, .inr ⟨by simp only; omega, by simp only; omega, by simp only; omega⟩, ?_⟩, [], ?_, fun _ => rfl⟩
      · simp only [hsz]; omega
      · have : typeN ⟨d, e, t, n, s.extract p s.size⟩ = n := by
          unfold typeN
          simp only
          rw [if_neg (by omega)]
          omega
        rw [List.append_nil]
        conv => lhs; rw [h]
        simp only [frameL, this, L_drop, Int.toNat_natCast]
    · next h2 =>
      split at hr
      · injection hr with e1 e2
        exact .inl ⟨by omega, e1.symm⟩
      · next h3 =>
        injection hr with e1 e2
        subst e1; subst e2
        have hsz : ((s.extract p s.size).extract 0 n).size = n := by simp; omega
        have hL : L ((s.extract p s.size).extract 0 n) = ((L s).drop p).take n := by rw [L_extract, L_drop]; simp
        refine .inr ⟨rfl, ⟨⟨by simp, by simp only; omega⟩, ⟨by simp, by simp only; omega⟩, hb, ht, .inl ⟨rfl, by simp only [hsz]; omega⟩, ?_⟩, ((L s).drop p).drop n, ?_, fun h => absurd rfl h⟩
        · simp only [hsz]; omega
        · have : typeN ⟨d, e, t, 0, (s.extract p s.size).extract 0 n⟩ = n := by
            unfold typeN
            simp only [if_true]
            exact hsz
          conv => lhs; rw [h]
          simp only [frameL, this, hL, Int.toNat_natCast, List.append_assoc, List.take_append_drop]

theorem parse_back (s : ByteArray) (g : api_Frame) (c : Int) (h : parseR s = (g, c)) :
    (c ≠ 0 ∧ g = frame0) ∨ (c = 0 ∧ s.size ≤ 1600 ∧ Good g ∧ ∃ rest, L s = frameL g ++ rest ∧ (g.Type_ ≠ 0 → rest = [])) := by
  have e256 : (256 : Nat) ^ 6 = 281474976710656 := by decide
  have e2562 : (256 : Nat) ^ 2 = 65536 := by decide
  unfold parseR at h
  split at h
  · injection h with h1 h2
    exact .inl ⟨by omega, h1.symm⟩
  · next hs =>
    split at h
    · injection h with h1 h2
      exact .inl ⟨by omega, h1.symm⟩
    · next h14 =>
      have d0 := drop_split s 0 6 (by omega)
      have d6 := drop_split s 6 6 (by omega)
      have d12 := drop_split s 12 2 (by omega)
      rw [List.drop_zero] at d0
      have l0 := at2_lt s 0 6
      have l6 := at2_lt s 6 6
      split at h
      · next h81 =>
        split at h
        · injection h with h1 h2
          exact .inl ⟨by omega, h1.symm⟩
        · next h18 =>
          have d14 := drop_split s 14 2 (by omega)
          have d16 := drop_split s 16 2 (by omega)
          have l14 := at2_lt s 14 2
          have l16 := at2_lt s 16 2
          have hi : infoN (tagOf (at2 s 14 2)) = at2 s 14 2 := by
            unfold infoN tagOf
            simp only [Int.toNat_natCast]
            by_cases hb : at2 s 14 2 / 4096 % 2 = 1
            · simp only [hb, decide_true, if_true]; omega
            · simp only [hb, decide_false, Bool.false_eq_true, if_false]; omega
          refine (bodyR_back s (by omega) 18 (at2 s 16 2) (at2 s 0 6) (at2 s 6 6) (tagOf (at2 s 14 2)) (by omega) (by omega) (fun h => by cases h) (fun _ => by simp only [tagOf]; omega) rfl (by omega) (by omega) ?_ g c h).imp id (fun ⟨a, b⟩ => ⟨a, by omega, b⟩)
          have htl : tagL (tagOf (at2 s 14 2)) = beL 2 33024 ++ beL 2 (at2 s 14 2) := by
            unfold tagL
            rw [hi]
            rfl
          rw [htl]
          conv => lhs; rw [d0, d6, d12, d14, d16, h81]
          simp only [List.append_assoc]
      · next h81 =>
        have l12 := at2_lt s 12 2
        refine (bodyR_back s (by omega) 14 (at2 s 12 2) (at2 s 0 6) (at2 s 6 6) tag0 (by omega) (by omega) (fun _ => rfl) (fun h => by cases h) rfl (by omega) (by omega) ?_ g c h).imp id (fun ⟨a, b⟩ => ⟨a, by omega, b⟩)
        conv => lhs; rw [d0, d6, d12]
        rfl
end Go.Proofs.YtbodofjnfmjbpaaGreatDoor

namespace Go.Proofs.YtbodofjnfmjbpaaGreatDoor
open Go Eng
set_option linter.unusedVariables false
set_option linter.unusedSimpArgs false


theorem cut_spec (s : ByteArray) (m : Nat) : ∃ t, sliceS s 0 (imin (s.size : Int) m) = some t ∧ t.size ≤ m := by
  refine ⟨s.extract 0 (imin (s.size : Int) m).toNat, sliceS_eq ?_, ?_⟩
  · unfold imin; split <;> omega
  · have : (s.extract 0 (imin (s.size : Int) m).toNat).size = min (imin (s.size : Int) m).toNat s.size - 0 := by simp
    rw [this]
    unfold imin; split <;> omega

theorem more_nil (g : api_Frame) : more g [] = g := by
  unfold more
  split
  · rfl
  · have : (⟨(L g.Body ++ []).toArray⟩ : ByteArray) = g.Body := L_inj (by rw [L_mk, List.append_nil])
    rw [this]

theorem same_frame (g : api_Frame) : ((g.Dst == g.Dst) && ((g.Src == g.Src) && (((g.Tag.Has == g.Tag.Has) && ((g.Tag.Pri == g.Tag.Pri) && ((g.Tag.Dei == g.Tag.Dei) && ((g.Tag.Vid == g.Tag.Vid) && true)))) && ((g.Type_ == g.Type_) && ((g.Body == g.Body) && true))))) = true := by
  simp [bytes_refl]

theorem frameL_size (g : api_Frame) (rest : List UInt8) (s : ByteArray) (h : L s = frameL g ++ rest) : (⟨(frameL g).toArray⟩ : ByteArray).size ≤ s.size ∧ L (s.extract 0 (⟨(frameL g).toArray⟩ : ByteArray).size) = frameL g := by
  have hz : (⟨(frameL g).toArray⟩ : ByteArray).size = (frameL g).length := by simp [ByteArray.size]
  have hl := congrArg List.length h
  rw [L_length, List.length_append] at hl
  refine ⟨by omega, ?_⟩
  rw [L_extract, hz, h]
  simp

theorem frameL_len (g : api_Frame) : (frameL g).length = 14 + g.Body.size + (if g.Tag.Has then 4 else 0) := by
  simp only [frameL, List.length_append, beL_length, L_length, tagL]
  split <;> simp [beL_length] <;> omega
theorem mk_size (l : List UInt8) : (⟨l.toArray⟩ : ByteArray).size = l.length := by simp [ByteArray.size]
end Go.Proofs.YtbodofjnfmjbpaaGreatDoor

namespace Go.Proofs.YtbodofjnfmjbpaaGreatDoor
open Go Eng
set_option linter.unusedVariables false
set_option linter.unusedSimpArgs false

/-! ### The folded sum -/
def foldN (n : Nat) : Nat := if n = 0 then 0 else (n - 1) % 65535 + 1
theorem foldN_le (n : Nat) : foldN n ≤ 65535 := by unfold foldN; split <;> omega
theorem foldN_small {n : Nat} (h : n ≤ 65535) : foldN n = n := by unfold foldN; split <;> omega
theorem foldN_add (a b : Nat) : foldN (foldN a + b) = foldN (a + b) := by
  unfold foldN
  by_cases h : a = 0
  · simp [h]
  · rw [if_neg h, if_neg (by omega), if_neg (by omega)]
    omega
theorem foldN_step {n : Nat} (h : 65535 < n) : foldN (n % 65536 + n / 65536) = foldN n := by
  unfold foldN
  rw [if_neg (by omega), if_neg (by omega)]
  omega
theorem foldN_right (w : Nat) (h : 0 < w) : foldN (w + (65535 - foldN w)) = 65535 := by
  have h1 : foldN w = (w - 1) % 65535 + 1 := by unfold foldN; rw [if_neg (by omega)]
  rw [h1]
  unfold foldN
  rw [if_neg (by omega)]
  omega

theorem bAnd_65535 {n : Nat} (h : n < 2 ^ 63) : bAnd .i64 n 65535 = ((n % 65536 : Nat) : Int) := by
  have h1 := bAnd_i64 (x := n) (y := 65535) h (by decide)
  rw [show ((65535 : Nat) : Int) = 65535 from rfl] at h1
  rw [h1]
  have := and_mask 16 n
  rw [show (2 : Nat) ^ 16 - 1 = 65535 from rfl, show (2 : Nat) ^ 16 = 65536 from rfl] at this
  rw [this]

theorem fold_end {n : Nat} (h : n ≤ 65535) (fuel : Nat) : csum_fold.l1 (fuel + 1) (n : Int) = some (n : Int) := by
  simp only [csum_fold.l1]
  rw [show decide ((n : Int) > 65535) = false by simp; omega, cond_false]
theorem fold_one {n : Nat} (h : 65535 < n) (h2 : n < 2 ^ 62) (fuel : Nat) : csum_fold.l1 (fuel + 1) (n : Int) = csum_fold.l1 fuel ((n % 65536 + n / 65536 : Nat) : Int) := by
  simp only [csum_fold.l1]
  rw [show decide ((n : Int) > 65535) = true by simp; omega, cond_true, bAnd_65535 (by omega), Int.fdiv_eq_ediv_of_nonneg _ (by decide)]
  congr 1
  have : (((n % 65536 : Nat) : Int) + (n : Int) / 65536) = ((n % 65536 + n / 65536 : Nat) : Int) := by omega
  rw [this, i64_id (by omega)]
theorem fold_spec (n : Nat) (h : n ≤ 1048576) : csum_fold.f 2000 (n : Int) = some ((foldN n : Nat) : Int) := by
  unfold csum_fold.f
  by_cases h1 : n ≤ 65535
  · rw [fold_end h1 1999, foldN_small h1]
  · rw [fold_one (by omega) (by omega) 1999, ← foldN_step (by omega : 65535 < n)]
    by_cases h2 : n % 65536 + n / 65536 ≤ 65535
    · rw [fold_end h2 1998, foldN_small h2]
    · rw [fold_one (by omega) (by omega) 1998, ← foldN_step (by omega : 65535 < n % 65536 + n / 65536), fold_end (by omega) 1997, foldN_small (by omega)]

/-! ### Words -/
def wsum : List UInt8 → Nat
  | a :: b :: r => a.toNat * 256 + b.toNat + wsum r
  | [a] => a.toNat * 256
  | [] => 0

theorem wsum_append : ∀ (n : Nat) (a b : List UInt8), a.length = 2 * n → wsum (a ++ b) = wsum a + wsum b
  | 0, [], b, _ => by simp [wsum]
  | 0, _ :: _, b, h => by simp at h
  | n + 1, [], b, h => by simp at h
  | n + 1, [x], b, h => by simp at h; omega
  | n + 1, x :: y :: r, b, h => by
    have := wsum_append n r b (by simp at h; omega)
    simp only [List.cons_append, wsum, this]
    omega
theorem wsum_beL2 (c : Nat) (h : c < 65536) : wsum (beL 2 c) = c := by
  simp only [beL, wsum, UInt8.toNat_ofNat']
  omega

theorem idxS_get (s : ByteArray) (i : Nat) (x : UInt8) (h : (L s)[i]? = some x) : idxS s (i : Int) = some ((x.toNat : Nat) : Int) := by
  unfold idxS
  rw [if_pos (by omega)]
  have : s.data[(i : Int).toNat]? = some x := by rw [← Array.getElem?_toList]; exact h
  rw [this]; rfl

theorem total_loop (x : ByteArray) (hx : x.size ≤ 3000) : ∀ (n : Nat) (r pre : List UInt8) (a fuel : Nat), L x = pre ++ r → r.length = 2 * n → n < fuel →
    csum_total.l1 x 2000 fuel ((foldN a : Nat) : Int) (pre.length : Int) = some ((foldN (a + wsum r) : Nat) : Int)
  | n, r, pre, a, 0, _, _, h => by omega
  | 0, [], pre, a, fuel + 1, e, hr, h => by
    have hs : x.size = pre.length := by rw [← L_length, e]; simp
    simp only [csum_total.l1]
    rw [hs, show decide ((pre.length : Int) < (pre.length : Int)) = false by simp]
    simp [wsum]
  | 0, _ :: _, pre, a, fuel + 1, e, hr, h => by simp at hr
  | n + 1, [], pre, a, fuel + 1, e, hr, h => by simp at hr
  | n + 1, [y], pre, a, fuel + 1, e, hr, h => by simp at hr; omega
  | n + 1, y :: z :: r, pre, a, fuel + 1, e, hr, h => by
    have hs : x.size = pre.length + (r.length + 2) := by rw [← L_length, e]; simp
    have h0 : (L x)[pre.length]? = some y := by rw [e]; simp
    have h1 : (L x)[pre.length + 1]? = some z := by rw [e, List.getElem?_append_right (by omega)]; simp
    have hy := y.toNat_lt
    have hz := z.toNat_lt
    have hf := foldN_le a
    simp only [csum_total.l1]
    rw [show decide ((pre.length : Int) < (x.size : Int)) = true by simp; omega, cond_true, idxS_get x _ _ h0, Option.bind_some, i64_id (n := (pre.length : Int) + 1) (by omega), show ((pre.length : Int) + 1) = ((pre.length + 1 : Nat) : Int) by omega, idxS_get x _ _ h1, Option.bind_some]
    rw [i64_id (n := ((y.toNat : Nat) : Int)) (by omega), i64_id (n := ((z.toNat : Nat) : Int)) (by omega), i64_id (n := ((y.toNat : Nat) : Int) * 256) (by omega), i64_id (n := ((foldN a : Nat) : Int) + ((y.toNat : Nat) : Int) * 256) (by omega), i64_id (n := ((foldN a : Nat) : Int) + ((y.toNat : Nat) : Int) * 256 + ((z.toNat : Nat) : Int)) (by omega)]
    have e2 : ((foldN a : Nat) : Int) + ((y.toNat : Nat) : Int) * 256 + ((z.toNat : Nat) : Int) = ((foldN a + (y.toNat * 256 + z.toNat) : Nat) : Int) := by omega
    rw [e2, fold_spec _ (by omega), Option.bind_some, foldN_add, i64_id (n := (pre.length : Int) + 2) (by omega)]
    have := total_loop x hx n r (pre ++ [y, z]) (a + (y.toNat * 256 + z.toNat)) fuel (by rw [e]; simp) (by simp at hr; omega) (by omega)
    rw [List.length_append] at this
    have e3 : ((pre.length : Int) + 2) = ((pre.length + [y, z].length : Nat) : Int) := by simp
    rw [e3, this]
    simp only [wsum]
    congr 3
    omega

theorem join_flat : ∀ (xs : List (List UInt8)), Lib.join xs [] = xs.flatten
  | [] => rfl
  | [a] => by simp [Lib.join, List.intercalate]
  | a :: b :: r => by
    have := join_flat (b :: r)
    simp only [Lib.join, List.intercalate] at this ⊢
    simp only [List.intersperse, List.flatten_cons, List.nil_append]
    rw [this]; rfl

theorem join_spec (xs : List ByteArray) (h1 : xs.length ≤ 100) (h2 : (xs.map L).flatten.length ≤ 140737488355328) : strings_Join.f xs (⟨#[]⟩ : ByteArray) = some ⟨((xs.map L).flatten).toArray⟩ := by
  have e : Lib.join (xs.map (·.data.toList)) (⟨#[]⟩ : ByteArray).data.toList = (xs.map L).flatten := join_flat _
  unfold strings_Join.f
  rw [e, if_pos ⟨by omega, h2⟩]

/-- The sum of parts of an even number of bytes. -/
theorem total_even (xs : List ByteArray) (n : Nat) (h1 : xs.length ≤ 100) (hn : (xs.map L).flatten.length = 2 * n) (h2 : n ≤ 1500) : csum_total.f 2000 xs = some ((foldN (wsum (xs.map L).flatten) : Nat) : Int) := by
  unfold csum_total.f
  rw [join_spec xs h1 (by omega), Option.bind_some]
  have hs : (⟨((xs.map L).flatten).toArray⟩ : ByteArray).size = 2 * n := by rw [mk_size, hn]
  rw [hs]
  have hm : (Int.tmod ((2 * n : Nat) : Int) 2 == 1) = false := by
    rw [show (2 : Int) = ((2 : Nat) : Int) from rfl, ← Int.ofNat_tmod]
    simp
  rw [hm, cond_false]
  unfold csum_total.k2
  have := total_loop ⟨((xs.map L).flatten).toArray⟩ (by omega) n (xs.map L).flatten [] 0 2000 rfl hn (by omega)
  rw [Nat.zero_add] at this
  exact this
theorem of_even (xs : List ByteArray) (n : Nat) (h1 : xs.length ≤ 100) (hn : (xs.map L).flatten.length = 2 * n) (h2 : n ≤ 1500) : csum_Of.f 2000 xs = some ((65535 - foldN (wsum (xs.map L).flatten) : Nat) : Int) := by
  unfold csum_Of.f
  have := foldN_le (wsum (xs.map L).flatten)
  rw [total_even xs n h1 hn h2, Option.bind_some, i64_id (by omega)]
  congr 1
  omega
theorem right_even (xs : List ByteArray) (n : Nat) (h1 : xs.length ≤ 100) (hn : (xs.map L).flatten.length = 2 * n) (h2 : n ≤ 1500) : csum_Right.f 2000 xs = some (foldN (wsum (xs.map L).flatten) == 65535) := by
  unfold csum_Right.f
  rw [total_even xs n h1 hn h2, Option.bind_some]
  congr 1
  rw [Bool.eq_iff_iff]
  simp only [beq_iff_eq]
  omega
end Go.Proofs.YtbodofjnfmjbpaaGreatDoor

namespace Go.Proofs.YtbodofjnfmjbpaaGreatDoor
open Go Eng
set_option linter.unusedVariables false
set_option linter.unusedSimpArgs false

theorem cat2 {x y : ByteArray} {lx ly : List UInt8} (hx : L x = lx) (hy : L y = ly) (h : lx.length + ly.length ≤ 100000) : ∃ z, catS x y = some z ∧ L z = lx ++ ly := by
  subst hx; subst hy
  rw [L_length, L_length] at h
  exact ⟨x ++ y, catS_eq (by omega), L_append x y⟩

theorem put2 (v : Int) (n : Nat) (h : v = n) (hn : n < 65536) : octets_Put.f 2000 (u64 v) 2 = some (be 2 n, 0) := by
  subst h
  rw [u64_id (by omega)]
  exact put_spec n 2 (by omega) (by rw [show (256 : Nat) ^ 2 = 65536 from rfl]; exact hn) (by omega)
theorem put4 (v : Int) (n : Nat) (h : v = n) (hn : n < 4294967296) : octets_Put.f 2000 (u64 v) 4 = some (be 4 n, 0) := by
  subst h
  rw [u64_id (by omega)]
  exact put_spec n 4 (by omega) (by rw [show (256 : Nat) ^ 4 = 4294967296 from rfl]; exact hn) (by omega)
theorem uword (v : Int) (n : Nat) (h : v = n) (hn : n < 65536) : udp_word.f 2000 v = some (be 2 n) := by
  unfold udp_word.f
  rw [put2 v n h hn]; rfl
theorem iword (v : Int) (n : Nat) (h : v = n) (hn : n < 65536) : inet_word.f 2000 v = some (be 2 n) := by
  unfold inet_word.f
  rw [put2 v n h hn]; rfl

/-! ### The frame's bytes behind a head -/
def vxL (vni : Nat) (b : List UInt8) : List UInt8 := [8, 0, 0, 0] ++ (beL 3 vni ++ ([0] ++ b))
theorem vbuild_good (v : Int) (n : Nat) (h : v = n) (hn : n ≤ 16777215) (b : ByteArray) (hb : b.size ≤ 10000) : ∃ z, vxlan_Build.f 2000 v b = some (z, 0) ∧ L z = vxL n (L b) := by
  subst h
  have hb' : (L b).length ≤ 10000 := by rw [L_length]; exact hb
  unfold vxlan_Build.f
  rw [show ((decide ((n : Int) < 0)) || (decide ((n : Int) > 16777215))) = false by simp; omega, cond_false, u64_id (by omega)]
  have hp : octets_Put.f 2000 (n : Int) 3 = some (be 3 n, 0) := put_spec n 3 (by omega) (by rw [show (256 : Nat) ^ 3 = 16777216 from rfl]; omega) (by omega)
  rw [hp, Option.bind_some]
  simp only
  obtain ⟨z1, e1, l1⟩ := cat2 (x := ByteArray.push (ByteArray.push (ByteArray.push (ByteArray.push ByteArray.empty (UInt8.ofNat (Int.toNat 8))) (UInt8.ofNat (Int.toNat 0))) (UInt8.ofNat (Int.toNat 0))) (UInt8.ofNat (Int.toNat 0))) (y := be 3 n) (lx := [8, 0, 0, 0]) rfl (L_be _ _) (by rw [beL_length]; decide)
  rw [e1, Option.bind_some]
  obtain ⟨z2, e2, l2⟩ := cat2 (x := z1) (y := (⟨#[0]⟩ : ByteArray)) l1 (ly := [0]) rfl (by simp [beL_length])
  rw [e2, Option.bind_some]
  obtain ⟨z3, e3, l3⟩ := cat2 (x := z2) (y := b) l2 rfl (by simp [beL_length]; omega)
  rw [e3, Option.bind_some]
  exact ⟨z3, rfl, by rw [l3]; simp [vxL]⟩

theorem u32_range (n : Int) : 0 ≤ u32 n ∧ u32 n < 4294967296 := by
  simp [u32, IntKind.wrap, IntKind.bits, IntKind.signed]; omega
theorem u32_id {n : Int} (h : 0 ≤ n ∧ n < 4294967296) : u32 n = n := by
  simp [u32, IntKind.wrap, IntKind.bits, IntKind.signed]; omega

theorem hash_loop (s : ByteArray) (hs : s.size ≤ 100) : ∀ (j i fuel : Nat) (x : Int), i + j = s.size → j < fuel → (0 ≤ x ∧ x < 4294967296) → ∃ h, vxlan_Hash.l1 s fuel x (i : Int) = some h ∧ 0 ≤ h ∧ h < 4294967296
  | j, i, 0, x, _, h, _ => by omega
  | 0, i, fuel + 1, x, hij, h, hx => by
    simp only [vxlan_Hash.l1]
    rw [show decide ((i : Int) < (s.size : Int)) = false by simp; omega, cond_false]
    exact ⟨x, rfl, hx⟩
  | j + 1, i, fuel + 1, x, hij, h, hx => by
    simp only [vxlan_Hash.l1]
    have hlt : i < (L s).length := by rw [L_length]; omega
    rw [show decide ((i : Int) < (s.size : Int)) = true by simp; omega, cond_true, idxS_get s i _ (List.getElem?_eq_getElem hlt), Option.bind_some, i64_id (n := (i : Int) + 1) (by omega), show ((i : Int) + 1) = ((i + 1 : Nat) : Int) by omega]
    exact hash_loop s hs j (i + 1) fuel _ (by omega) (by omega) (u32_range _)

theorem port_spec (b : ByteArray) : ∃ p : Nat, vxlan_Port.f 2000 b = some (p : Int) ∧ 49152 ≤ p ∧ p < 65536 := by
  unfold vxlan_Port.f
  obtain ⟨t, e, z⟩ := cut_spec b 14
  rw [show ((14 : Nat) : Int) = 14 from rfl] at e
  rw [e, Option.bind_some]
  obtain ⟨h, h1, h2, h3⟩ := hash_loop t (by omega) t.size 0 2000 2166136261 (by omega) (by omega) (by decide)
  have h1' : vxlan_Hash.f 2000 t = some h := h1
  rw [h1', Option.bind_some]
  obtain ⟨n, rfl⟩ : ∃ n : Nat, h = n := ⟨h.toNat, by omega⟩
  have hm : Int.tmod (n : Int) 16384 = ((n % 16384 : Nat) : Int) := by rw [show (16384 : Int) = ((16384 : Nat) : Int) from rfl, ← Int.ofNat_tmod]
  rw [hm, i64_id (n := ((n % 16384 : Nat) : Int)) (by omega), i64_id (by omega)]
  exact ⟨49152 + n % 16384, by congr 1, by omega, by omega⟩

/-! ### A datagram without a sum -/
def udpL (p : Nat) (body : List UInt8) : List UInt8 := beL 2 p ++ (beL 2 4789 ++ (beL 2 (8 + body.length) ++ (beL 2 0 ++ body)))
theorem ubuild_good (src dst : Int) (p : Nat) (hp : p < 65536) (body : ByteArray) (hb : body.size ≤ 10000) : ∃ z, udp_Build.f 2000 src dst ⟨p, 4789, true, body⟩ = some (z, 0) ∧ L z = udpL p (L body) := by
  have hb' : (L body).length = body.size := L_length body
  unfold udp_Build.f
  have hc : udp_Check.f ⟨p, 4789, true, body⟩ = some 0 := by
    have a1 : udp_Check_1.f (p : Int) = some true := by
      unfold udp_Check_1.f
      rw [decide_eq_true (by omega : (p : Int) ≥ 0), decide_eq_true (by omega : (p : Int) < 65536)]; rfl
    have a2 : udp_Check_1.f 4789 = some true := by kernel_rfl
    unfold udp_Check.f
    simp only
    rw [a1, Option.bind_some, cond_true, a2, Option.bind_some]
    unfold udp_Check.k1
    simp only
    rw [decide_eq_true (by omega : (body.size : Int) ≤ 65507)]
    rfl
  rw [hc, Option.bind_some, show ((0 : Int) != 0) = false from rfl, cond_false, uword (p : Int) p rfl hp, Option.bind_some, uword 4789 4789 (by omega) (by omega), Option.bind_some]
  obtain ⟨z1, e1, l1⟩ := cat2 (L_be 2 p) (L_be 2 4789) (by simp [beL_length])
  rw [e1, Option.bind_some]
  simp only
  rw [uword (i64 (8 + (body.size : Int))) (8 + body.size) (by rw [i64_id (by omega)]; omega) (by omega), Option.bind_some]
  obtain ⟨z2, e2, l2⟩ := cat2 l1 (L_be 2 (8 + body.size)) (by simp [beL_length])
  rw [e2, Option.bind_some]
  simp only [Bool.not_true, cond_false]
  unfold udp_Build.k1
  rw [uword 0 0 (by omega) (by omega), Option.bind_some]
  obtain ⟨z3, e3, l3⟩ := cat2 l2 (L_be 2 0) (by simp [beL_length])
  rw [e3, Option.bind_some]
  obtain ⟨z4, e4, l4⟩ := cat2 (y := body) l3 rfl (by simp [beL_length]; omega)
  rw [e4, Option.bind_some]
  exact ⟨z4, rfl, by rw [l4]; simp [udpL, hb']⟩

/-! ### A packet -/
def h1L (n id : Nat) : List UInt8 := [69, 0] ++ (beL 2 (20 + n) ++ (beL 2 id ++ (beL 2 16384 ++ [64, 17])))
def abL (src dst : Nat) : List UInt8 := beL 4 src ++ beL 4 dst
def sumN (n id src dst : Nat) : Nat := 65535 - foldN (wsum (h1L n id) + wsum (abL src dst))
def ipL (id src dst : Nat) (body : List UInt8) : List UInt8 := h1L body.length id ++ (beL 2 (sumN body.length id src dst) ++ (abL src dst ++ body))
theorem h1L_length (n id : Nat) : (h1L n id).length = 10 := by simp [h1L, beL_length]
theorem abL_length (s d : Nat) : (abL s d).length = 8 := by simp [abL, beL_length]
theorem sumN_lt (n id src dst : Nat) : sumN n id src dst < 65536 := by unfold sumN; omega
theorem ipL_length (id src dst : Nat) (b : List UInt8) : (ipL id src dst b).length = 20 + b.length := by simp [ipL, h1L_length, abL_length, beL_length]; omega

theorem ib1 : inet_below.f 0 256 = some true := by kernel_rfl
theorem ib2 : inet_below.f 64 256 = some true := by kernel_rfl
theorem ib3 : inet_below.f 17 256 = some true := by kernel_rfl
theorem ib5 : inet_below.f 0 8192 = some true := by kernel_rfl
theorem ib4 (id : Nat) (hid : id < 65536) : inet_below.f (id : Int) 65536 = some true := by
  unfold inet_below.f
  rw [decide_eq_true (by omega : (id : Int) ≥ 0), decide_eq_true (by omega : (id : Int) < 65536)]; rfl
theorem icheck (a : api_Ip) (h1 : inet_below.f a.Tos 256 = some true) (h2 : inet_below.f a.Ttl 256 = some true) (h3 : inet_below.f a.Proto 256 = some true) (h4 : inet_below.f a.Id 65536 = some true) (h5 : inet_below.f a.Off 8192 = some true) (h6 : a.Body.size ≤ 10000) : inet_Check.f a = some 0 := by
  unfold inet_Check.f
  rw [h1, Option.bind_some, cond_true, h2, Option.bind_some]
  unfold inet_Check.k4
  rw [cond_true, h3, Option.bind_some]
  unfold inet_Check.k3
  rw [cond_true, h4, Option.bind_some]
  unfold inet_Check.k2
  rw [cond_true, h5, Option.bind_some]
  unfold inet_Check.k1
  rw [decide_eq_true (by omega : (a.Body.size : Int) ≤ 65515)]
  rfl
theorem ibuild_good (id src dst : Nat) (hid : id < 65536) (hs : src < 4294967296) (hd : dst < 4294967296) (body : ByteArray) (hb : body.size ≤ 10000) :
    ∃ z, inet_Build.f 2000 ⟨0, id, true, false, 0, 64, 17, src, dst, body⟩ = some (z, 0) ∧ L z = ipL id src dst (L body) := by
  have hb' : (L body).length = body.size := L_length body
  have hc : inet_Check.f ⟨0, id, true, false, 0, 64, 17, src, dst, body⟩ = some 0 := icheck _ ib1 ib2 ib3 (ib4 id hid) ib5 (by simp only; omega)
  unfold inet_Build.f
  rw [hc, Option.bind_some, show ((0 : Int) != 0) = false from rfl, cond_false]
  simp only
  rw [put4 _ src rfl hs, Option.bind_some]
  simp only
  rw [put4 _ dst rfl hd, Option.bind_some]
  simp only
  rw [iword _ (20 + body.size) (by rw [i64_id (by omega)]; omega) (by omega), Option.bind_some]
  obtain ⟨z1, e1, l1⟩ := cat2 (x := ByteArray.push (ByteArray.push ByteArray.empty (UInt8.ofNat (Int.toNat 69))) (UInt8.ofNat (Int.toNat (u8 0)))) (lx := [69, 0]) rfl (L_be 2 (20 + body.size)) (by simp [beL_length])
  rw [e1, Option.bind_some, iword _ id rfl hid, Option.bind_some]
  obtain ⟨z2, e2, l2⟩ := cat2 l1 (L_be 2 id) (by simp [beL_length])
  rw [e2, Option.bind_some]
  have hfl : inet_flags.f ⟨0, id, true, false, 0, 64, 17, src, dst, body⟩ = some 16384 := by kernel_rfl
  rw [hfl, Option.bind_some, iword 16384 16384 (by omega) (by omega), Option.bind_some]
  obtain ⟨z3, e3, l3⟩ := cat2 l2 (L_be 2 16384) (by simp [beL_length])
  rw [e3, Option.bind_some]
  obtain ⟨z4, e4, l4⟩ := cat2 l3 (y := ByteArray.push (ByteArray.push ByteArray.empty (UInt8.ofNat (Int.toNat (u8 64)))) (UInt8.ofNat (Int.toNat (u8 17)))) (ly := [64, 17]) rfl (by simp [beL_length])
  rw [e4, Option.bind_some]
  obtain ⟨z5, e5, l5⟩ := cat2 (L_be 4 src) (L_be 4 dst) (by simp [beL_length])
  rw [e5, Option.bind_some, iword 0 0 (by omega) (by omega), Option.bind_some]
  have l4' : L z4 = h1L body.size id := by rw [l4]; simp [h1L]
  have l5' : L z5 = abL src dst := l5
  have hflat : (([z4, be 2 0, z5] : List ByteArray).map L).flatten = h1L body.size id ++ (beL 2 0 ++ abL src dst) := by simp [l4', l5', L_be]
  have hof := of_even [z4, be 2 0, z5] 10 (by simp) (by rw [hflat]; simp [h1L_length, abL_length, beL_length]) (by omega)
  have hw : wsum (h1L body.size id ++ (beL 2 0 ++ abL src dst)) = wsum (h1L body.size id) + wsum (abL src dst) := by
    rw [wsum_append 5 _ _ (by rw [h1L_length]), wsum_append 1 _ _ (by rw [beL_length]), wsum_beL2 0 (by omega), Nat.zero_add]
  rw [hflat, hw] at hof
  have hsum : (65535 - foldN (wsum (h1L body.size id) + wsum (abL src dst))) = sumN body.size id src dst := rfl
  rw [hof, Option.bind_some, hsum, iword _ (sumN body.size id src dst) rfl (sumN_lt _ _ _ _), Option.bind_some]
  obtain ⟨z6, e6, l6⟩ := cat2 l4' (L_be 2 (sumN body.size id src dst)) (by simp [beL_length, h1L_length])
  rw [e6, Option.bind_some]
  obtain ⟨z7, e7, l7⟩ := cat2 l6 l5' (by simp [beL_length, h1L_length, abL_length])
  rw [e7, Option.bind_some]
  obtain ⟨z8, e8, l8⟩ := cat2 (y := body) l7 rfl (by simp [beL_length, h1L_length, abL_length]; omega)
  rw [e8, Option.bind_some]
  exact ⟨z8, rfl, by rw [l8]; simp [ipL, hb']⟩

/-! ### Make, and Wrap -/
theorem id_range (a : Int) : ∃ id : Nat, bAnd .i64 a 65535 = (id : Int) ∧ id < 65536 := by
  have h : (BitVec.ofInt 64 a).toNat &&& 65535 ≤ 65535 := Nat.and_le_right
  refine ⟨(BitVec.ofInt 64 a).toNat &&& 65535, ?_, by omega⟩
  show IntKind.i64.wrap ((BitVec.ofInt 64 a &&& BitVec.ofInt 64 65535).toNat : Int) = _
  rw [BitVec.toNat_and]
  have e : (BitVec.ofInt 64 65535).toNat = 65535 := by decide
  rw [e]
  exact i64_id (by omega)

def bare (f : api_Frame) : api_Frame := ⟨f.Dst, f.Src, tag0, f.Type_, f.Body⟩
/-- The bytes of a packet that takes a frame, with the port p. -/
def pktL (src dst id p vni : Nat) (f : api_Frame) : List UInt8 := ipL id src dst (udpL p (vxL vni (frameL (bare f))))
theorem vxL_length (n : Nat) (b : List UInt8) : (vxL n b).length = 8 + b.length := by simp [vxL, beL_length]; omega
theorem udpL_length (n : Nat) (b : List UInt8) : (udpL n b).length = 8 + b.length := by simp [udpL, beL_length]; omega

/-- A frame that may be, without its tag, is wrapped, wherever so many bytes may be: from one port. -/
theorem wrap_good (f : api_Frame) (hg : Good (bare f)) : ∃ p : Nat, (49152 ≤ p ∧ p < 65536) ∧ ∀ (src dst vni : Nat) (vid : Int) (ps : List Int) (id most : Int), src < 4294967296 → dst < 4294967296 → vni ≤ 16777215 →
    ∃ (idN : Nat) (z : ByteArray), idN < 65536 ∧ L z = pktL src dst idN p vni f ∧ tunnel_Wrap.f 2000 src dst vid vni ps f id most = some (if (z.size : Int) > most then (⟨#[]⟩, 201) else (z, 0)) := by
  obtain ⟨p, hp, hp1, hp2⟩ := port_spec ⟨(frameL (bare f)).toArray⟩
  refine ⟨p, ⟨hp1, hp2⟩, fun src dst vni vid ps id most hs hd hv => ?_⟩
  obtain ⟨idN, hid, hidl⟩ := id_range id
  have hfl := frameL_len (bare f)
  have hsz := hg.size
  simp only [bare, tag0, Bool.false_eq_true, if_false] at hfl hsz
  have hz : (⟨(frameL (bare f)).toArray⟩ : ByteArray).size = 14 + f.Body.size := by rw [mk_size]; simp only [bare, tag0]; exact hfl
  obtain ⟨v, ev, lv⟩ := vbuild_good (vni : Int) vni rfl hv ⟨(frameL (bare f)).toArray⟩ (by omega)
  have lv' : L v = vxL vni (frameL (bare f)) := lv
  have hvz : v.size = 22 + f.Body.size := by
    rw [← L_length, lv', vxL_length]
    have := mk_size (frameL (bare f))
    omega
  obtain ⟨u, eu, lu⟩ := ubuild_good (src : Int) (dst : Int) p hp2 v (by omega)
  have huz : u.size = 30 + f.Body.size := by rw [← L_length, lu, udpL_length, L_length]; omega
  obtain ⟨z, ez, lz⟩ := ibuild_good idN src dst hidl hs hd u (by omega)
  refine ⟨idN, z, hidl, by rw [lz, lu, lv']; rfl, ?_⟩
  unfold tunnel_Wrap.f
  have hb : ether_Bare.f f = some (bare f) := rfl
  rw [hb, Option.bind_some, build_good _ hg, Option.bind_some]
  simp only
  rw [show ((0 : Int) != 0) = false from rfl, cond_false, ev, Option.bind_some]
  simp only
  rw [show ((0 : Int) != 0) = false from rfl, cond_false, hp, Option.bind_some]
  unfold station_Make.f
  rw [eu, Option.bind_some]
  simp only
  rw [show ((0 : Int) != 0) = false from rfl, cond_false, hid, ez, Option.bind_some]
  simp only
  rw [show ((0 : Int) != 0) = false from rfl, Bool.false_or]
  by_cases hm : (z.size : Int) > most
  · rw [if_pos hm, decide_eq_true hm]; rfl
  · rw [if_neg hm, decide_eq_false hm]; rfl

theorem wrap_bad (f : api_Frame) (h1 : 0 ≤ f.Dst) (h2 : 0 ≤ f.Src) (hb : f.Body.size ≤ 140737488351232) (hg : ¬ Good (bare f)) (src dst vni vid : Int) (ps : List Int) (id most : Int) : tunnel_Wrap.f 2000 src dst vid vni ps f id most = some (⟨#[]⟩, 220) := by
  obtain ⟨c, hc, _, e⟩ := build_bad (bare f) h1 h2 hb hg
  unfold tunnel_Wrap.f
  have hbr : ether_Bare.f f = some (bare f) := rfl
  rw [hbr, Option.bind_some, e, Option.bind_some]
  simp only
  rw [show (c != 0) = true by simp [hc], cond_true]
end Go.Proofs.YtbodofjnfmjbpaaGreatDoor

namespace Go.Proofs.YtbodofjnfmjbpaaGreatDoor
open Go Eng
set_option linter.unusedVariables false
set_option linter.unusedSimpArgs false

theorem inet_get_spec (z : ByteArray) (i v : Nat) (pre post : List UInt8) (h : L z = pre ++ (beL 2 v ++ post)) (hp : pre.length = i) (hv : v < 65536) (hz : z.size ≤ 100000) : inet_get.f z (i : Int) = some (v : Int) := by
  have hs : z.size = i + (2 + post.length) := by rw [← L_length, h]; simp [beL_length, hp]
  have h0 : (L z)[i]? = some (UInt8.ofNat (v / 256 % 256)) := by rw [h, List.getElem?_append_right (by omega), hp, Nat.sub_self]; simp [beL]
  have h1 : (L z)[i + 1]? = some (UInt8.ofNat (v % 256)) := by rw [h, List.getElem?_append_right (by omega), hp, Nat.add_sub_cancel_left]; simp [beL]
  unfold inet_get.f
  rw [idxS_get z i _ h0, Option.bind_some, i64_id (n := (i : Int) + 1) (by omega), show ((i : Int) + 1) = ((i + 1 : Nat) : Int) by omega, idxS_get z _ _ h1, Option.bind_some]
  have e0 : (UInt8.ofNat (v / 256 % 256)).toNat = v / 256 := by rw [UInt8.toNat_ofNat']; omega
  have e1 : (UInt8.ofNat (v % 256)).toNat = v % 256 := by rw [UInt8.toNat_ofNat']; omega
  rw [e0, e1, i64_id (n := ((v / 256 : Nat) : Int)) (by omega), i64_id (n := ((v % 256 : Nat) : Int)) (by omega), i64_id (n := ((v / 256 : Nat) : Int) * 256) (by omega)]
  have e2 : ((v / 256 : Nat) : Int) * 256 = ((v / 256 * 256 : Nat) : Int) := by omega
  rw [e2, bOr_i64 (by omega) (by omega)]
  have h4 := or_add 8 (x := v / 256) (y := v % 256) (by omega)
  rw [show (2 : Nat) ^ 8 = 256 from rfl] at h4
  rw [h4]
  congr 2
  omega

theorem get_at (z : ByteArray) (o n v : Nat) (oi ni : Int) (ho : oi = o) (hni : ni = n) (pre post : List UInt8) (h : L z = pre ++ (beL n v ++ post)) (hp : pre.length = o) (hv : v < 256 ^ n) (hn : 1 ≤ n ∧ n ≤ 8) (hz : z.size ≤ 100000) : octets_Get.f 2000 z oi ni = some ((v : Int), 0) := by
  subst ho; subst hni
  have hs : z.size = o + (n + post.length) := by rw [← L_length, h]; simp [beL_length, hp]
  rw [get_in z o n hn (by omega) (by omega)]
  have := at2_app z o n v pre post h hp hv
  unfold at2 at this
  rw [this]

theorem wsum_h1 (n id : Nat) : 0 < wsum (h1L n id) := by
  unfold h1L
  rw [List.cons_append, List.cons_append, wsum]
  have : (69 : UInt8).toNat = 69 := rfl
  rw [this]; omega

theorem ip_right (id src dst : Nat) (body : List UInt8) (z : ByteArray) (hz : L z = ipL id src dst body) (hb : body.length ≤ 10000) : ∃ t, sliceS z 0 20 = some t ∧ csum_Right.f 2000 [t] = some true := by
  have hs : z.size = 20 + body.length := by rw [← L_length, hz, ipL_length]
  refine ⟨_, sliceS_eq (by omega), ?_⟩
  have hL : L (z.extract (Int.toNat 0) (Int.toNat 20)) = h1L body.length id ++ (beL 2 (sumN body.length id src dst) ++ abL src dst) := by
    rw [L_extract, hz]
    simp only [ipL]
    show ((h1L body.length id ++ (beL 2 (sumN body.length id src dst) ++ (abL src dst ++ body))).drop 0).take (20 - 0) = _
    rw [List.drop_zero, ← List.append_assoc (beL 2 _), ← List.append_assoc (h1L _ _)]
    rw [List.take_left' (by simp [h1L_length, abL_length, beL_length])]
  have hfl : (([z.extract (Int.toNat 0) (Int.toNat 20)] : List ByteArray).map L).flatten = h1L body.length id ++ (beL 2 (sumN body.length id src dst) ++ abL src dst) := by rw [List.map_cons, List.map_nil, List.flatten_cons, List.flatten_nil, List.append_nil, hL]
  rw [right_even _ 10 (by simp) (by rw [hfl]; simp [h1L_length, abL_length, beL_length]) (by omega), hfl, wsum_append 5 _ _ (by rw [h1L_length]), wsum_append 1 _ _ (by rw [beL_length]), wsum_beL2 _ (sumN_lt _ _ _ _)]
  have hpos := wsum_h1 body.length id
  have := foldN_right (wsum (h1L body.length id) + wsum (abL src dst)) (by omega)
  have e : wsum (h1L body.length id) + (sumN body.length id src dst + wsum (abL src dst)) = wsum (h1L body.length id) + wsum (abL src dst) + (65535 - foldN (wsum (h1L body.length id) + wsum (abL src dst))) := by unfold sumN; omega
  rw [e, this]
  rfl

theorem read_spec (id src dst : Nat) (hid : id < 65536) (hs : src < 4294967296) (hd : dst < 4294967296) (body : List UInt8) (z : ByteArray) (hz : L z = ipL id src dst body) (hb : body.length ≤ 10000) :
    ∃ b, L b = body ∧ inet_Parse.f 2000 z = some (⟨0, id, true, false, 0, 64, 17, src, dst, b⟩, 0) := by
  have hsz : z.size = 20 + body.length := by rw [← L_length, hz, ipL_length]
  have p4 : (256 : Nat) ^ 4 = 4294967296 := by decide
  obtain ⟨t, ht, hr⟩ := ip_right id src dst body z hz hb
  have i0 : idxS z 0 = some 69 := idxS_get z 0 69 (by rw [hz]; rfl)
  have i1 : idxS z 1 = some 0 := idxS_get z 1 0 (by rw [hz]; rfl)
  have i8 : idxS z 8 = some 64 := idxS_get z 8 64 (by rw [hz]; rfl)
  have i9 : idxS z 9 = some 17 := idxS_get z 9 17 (by rw [hz]; rfl)
  have g2 : inet_get.f z 2 = some ((20 + body.length : Nat) : Int) := inet_get_spec z 2 (20 + body.length) [69, 0] (beL 2 id ++ (beL 2 16384 ++ [64, 17]) ++ (beL 2 (sumN body.length id src dst) ++ (abL src dst ++ body))) (by rw [hz]; simp [ipL, h1L]) rfl (by omega) (by omega)
  have g4 : inet_get.f z 4 = some ((id : Nat) : Int) := inet_get_spec z 4 id ([69, 0] ++ beL 2 (20 + body.length)) (beL 2 16384 ++ [64, 17] ++ (beL 2 (sumN body.length id src dst) ++ (abL src dst ++ body))) (by rw [hz]; simp [ipL, h1L]) (by simp [beL_length]) hid (by omega)
  have g6 : inet_get.f z 6 = some ((16384 : Nat) : Int) := inet_get_spec z 6 16384 ([69, 0] ++ beL 2 (20 + body.length) ++ beL 2 id) ([64, 17] ++ (beL 2 (sumN body.length id src dst) ++ (abL src dst ++ body))) (by rw [hz]; simp [ipL, h1L]) (by simp [beL_length]) (by omega) (by omega)
  have g12 : octets_Get.f 2000 z 12 4 = some ((src : Int), 0) := get_at z 12 4 src 12 4 rfl rfl (h1L body.length id ++ beL 2 (sumN body.length id src dst)) (beL 4 dst ++ body) (by rw [hz]; simp [ipL, abL]) (by simp [h1L_length, beL_length]) (by omega) (by omega) (by omega)
  have g16 : octets_Get.f 2000 z 16 4 = some ((dst : Int), 0) := get_at z 16 4 dst 16 4 rfl rfl (h1L body.length id ++ beL 2 (sumN body.length id src dst) ++ beL 4 src) body (by rw [hz]; simp [ipL, abL]) (by simp [h1L_length, beL_length]) (by omega) (by omega) (by omega)
  refine ⟨z.extract 20 (20 + body.length), ?_, ?_⟩
  · rw [L_extract, hz]
    have e : ipL id src dst body = (h1L body.length id ++ beL 2 (sumN body.length id src dst) ++ abL src dst) ++ body := by simp [ipL]
    rw [e, List.drop_left' (by simp [h1L_length, beL_length, abL_length]), Nat.add_sub_cancel_left, List.take_length]
  · unfold inet_Parse.f inet_read.f
    rw [decide_eq_false (by omega : ¬ ((z.size : Int) < 20)), cond_false, i0, Option.bind_some, show ((69 : Int) != 69) = false from rfl, cond_false, ht, Option.bind_some, hr, Option.bind_some, show (!true) = false from rfl, cond_false, g2, Option.bind_some, g6, Option.bind_some]
    have hb1 : ((bAnd .i64 ((16384 : Nat) : Int) 32768) != 0) = false := by kernel_rfl
    have hb2 : ((bAnd .i64 ((16384 : Nat) : Int) 16384) != 0) = true := by kernel_rfl
    have hb3 : ((bAnd .i64 ((16384 : Nat) : Int) 8192) != 0) = false := by kernel_rfl
    have hb4 : Int.tmod ((16384 : Nat) : Int) 8192 = 0 := by kernel_rfl
    have hb5 : i64 0 = 0 := by kernel_rfl
    have hb6 : i64 64 = 64 := by kernel_rfl
    have hb7 : i64 17 = 17 := by kernel_rfl
    rw [hb1, decide_eq_false (by omega : ¬ (((20 + body.length : Nat) : Int) < 20)), show (false || false) = false from rfl, cond_false, decide_eq_false (by omega : ¬ (((20 + body.length : Nat) : Int) > (z.size : Int))), cond_false, g12, Option.bind_some]
    simp only
    rw [g16, Option.bind_some]
    simp only
    rw [i1, Option.bind_some, g4, Option.bind_some, i8, Option.bind_some, i9, Option.bind_some, sliceS_eq (by omega), Option.bind_some, hb2, hb3, hb4, hb5, hb6, hb7, u32_id ⟨by omega, by omega⟩, u32_id ⟨by omega, by omega⟩, Option.bind_some]
    simp only [Int.toNat_natCast]
    rfl

theorem uparse_spec (src dst : Int) (p : Nat) (hp : p < 65536) (body : List UInt8) (z : ByteArray) (hz : L z = udpL p body) (hb : body.length ≤ 10000) : ∃ b, L b = body ∧ udp_Parse.f 2000 src dst z = some (⟨p, 4789, true, b⟩, 0) := by
  have hsz : z.size = 8 + body.length := by rw [← L_length, hz, udpL_length]
  have p2 : (256 : Nat) ^ 2 = 65536 := by decide
  have g0 : octets_Get.f 2000 z 0 2 = some ((p : Int), 0) := get_at z 0 2 p 0 2 rfl rfl [] (beL 2 4789 ++ (beL 2 (8 + body.length) ++ (beL 2 0 ++ body))) (by rw [hz]; rfl) rfl (by omega) (by omega) (by omega)
  have g2 : octets_Get.f 2000 z 2 2 = some (((4789 : Nat) : Int), 0) := get_at z 2 2 4789 2 2 rfl rfl (beL 2 p) (beL 2 (8 + body.length) ++ (beL 2 0 ++ body)) (by rw [hz]; rfl) (by rw [beL_length]) (by omega) (by omega) (by omega)
  have g4 : octets_Get.f 2000 z 4 2 = some (((8 + body.length : Nat) : Int), 0) := get_at z 4 2 (8 + body.length) 4 2 rfl rfl (beL 2 p ++ beL 2 4789) (beL 2 0 ++ body) (by rw [hz]; simp [udpL]) (by simp [beL_length]) (by omega) (by omega) (by omega)
  have g6 : octets_Get.f 2000 z 6 2 = some (((0 : Nat) : Int), 0) := get_at z 6 2 0 6 2 rfl rfl (beL 2 p ++ beL 2 4789 ++ beL 2 (8 + body.length)) body (by rw [hz]; simp [udpL]) (by simp [beL_length]) (by omega) (by omega) (by omega)
  refine ⟨z.extract 8 (8 + body.length), ?_, ?_⟩
  · rw [L_extract, hz]
    have e : udpL p body = (beL 2 p ++ beL 2 4789 ++ beL 2 (8 + body.length) ++ beL 2 0) ++ body := by simp [udpL]
    rw [e, List.drop_left' (by simp [beL_length]), Nat.add_sub_cancel_left, List.take_length]
  · have hw : udp_wrong.f 2000 src dst z = some (4, ((8 + body.length : Nat) : Int)) := by
      unfold udp_wrong.f
      rw [decide_eq_false (by omega : ¬ ((z.size : Int) < 8)), cond_false, g4, Option.bind_some]
      simp only
      rw [g6, Option.bind_some]
      simp only
      rw [i64_id (n := ((8 + body.length : Nat) : Int)) (by omega), decide_eq_false (by omega : ¬ (((8 + body.length : Nat) : Int) < 8)), cond_false, decide_eq_false (by omega : ¬ (((8 + body.length : Nat) : Int) > (z.size : Int))), cond_false, show ((((0 : Nat) : Int)) != 0) = false from rfl, cond_false]
      unfold udp_wrong.k1
      rw [cond_false, i64_id (by omega)]
    unfold udp_Parse.f
    rw [hw, Option.bind_some]
    simp only
    rw [show ((4 : Int) == 0) = false from rfl, cond_false, show ((4 : Int) == 2) = false from rfl, cond_false, show ((4 : Int) == 1) = false from rfl, cond_false, show ((4 : Int) == 3) = false from rfl, cond_false, g0, Option.bind_some]
    simp only
    rw [g2, Option.bind_some]
    simp only
    rw [sliceS_eq (by omega), Option.bind_some, sliceS_eq (by omega), Option.bind_some, i64_id (n := (p : Int)) (by omega), i64_id (n := ((4789 : Nat) : Int)) (by omega)]
    have e68 : (z.extract (Int.toNat 6) (Int.toNat 8)).toList = (⟨#[0, 0]⟩ : ByteArray).toList := by
      rw [toList_eq, toList_eq, L_extract, hz]
      have e : udpL p body = (beL 2 p ++ beL 2 4789 ++ beL 2 (8 + body.length)) ++ (beL 2 0 ++ body) := by simp [udpL]
      rw [e]
      show ((beL 2 p ++ beL 2 4789 ++ beL 2 (8 + body.length) ++ (beL 2 0 ++ body)).drop 6).take (8 - 6) = _
      rw [List.drop_left' (by simp [beL_length])]
      rfl
    rw [e68, beq_self_eq_true]
    simp only [Int.toNat_natCast]
    rfl

/-- A packet that was made is taken. -/
theorem take_spec (id src dst p : Nat) (hid : id < 65536) (hs : src < 4294967296) (hd : dst < 4294967296) (hp : p < 65536) (body : List UInt8) (hb : body.length ≤ 9000) (z : ByteArray) (hz : L z = ipL id src dst (udpL p body)) :
    ∃ b, L b = body ∧ station_Take.f 2000 2 dst ⟨2, 6, ⟨false, 0, false, 0⟩, 2048, z⟩ = some (⟨0, src, ⟨p, 4789, true, b⟩⟩, ⟨0, 0, 0, 0, 0⟩) := by
  obtain ⟨u, hu, hpar⟩ := read_spec id src dst hid hs hd _ z hz (by rw [udpL_length]; omega)
  obtain ⟨b, hbb, hup⟩ := uparse_spec src dst p hp body u hu (by omega)
  refine ⟨b, hbb, ?_⟩
  have hfr : station_framed.f 2 ⟨2, 6, ⟨false, 0, false, 0⟩, 2048, z⟩ = some none := by kernel_rfl
  have hpk : station_packet.f 2000 dst z = some (⟨0, id, true, false, 0, 64, 17, src, dst, u⟩, none) := by
    unfold station_packet.f
    rw [hpar, Option.bind_some]
    simp only
    rw [show (((0 : Int) != 0) || ((64 : Int) == 0)) = false from rfl, cond_false, show ((dst : Int) != (dst : Int)) = false by simp, cond_false]
    rfl
  have hdg : station_datagram.f 2000 ⟨0, id, true, false, 0, 64, 17, src, dst, u⟩ = some (⟨p, 4789, true, b⟩, none) := by
    unfold station_datagram.f
    rw [hup, Option.bind_some]
    simp only
    rw [show (((17 : Int) != 17) || ((0 : Int) != 0)) = false from rfl, cond_false, show ((4789 : Int) != 4789) = false from rfl, cond_false]
  have hgot : station_got.f 2000 2 dst ⟨2, 6, ⟨false, 0, false, 0⟩, 2048, z⟩ = some (⟨0, src, ⟨p, 4789, true, b⟩⟩, none) := by
    unfold station_got.f
    rw [hfr, Option.bind_some]
    simp only
    rw [hpk, Option.bind_some]
    simp only
    rw [hdg, Option.bind_some]
  unfold station_Take.f
  simp only
  rw [show ((2048 : Int) == 2054) = false from rfl, cond_false]
  unfold station_Take.k1
  rw [cond_false, hgot, Option.bind_some]
  simp only
  have has : errors_As_3.f (station_why.mk 0) = some false := by kernel_rfl
  rw [has, Option.bind_some, cond_false]
  rfl
end Go.Proofs.YtbodofjnfmjbpaaGreatDoor

namespace Go.Proofs.YtbodofjnfmjbpaaGreatDoor
open Go Eng
set_option linter.unusedVariables false
set_option linter.unusedSimpArgs false

theorem getL_ofNat {α : Type} {xs : List α} {i : Nat} {x : α} (h : xs[i]? = some x) : getL xs.length xs (i : Int) = some x := by
  have hlt : i < xs.length := by
    rcases Nat.lt_or_ge i xs.length with h1 | h1
    · exact h1
    · rw [List.getElem?_eq_none h1] at h; cases h
  unfold getL
  rw [if_pos (by omega), Int.toNat_natCast, h]

/-! ### Segments -/
def seg0 : api_Seg := ⟨0, 0, []⟩
def byR (l : List api_Seg) (n : Int) : api_Seg × Bool := match l.find? (fun s => s.Vni == n) with
  | some s => (s, true)
  | none => (seg0, false)

theorem seg_idx (l : List api_Seg) (n : Int) (hl : l.length ≤ 1000) : ∀ (r pre : List api_Seg) (fuel : Nat), l = pre ++ r → r.length < fuel →
    ∃ v, api_Seg.l1 l n fuel 0 (pre.length : Int) = some v ∧ ((v = -1 ∧ r.find? (fun s => s.Vni == n) = none) ∨ (∃ (i : Nat) (s : api_Seg), v = i ∧ l[i]? = some s ∧ r.find? (fun s => s.Vni == n) = some s))
  | r, pre, 0, _, h => by omega
  | [], pre, fuel + 1, e, h => by
    subst e
    simp only [api_Seg.l1]
    exact ⟨-1, by simp, .inl ⟨rfl, rfl⟩⟩
  | s :: r, pre, fuel + 1, e, h => by
    have hlen : l.length = pre.length + (r.length + 1) := by rw [e]; simp
    have hget : l[pre.length]? = some s := by rw [e]; simp
    simp only [api_Seg.l1]
    rw [show decide ((pre.length : Int) < (l.length : Int)) = true by simp; omega, cond_true, getL_ofNat hget, Option.bind_some]
    simp only [vni_By_1.f, Option.bind_some]
    cases hv : (s.Vni == n)
    · rw [cond_false, i64_id (by omega)]
      have := seg_idx l n hl r (pre ++ [s]) fuel (by rw [e]; simp) (by simp at h; omega)
      rw [List.length_append, List.length_singleton] at this
      obtain ⟨v, h1, h2⟩ := this
      refine ⟨v, h1, ?_⟩
      rw [List.find?_cons, hv]
      exact h2
    · rw [cond_true]
      refine ⟨_, rfl, .inr ⟨pre.length, s, rfl, hget, ?_⟩⟩
      rw [List.find?_cons, hv]

theorem by_spec (l : List api_Seg) (n : Int) (hl : l.length ≤ 1000) (hp : ∀ s ∈ l, s.Peers.length ≤ 1000000) : vni_By.f 2000 l n = some (byR l n) := by
  unfold vni_By.f vni_first.f api_Seg.f byR
  obtain ⟨v, h1, h2⟩ := seg_idx l n hl l [] 2000 rfl (by omega)
  rw [show ((0 : Int)) = (([] : List api_Seg).length : Int) from rfl] 
  have h1' : api_Seg.l1 l n 2000 (([] : List api_Seg).length : Int) (([] : List api_Seg).length : Int) = some v := h1
  rw [h1', Option.bind_some]
  rcases h2 with ⟨rfl, h3⟩ | ⟨i, s, rfl, h3, h4⟩
  · rw [h3]; rfl
  · rw [h4]
    have hm : s ∈ l := List.mem_of_getElem? h3
    rw [show decide ((i : Int) < (([] : List api_Seg).length : Int)) = false by simp, cond_false, getL_ofNat h3, Option.bind_some]
    unfold slices_Clone_uint32_uint32.f roomL
    have := hp s hm
    rw [if_pos (by omega)]
    rfl

theorem int_idx (l : List Int) (a : Int) (hl : l.length ≤ 1000) : ∀ (r pre : List Int) (fuel : Nat), l = pre ++ r → r.length < fuel →
    ∃ v, slices_Index_uint32_uint32.l1 l a fuel 0 (pre.length : Int) = some v ∧ (v ≥ 0 ↔ a ∈ r)
  | r, pre, 0, _, h => by omega
  | [], pre, fuel + 1, e, h => by
    subst e
    simp only [slices_Index_uint32_uint32.l1]
    exact ⟨-1, by simp, by simp⟩
  | s :: r, pre, fuel + 1, e, h => by
    have hlen : l.length = pre.length + (r.length + 1) := by rw [e]; simp
    have hget : l[pre.length]? = some s := by rw [e]; simp
    simp only [slices_Index_uint32_uint32.l1]
    rw [show decide ((pre.length : Int) < (l.length : Int)) = true by simp; omega, cond_true, getL_ofNat hget, Option.bind_some]
    cases hv : (a == s)
    · rw [cond_false, i64_id (by omega)]
      have := int_idx l a hl r (pre ++ [s]) fuel (by rw [e]; simp) (by simp at h; omega)
      rw [List.length_append, List.length_singleton] at this
      obtain ⟨v, h1, h2⟩ := this
      refine ⟨v, h1, ?_⟩
      have hne : a ≠ s := by simpa using hv
      rw [h2]; simp [hne]
    · rw [cond_true]
      have he : a = s := by simpa using hv
      exact ⟨_, rfl, by simp [he]⟩

theorem contains_spec (l : List Int) (a : Int) (hl : l.length ≤ 1000) : slices_Contains_uint32_uint32.f 2000 l a = some (decide (a ∈ l)) := by
  unfold slices_Contains_uint32_uint32.f slices_Index_uint32_uint32.f
  obtain ⟨v, h1, h2⟩ := int_idx l a hl l [] 2000 rfl (by omega)
  have h1' : slices_Index_uint32_uint32.l1 l a 2000 0 0 = some v := h1
  rw [h1', Option.bind_some]
  congr 1
  exact decide_eq_decide.2 h2

def peerR (l : List api_Seg) (n a : Int) : Bool := (byR l n).2 && decide (a ∈ (byR l n).1.Peers)
theorem peer_spec (l : List api_Seg) (n a : Int) (hl : l.length ≤ 1000) (hp : ∀ s ∈ l, s.Peers.length ≤ 1000) : vni_Peer.f 2000 l n a = some (peerR l n a) := by
  unfold vni_Peer.f peerR
  rw [by_spec l n hl fun s hs => Nat.le_trans (hp s hs) (by decide), Option.bind_some]
  have hpl : (byR l n).1.Peers.length ≤ 1000 := by
    unfold byR
    cases hf : l.find? (fun s => s.Vni == n) with
    | none => simp [seg0]
    | some s => exact hp s (List.mem_of_find?_eq_some hf)
  generalize byR l n = y at hpl
  obtain ⟨s, b⟩ := y
  cases b
  · rfl
  · simp only [cond_true, Bool.true_and]
    rw [contains_spec _ _ hpl, Option.bind_some]
    rfl

/-! ### The head of a datagram's body -/
theorem flag_all : ((List.range 256).all fun n => ((bAnd .u8 (n : Int) 8) == 0) == decide (n / 8 % 2 = 0)) = true := by kernel_rfl
theorem flag_spec (n : Nat) (h : n < 256) : ((bAnd .u8 (n : Int) 8) == 0) = decide (n / 8 % 2 = 0) := by
  have := List.all_eq_true.1 flag_all n (List.mem_range.2 h)
  simpa using this

def vxR (s : ByteArray) : Int × ByteArray × Int :=
  if s.size < 8 then (0, ⟨#[]⟩, 80) else if ((L s).headD 0).toNat / 8 % 2 = 0 then (0, ⟨#[]⟩, 81) else ((at2 s 4 3 : Nat), s.extract 8 s.size, 0)

theorem idxS_at (s : ByteArray) (i : Nat) (x : UInt8) (h : (L s)[i]? = some x) : idxS s (i : Int) = some ((x.toNat : Nat) : Int) := by
  unfold idxS
  rw [if_pos (by omega)]
  have : s.data[(i : Int).toNat]? = some x := by rw [← Array.getElem?_toList]; exact h
  rw [this]; rfl

theorem vx_spec (s : ByteArray) (hs : s.size ≤ 140737488351232) : vxlan_Parse.f 2000 s = some (vxR s) := by
  unfold vxlan_Parse.f vxR
  by_cases h8 : s.size < 8
  · rw [if_pos h8, show decide ((s.size : Int) < 8) = true by simp; omega]; rfl
  · rw [if_neg h8, show decide ((s.size : Int) < 8) = false by simp; omega, cond_false]
    have hlen : (L s).length = s.size := L_length s
    obtain ⟨x, r, hx⟩ : ∃ x r, L s = x :: r := by
      cases hL : L s with
      | nil => rw [hL] at hlen; simp at hlen; omega
      | cons x r => exact ⟨x, r, rfl⟩
    have h0 := idxS_at s 0 x (by rw [hx]; rfl)
    rw [show ((0 : Nat) : Int) = 0 from rfl] at h0
    rw [h0, Option.bind_some, flag_spec _ x.toNat_lt]
    have hhead : ((L s).headD 0).toNat = x.toNat := by rw [hx]; rfl
    rw [hhead]
    by_cases hf : x.toNat / 8 % 2 = 0
    · rw [if_pos hf, decide_eq_true hf]; rfl
    · rw [if_neg hf, decide_eq_false hf, cond_false]
      have hg := get_in s 4 3 (by omega) (by omega) hs
      have h4 : octets_Get.f 2000 s 4 3 = some (((beV (((L s).drop 4).take 3) : Nat) : Int), 0) := hg
      rw [h4, Option.bind_some]
      simp only
      have hlt : beV (((L s).drop 4).take 3) < 256 ^ 3 := by
        have := beV_lt (((L s).drop 4).take 3)
        refine Nat.lt_of_lt_of_le this (Nat.pow_le_pow_right (by decide) ?_)
        rw [List.length_take]; omega
      rw [sliceS_eq (by omega), Option.bind_some, i64_id (by omega)]
      simp only [Int.toNat_natCast]
      rfl

/-! ### Unwrap -/
def unwR (l : List api_Seg) (from_ : Int) (body : ByteArray) : api_Seg × api_Frame × Int :=
  if (vxR body).2.2 ≠ 0 then (seg0, frame0, 1) else if (byR l (vxR body).1).2 = false then (seg0, frame0, 2) else if peerR l (vxR body).1 from_ = false then (seg0, frame0, 3)
  else if (parseR (vxR body).2.1).2 = 0 ∧ (parseR (vxR body).2.1).1.Tag.Has = false then ((byR l (vxR body).1).1, (parseR (vxR body).2.1).1, 0) else (seg0, frame0, 4)

theorem step0 (l : List api_Seg) (f : Int) (x1 : Int) (x2 : ByteArray) (x3 x4 : Int) (x5 : List Int) (x6 x7 : Int) (x8 : Bool) (x9 : Int) (x10 : Bool) (x11 x12 : Int) (x13 : ByteArray) :
    tunnel_opener_step.f 2000 l f x1 x2 x3 x4 x5 x6 x7 x8 x9 x10 x11 x12 x13 0 = (vxlan_Parse.f 2000 x2).bind fun (r2, r3, r4) => some ((r4 == 0), r2, r3, x3, x4, x5, x6, x7, x8, x9, x10, x11, x12, x13) := rfl
theorem step1 (l : List api_Seg) (f : Int) (x1 : Int) (x2 : ByteArray) (x3 x4 : Int) (x5 : List Int) (x6 x7 : Int) (x8 : Bool) (x9 : Int) (x10 : Bool) (x11 x12 : Int) (x13 : ByteArray) :
    tunnel_opener_step.f 2000 l f x1 x2 x3 x4 x5 x6 x7 x8 x9 x10 x11 x12 x13 1 = (vni_By.f 2000 l x1).bind fun (r8, r9) => some (r9, x1, x2, r8.Vid, r8.Vni, r8.Peers, x6, x7, x8, x9, x10, x11, x12, x13) := rfl
theorem step2 (l : List api_Seg) (f : Int) (x1 : Int) (x2 : ByteArray) (x3 x4 : Int) (x5 : List Int) (x6 x7 : Int) (x8 : Bool) (x9 : Int) (x10 : Bool) (x11 x12 : Int) (x13 : ByteArray) :
    tunnel_opener_step.f 2000 l f x1 x2 x3 x4 x5 x6 x7 x8 x9 x10 x11 x12 x13 2 = (vni_Peer.f 2000 l x1 f).bind fun r14 => some (r14, x1, x2, x3, x4, x5, x6, x7, x8, x9, x10, x11, x12, x13) := rfl
theorem step3 (l : List api_Seg) (f : Int) (x1 : Int) (x2 : ByteArray) (x3 x4 : Int) (x5 : List Int) (x6 x7 : Int) (x8 : Bool) (x9 : Int) (x10 : Bool) (x11 x12 : Int) (x13 : ByteArray) :
    tunnel_opener_step.f 2000 l f x1 x2 x3 x4 x5 x6 x7 x8 x9 x10 x11 x12 x13 3 = (ether_Parse.f 2000 x2).bind fun (r16, r17) => some (((r17 == 0) && (!r16.Tag.Has)), x1, x2, x3, x4, x5, r16.Dst, r16.Src, r16.Tag.Has, r16.Tag.Pri, r16.Tag.Dei, r16.Tag.Vid, r16.Type_, r16.Body) := rfl

theorem unwrap_spec (l : List api_Seg) (from_ : Int) (u : api_Udp) (hl : l.length ≤ 1000) (hp : ∀ s ∈ l, s.Peers.length ≤ 1000) (hb : u.Body.size ≤ 140737488351232) : tunnel_Unwrap.f 2000 l from_ u = some (unwR l from_ u.Body) := by
  unfold tunnel_Unwrap.f unwR
  rw [step0, vx_spec _ hb, Option.bind_some]
  generalize vxR u.Body = x
  obtain ⟨v, s, e⟩ := x
  simp only [Option.bind_some]
  by_cases he : e = 0
  · subst he
    simp only [beq_self_eq_true, Bool.not_true, cond_false, ne_eq, not_true_eq_false, if_false]
    rw [step1, by_spec l v hl fun s hs => Nat.le_trans (hp s hs) (by decide), Option.bind_some]
    cases hy : byR l v with
    | mk y b =>
      simp only [Option.bind_some]
      cases b
      · simp [seg0, frame0, tag0]
      · simp only [Bool.not_true, cond_false]
        rw [step2, peer_spec l v from_ hl hp, Option.bind_some]
        simp only [Option.bind_some]
        cases hpr : peerR l v from_
        · simp [seg0, frame0, tag0]
        · simp only [Bool.not_true, cond_false]
          rw [step3, parse_spec, Option.bind_some]
          generalize parseR s = z
          obtain ⟨f, c⟩ := z
          simp only [Option.bind_some]
          by_cases hc : c = 0
          · subst hc
            cases hh : f.Tag.Has
            · simp [tunnel_Unwrap.k1, hh]
              obtain ⟨d, sr, ⟨th, tp, td, tv⟩, ty, bd⟩ := f
              simp at hh
              simp [hh]
            · simp [hh, seg0, frame0, tag0]
          · have h1 : (c == 0) = false := by simp [hc]
            simp [h1, hc, seg0, frame0, tag0]
  · have h1 : (e == 0) = false := by simp [he]
    rw [h1]
    simp [he, seg0, frame0, tag0]
end Go.Proofs.YtbodofjnfmjbpaaGreatDoor

namespace Go.Proofs.YtbodofjnfmjbpaaGreatDoor
open Go Eng
theorem fixed_true : gangwaylaw22_fixed.f 2000 = some true := by kernel_rfl
end Go.Proofs.YtbodofjnfmjbpaaGreatDoor
