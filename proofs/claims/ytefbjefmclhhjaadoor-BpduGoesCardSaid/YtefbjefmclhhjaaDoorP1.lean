/- Plain arithmetic of the functions' models: no conditions but those that each theorem bears. -/
import Derived.Test.YtefbjefmclhhjaaDoorF2
import Derived.Test.YtefbjefmclhhjaaDoorE1
import Derived.Test.YtefbjefmclhhjaaDoorF4

namespace Go.Proofs.YtefbjefmclhhjaaDoor
open Go Eng
set_option linter.unusedVariables false
set_option linter.unusedSimpArgs false

theorem pow256 (i : Nat) : (2 : Nat) ^ (8 * i) = 256 ^ i := by rw [Nat.pow_mul]
theorem shr_spec (v i : Nat) (hi : i ≤ 7) : shrI .u64 (v : Int) (i64 (8 * (i : Int))) = some ((v / 256 ^ i : Nat) : Int) := by
  rw [i64_id (by omega)]
  simp only [shrI, IntKind.bits]
  rw [if_neg (by omega)]
  have : (8 * (i : Int)).toNat = 8 * i := by omega
  rw [this, Nat.min_eq_left (by omega), ← pow256, Int.fdiv_eq_ediv_of_nonneg _ (Int.pow_nonneg (by decide)), Int.natCast_ediv, Int.natCast_pow]
  rfl

theorem drop_set {α : Type} (l : List α) (i : Nat) (b : α) (hi : i < l.length) : (l.set i b).drop i = b :: l.drop (i + 1) := by
  apply List.ext_getElem?
  intro j
  rw [List.getElem?_drop]
  cases j with
  | zero => simp [hi]
  | succ j =>
    rw [List.getElem?_cons_succ, List.getElem?_drop, List.getElem?_set_ne (by omega)]
    congr 1; omega

theorem put_loop (v w : Nat) (hw : 1 ≤ w ∧ w ≤ 8) : ∀ (j i : Nat) (xs : List Int) (fuel : Nat), i + j = w → xs.length = w → j < fuel → xs.drop (w - i) = (beL i v).map (fun b => (b.toNat : Int)) →
    octets_Put.l3 w v w fuel i xs = some (be w v, 0)
  | 0, i, xs, 0, hij, hl, hf, hd => by omega
  | 0, i, xs, fuel + 1, hij, hl, hf, hd => by
    obtain rfl : i = w := by omega
    simp only [octets_Put.l3]
    rw [show decide ((i : Int) < (i : Int)) = false by simp]
    simp only [cond_false, octets_Put.k4]
    rw [show i - i = 0 by omega, List.drop_zero] at hd
    have : strOf i xs = some (be i v) := by
      unfold strOf
      rw [if_pos (by omega), List.take_of_length_le (by omega)]
      congr 1
      rw [hd]
      simp only [strOfNums, be, List.map_map]
      congr 1
      rw [show ((fun n : Int => UInt8.ofNat n.toNat) ∘ fun b : UInt8 => (b.toNat : Int)) = id by funext b; simp]
      simp
    rw [this]
    rfl
  | j + 1, i, xs, 0, hij, hl, hf, hd => by omega
  | j + 1, i, xs, fuel + 1, hij, hl, hf, hd => by
    simp only [octets_Put.l3]
    rw [show decide ((i : Int) < (w : Int)) = true by simp; omega]
    simp only [cond_true]
    rw [shr_spec v i (by omega), i64_id (n := (w : Int) - 1) (by omega), i64_id (n := (w : Int) - 1 - (i : Int)) (by omega), i64_id (n := (i : Int) + 1) (by omega)]
    have hg : ((w : Int) - 1 - (i : Int)).toNat = w - (i + 1) := by omega
    obtain ⟨x, hx⟩ : ∃ x, getL w xs ((w : Int) - 1 - (i : Int)) = some x := by
      unfold getL
      rw [if_pos (by omega), hg]
      exact ⟨_, List.getElem?_eq_getElem (by omega)⟩
    rw [hx]
    simp only [Option.bind_some]
    have := put_loop v w hw j (i + 1) (List.set xs (w - (i + 1)) (u8 ((v / 256 ^ i : Nat) : Int))) fuel (by omega) (by simpa using hl) (by omega) (by
      rw [drop_set _ _ _ (by omega)]
      simp only [beL, List.map_cons]
      rw [show w - (i + 1) + 1 = w - i by omega, hd]
      congr 1
      rw [u8_mod]
      simp)
    rw [hg]
    exact this

theorem put_spec (v w : Nat) (hw : 1 ≤ w ∧ w ≤ 8) (hv : v < 256 ^ w) (hv2 : v < 2 ^ 64) : octets_Put.f 10 v w = some (be w v, 0) := by
  have hk : octets_Put.k2 w v 10 false = some (be w v, 0) := by
    simp only [octets_Put.k2, cond_false]
    have : mkLen 1 w = some w := by
      unfold mkLen
      rw [if_pos (by omega)]
      simp
    rw [this, Option.bind_some]
    exact put_loop v w hw w 0 _ 10 (by omega) (by simp) (by omega) (by simp [beL])
  simp only [octets_Put.f]
  rw [show ((decide ((w : Int) < 1)) || (decide ((w : Int) > 8))) = false by simp; omega]
  simp only [cond_false]
  by_cases h8 : w < 8
  · rw [show decide ((w : Int) < 8) = true by simp; omega]
    simp only [cond_true]
    rw [shr_spec v w (by omega), Option.bind_some, Nat.div_eq_of_lt hv]
    exact hk
  · rw [show decide ((w : Int) < 8) = false by simp; omega]
    simp only [cond_false]
    exact hk

/-! ### Get -/
theorem mul_or {a c : Nat} (ha : a < 72057594037927936) (hc : c < 256) : bOr .u64 (u64 ((a : Int) * 256)) (u64 (c : Int)) = ((a * 256 + c : Nat) : Int) := by
  rw [u64_id (by omega), u64_id (by omega)]
  have e : ((a : Int) * 256) = ((a * 256 : Nat) : Int) := by omega
  rw [e]
  have h1 : a * 256 < 2 ^ 64 := by omega
  have h2 : c < 2 ^ 64 := by omega
  have h3 := bOr_u64 h1 h2
  rw [h3]
  have h4 := or_add 8 (x := a) (y := c) (by omega)
  rw [show (2 : Nat) ^ 8 = 256 from rfl] at h4
  rw [h4]
theorem get_loop (r : ByteArray) (n : Nat) (hn : n ≤ 8) (hr : r.size = n) : ∀ (j i fuel : Nat), i + j = n → j < fuel → octets_Get.l1 n r fuel ((beV ((L r).take i) : Nat) : Int) i = some (((beV (L r) : Nat) : Int), 0)
  | 0, i, 0, hij, hf => by omega
  | 0, i, fuel + 1, hij, hf => by
    obtain rfl : i = n := by omega
    simp only [octets_Get.l1]
    rw [show decide ((i : Int) < (i : Int)) = false by simp]
    rw [List.take_of_length_le (by rw [L_length]; omega)]
    rfl
  | j + 1, i, 0, hij, hf => by omega
  | j + 1, i, fuel + 1, hij, hf => by
    simp only [octets_Get.l1]
    rw [show decide ((i : Int) < (n : Int)) = true by simp; omega]
    simp only [cond_true]
    have hlen : i < (L r).length := by rw [L_length]; omega
    have hidx : idxS r i = some (((L r)[i].toNat : Nat) : Int) := by
      unfold idxS
      rw [if_pos (by omega)]
      have : (r.data[(i : Int).toNat]?) = some (L r)[i] := by
        rw [← Array.getElem?_toList]
        exact List.getElem?_eq_getElem hlen
      rw [this]; rfl
    rw [hidx, Option.bind_some]
    have ht : (L r).take (i + 1) = (L r).take i ++ [(L r)[i]] := by rw [List.take_append_getElem]
    have hb := beV_lt ((L r).take i)
    rw [List.length_take, Nat.min_eq_left (by omega)] at hb
    have hp : 256 ^ i ≤ 256 ^ 7 := Nat.pow_le_pow_right (by decide) (by omega)
    have h7 : (256 : Nat) ^ 7 = 72057594037927936 := by decide
    have hc := (L r)[i].toNat_lt
    have hval : beV ((L r).take (i + 1)) = beV ((L r).take i) * 256 + (L r)[i].toNat := by
      rw [ht]
      show List.foldl _ 0 (_ ++ _) = _
      rw [List.foldl_append]
      rfl
    have hstep := mul_or (a := beV ((L r).take i)) (c := (L r)[i].toNat) (by omega) (by omega)
    rw [← hval] at hstep
    rw [hstep, i64_id (by omega)]
    have := get_loop r n hn hr j (i + 1) fuel (by omega) (by omega)
    exact this

theorem part_in (s : ByteArray) (o n : Nat) (h : o + n ≤ s.size) (hs : s.size ≤ 140737488351232) : octets_part.f s o n = some (s.extract o (o + n), none) := by
  simp only [octets_part.f]
  rw [show ((decide ((o : Int) < 0)) || (decide ((n : Int) < 0))) = false by simp]
  simp only [cond_false]
  rw [i64_id (by omega), i64_id (by omega)]
  rw [show ((decide ((o : Int) > (s.size : Int))) || (decide ((n : Int) > (s.size : Int) - (o : Int)))) = false by simp; omega]
  simp only [cond_false]
  rw [sliceS_eq (by omega)]
  rfl
theorem part_out (s : ByteArray) (o n : Nat) (h : s.size < o + n) (hs : s.size ≤ 140737488351232) : octets_part.f s o n = some ((⟨#[]⟩ : ByteArray), some ((o : Int), 10)) := by
  simp only [octets_part.f]
  rw [show ((decide ((o : Int) < 0)) || (decide ((n : Int) < 0))) = false by simp]
  simp only [cond_false]
  by_cases ho : s.size < o
  · rw [show decide ((o : Int) > (s.size : Int)) = true by simp; omega]
    rfl
  · rw [i64_id (by omega)]
    rw [show ((decide ((o : Int) > (s.size : Int))) || (decide ((n : Int) > (s.size : Int) - (o : Int)))) = true by simp; omega]
    rfl

theorem get_in (s : ByteArray) (o n : Nat) (hn : 1 ≤ n ∧ n ≤ 8) (h : o + n ≤ s.size) (hs : s.size ≤ 140737488351232) : octets_Get.f 10 s o n = some (((beV (((L s).drop o).take n) : Nat) : Int), 0) := by
  simp only [octets_Get.f]
  rw [show ((decide ((n : Int) < 1)) || (decide ((n : Int) > 8))) = false by simp; omega]
  simp only [cond_false]
  rw [part_in s o n h hs, Option.bind_some]
  have e : L (s.extract o (o + n)) = ((L s).drop o).take n := by rw [L_extract]; congr 1; omega
  have hz : (s.extract o (o + n)).size = n := by rw [← L_length, e]; simp [L_length]; omega
  have := get_loop (s.extract o (o + n)) n (by omega) hz n 0 10 (by omega) (by omega)
  rw [e] at this
  exact this
theorem get_out (s : ByteArray) (o n : Nat) (hn : 1 ≤ n ∧ n ≤ 8) (h : s.size < o + n) (hs : s.size ≤ 140737488351232) : octets_Get.f 10 s o n = some (0, 10) := by
  simp only [octets_Get.f]
  rw [show ((decide ((n : Int) < 1)) || (decide ((n : Int) > 8))) = false by simp; omega]
  simp only [cond_false]
  rw [part_out s o n h hs, Option.bind_some]
  rfl
end Go.Proofs.YtefbjefmclhhjaaDoor

namespace Go.Proofs.YtefbjefmclhhjaaDoor
open Go Eng
set_option linter.unusedVariables false
set_option linter.unusedSimpArgs false

def tag0 : api_Tag := ⟨false, 0, false, 0⟩
def frame0 : api_Frame := ⟨0, 0, tag0, 0, ⟨#[]⟩⟩

structure Good (a : api_Frame) : Prop where
  dst : 0 ≤ a.Dst ∧ a.Dst < 281474976710656
  src : 0 ≤ a.Src ∧ a.Src < 281474976710656
  bare : a.Tag.Has = false → a.Tag = tag0
  tag : a.Tag.Has = true → 0 ≤ a.Tag.Pri ∧ a.Tag.Pri < 8 ∧ 0 ≤ a.Tag.Vid ∧ a.Tag.Vid < 4096
  type : (a.Type_ = 0 ∧ a.Body.size ≤ 1500) ∨ (1536 ≤ a.Type_ ∧ a.Type_ ≤ 65535 ∧ a.Type_ ≠ 33024)
  size : 14 + a.Body.size + (if a.Tag.Has then 4 else 0) ≤ 1600

theorem size_spec (a : api_Frame) (hb : a.Body.size ≤ 140737488351232) : ether_size.f a = some (((14 + a.Body.size + (if a.Tag.Has then 4 else 0) : Nat) : Int)) := by
  unfold ether_size.f ether_size.k1
  rw [i64_id (n := 14 + (a.Body.size : Int)) (by omega), i64_id (by omega)]
  cases a.Tag.Has <;> simp <;> omega

theorem tag_spec (t : api_Tag) : ∃ b, ether_tag.f t = some b ∧ (b = true ↔ ((t.Has = false → t = tag0) ∧ (t.Has = true → 0 ≤ t.Pri ∧ t.Pri < 8 ∧ 0 ≤ t.Vid ∧ t.Vid < 4096))) := by
  obtain ⟨h, p, d, v⟩ := t
  unfold ether_tag.f
  cases h
  · refine ⟨_, rfl, ?_⟩
    simp [tag0]
  · refine ⟨_, rfl, ?_⟩
    simp [and_assoc]

theorem check_spec (a : api_Frame) (h1 : 0 ≤ a.Dst) (h2 : 0 ≤ a.Src) (hb : a.Body.size ≤ 140737488351232) : ∃ c, ether_Check.f a = some c ∧ (c = 0 ↔ Good a) := by
  have hk1 : ∃ c, ether_Check.k1 a true = some c ∧ c ≠ 0 := ⟨41, rfl, by decide⟩
  have hk2 : ether_Check.k2 a true = ether_Check.k1 a true := rfl
  unfold ether_Check.f
  by_cases hd : a.Dst < 281474976710656 ∧ a.Src < 281474976710656
  · rw [show ((decide (a.Dst ≥ 281474976710656)) || (decide (a.Src ≥ 281474976710656))) = false by simp; omega]
    simp only [cond_false]
    obtain ⟨b, hb1, hb2⟩ := tag_spec a.Tag
    rw [hb1, Option.bind_some]
    cases b
    · refine ⟨41, rfl, ⟨fun h => (by cases h), fun g => ?_⟩⟩
      have := hb2.2 ⟨g.bare, g.tag⟩
      cases this
    · have ht := hb2.1 rfl
      simp only [Bool.not_true, ether_Check.k2, cond_false]
      by_cases hty : a.Type_ = 0 ∨ (1536 ≤ a.Type_ ∧ a.Type_ ≤ 65535 ∧ a.Type_ ≠ 33024)
      · rw [show ((a.Type_ != 0) && (!(((decide (a.Type_ ≥ 1536)) && (decide (a.Type_ ≤ 65535))) && (a.Type_ != 33024)))) = false by
          rcases hty with h | ⟨x, y, z⟩
          · simp [h]
          · simp [x, y, z]]
        simp only [ether_Check.k1, cond_false]
        by_cases hs : a.Type_ = 0 ∧ 1500 < a.Body.size
        · rw [show ((a.Type_ == 0) && (decide ((a.Body.size : Int) > 1500))) = true by simp [hs.1]; omega]
          refine ⟨40, rfl, ⟨fun h => (by cases h), fun g => ?_⟩⟩
          rcases g.type with h | h <;> omega
        · rw [show ((a.Type_ == 0) && (decide ((a.Body.size : Int) > 1500))) = false by simp; omega]
          simp only [cond_false]
          rw [size_spec a hb, Option.bind_some]
          by_cases hz : 14 + a.Body.size + (if a.Tag.Has then 4 else 0) ≤ 1600
          · rw [show decide ((((14 + a.Body.size + (if a.Tag.Has then 4 else 0) : Nat) : Int)) > 1600) = false by simp only [decide_eq_false_iff_not]; omega]
            refine ⟨0, rfl, ⟨fun _ => ⟨⟨h1, hd.1⟩, ⟨h2, hd.2⟩, ht.1, ht.2, ?_, hz⟩, fun _ => rfl⟩⟩
            rcases hty with h | h
            · exact .inl ⟨h, by omega⟩
            · exact .inr h
          · rw [show decide ((((14 + a.Body.size + (if a.Tag.Has then 4 else 0) : Nat) : Int)) > 1600) = true by simp only [decide_eq_true_eq]; omega]
            exact ⟨41, rfl, ⟨fun h => (by cases h), fun g => absurd g.size hz⟩⟩
      · rw [show ((a.Type_ != 0) && (!(((decide (a.Type_ ≥ 1536)) && (decide (a.Type_ ≤ 65535))) && (a.Type_ != 33024)))) = true by
          simp; omega]
        refine ⟨41, rfl, ⟨fun h => (by cases h), fun g => ?_⟩⟩
        rcases g.type with h | h <;> omega
  · rw [show ((decide (a.Dst ≥ 281474976710656)) || (decide (a.Src ≥ 281474976710656))) = true by simp; omega]
    refine ⟨41, rfl, ⟨fun h => (by cases h), fun g => ?_⟩⟩
    exact absurd ⟨g.dst.2, g.src.2⟩ hd

/-! ### Build -/
def infoN (t : api_Tag) : Nat := t.Pri.toNat * 8192 + ((if t.Dei then 4096 else 0) + t.Vid.toNat)
def tagL (t : api_Tag) : List UInt8 := if t.Has then beL 2 33024 ++ beL 2 (infoN t) else []
def typeN (a : api_Frame) : Nat := if a.Type_ = 0 then a.Body.size else a.Type_.toNat
def frameL (a : api_Frame) : List UInt8 := beL 6 a.Dst.toNat ++ (beL 6 a.Src.toNat ++ (tagL a.Tag ++ (beL 2 (typeN a) ++ L a.Body)))

theorem eput (v wi : Int) (w : Nat) (hwi : wi = (w : Int)) (hw : 1 ≤ w ∧ w ≤ 8) (h0 : 0 ≤ v) (hv : v < ((256 ^ w : Nat) : Int)) (hv2 : v < 18446744073709551616) : ether_put.f 10 v wi = some (be w v.toNat) := by
  subst hwi
  have : v = ((v.toNat : Nat) : Int) := by omega
  unfold ether_put.f
  have h := put_spec v.toNat w hw (by omega) (by omega)
  rw [← this] at h
  rw [h]
  rfl

theorem info_spec (t : api_Tag) (h : 0 ≤ t.Pri ∧ t.Pri < 8 ∧ 0 ≤ t.Vid ∧ t.Vid < 4096) : ether_info.f t = some ((infoN t : Nat) : Int) ∧ infoN t < 65536 := by
  obtain ⟨ha, p, d, v⟩ := t
  obtain ⟨p, rfl⟩ : ∃ n : Nat, p = n := ⟨p.toNat, by simp only at h; omega⟩
  obtain ⟨v, rfl⟩ : ∃ n : Nat, v = n := ⟨v.toNat, by simp only at h; omega⟩
  simp only at h
  have e1 : bOr .i64 (i64 ((p : Int) * 8192)) (v : Int) = ((p * 8192 + v : Nat) : Int) := by
    rw [i64_id (by omega)]
    have e : ((p : Int) * 8192) = ((p * 8192 : Nat) : Int) := by omega
    rw [e, bOr_i64 (show p * 8192 < 2 ^ 63 by omega) (show v < 2 ^ 63 by omega)]
    have h4 := or_add 13 (x := p) (y := v) (by omega)
    rw [show (2 : Nat) ^ 13 = 8192 from rfl] at h4
    rw [h4]
  unfold ether_info.f
  cases d
  · simp only [cond_false, e1, ether_info.k1]
    rw [u64_id (by omega)]
    simp only [infoN]
    refine ⟨by simp, by simp; omega⟩
  · simp only [cond_true, e1, ether_info.k1]
    have e2 : bOr .i64 ((p * 8192 + v : Nat) : Int) 4096 = ((p * 8192 + (4096 + v) : Nat) : Int) := by
      have h1 := bOr_i64 (show p * 8192 + v < 2 ^ 63 by omega) (show 4096 < 2 ^ 63 by decide)
      rw [show ((4096 : Nat) : Int) = 4096 from rfl] at h1
      rw [h1]
      have a1 := or_add 13 (x := p) (y := v) (by omega)
      have a2 := or_add 12 (x := 1) (y := v) (by omega)
      have a3 := or_add 13 (x := p) (y := 4096 + v) (by omega)
      rw [show (2 : Nat) ^ 13 = 8192 from rfl] at a1 a3
      rw [show 1 * (2 : Nat) ^ 12 = 4096 from rfl] at a2
      rw [← a1, Nat.or_assoc, Nat.or_comm v 4096, a2, a3]
    rw [e2, u64_id (by omega)]
    simp only [infoN]
    refine ⟨by simp, by simp; omega⟩

theorem build_good (a : api_Frame) (g : Good a) : ether_Build.f 10 a = some (⟨(frameL a).toArray⟩, 0) := by
  have hbs : a.Body.size ≤ 1600 := by have := g.size; omega
  obtain ⟨c, hc, hc0⟩ := check_spec a g.dst.1 g.src.1 (by omega)
  have : c = 0 := hc0.2 g
  subst this
  unfold ether_Build.f
  rw [hc, Option.bind_some]
  rw [show ((0 : Int) != 0) = false from rfl]
  simp only [cond_false]
  rw [eput a.Dst 6 6 rfl (by omega) g.dst.1 (by have := g.dst.2; simpa using this) (by have := g.dst.2; omega), Option.bind_some]
  rw [eput a.Src 6 6 rfl (by omega) g.src.1 (by have := g.src.2; simpa using this) (by have := g.src.2; omega), Option.bind_some]
  rw [catS_eq (by simp [be_size]), Option.bind_some]
  -- the rest, behind the tag
  have k1 : ∀ (x : ByteArray) (z : Int), x.size ≤ 100 → z = ((typeN a : Nat) : Int) → ether_Build.k1 10 x a z = some (⟨(L x ++ (beL 2 (typeN a) ++ L a.Body)).toArray⟩, 0) := fun x z hx hz => by
    have hz2 : z < 65536 := by
      rw [hz]
      rcases g.type with h | h
      · simp only [typeN, h.1, if_true]; omega
      · simp only [typeN]; rw [if_neg (by omega)]; omega
    unfold ether_Build.k1
    rw [u64_id (by omega), eput z 2 2 rfl (by omega) (by omega) (by simpa using hz2) (by omega), Option.bind_some]
    have e : z.toNat = typeN a := by omega
    rw [e, catS_eq (by simp [be_size]; omega), Option.bind_some, catS_eq (by simp [be_size]; omega), Option.bind_some]
    refine congrArg (fun z => some (z, (0 : Int))) (L_inj (Eq.trans ?_ (L_mk _).symm))
    rw [L_append, L_append, L_be, List.append_assoc]
  have k2 : ∀ (x : ByteArray), x.size ≤ 100 → ether_Build.k2 a 10 x = some (⟨(L x ++ (beL 2 (typeN a) ++ L a.Body)).toArray⟩, 0) := fun x hx => by
    unfold ether_Build.k2
    by_cases ht : a.Type_ = 0
    · rw [show (a.Type_ == 0) = true by simp [ht]]
      exact k1 x _ hx (by simp [typeN, ht])
    · rw [show (a.Type_ == 0) = false by simp [ht]]
      refine k1 x _ hx ?_
      rcases g.type with h | h
      · exact absurd h.1 ht
      · simp only [typeN]; rw [if_neg ht]; omega
  cases hh : a.Tag.Has
  · simp only [cond_false]
    rw [k2 _ (by simp [be_size])]
    refine congrArg (fun z => some (z, (0 : Int))) (L_inj (Eq.trans (L_mk _) (Eq.trans ?_ (L_mk _).symm)))
    rw [L_append, L_be, L_be]
    simp [frameL, tagL, hh]
  · simp only [cond_true]
    obtain ⟨hi, hi2⟩ := info_spec a.Tag (g.tag hh)
    rw [eput 33024 2 2 rfl (by omega) (by omega) (by decide) (by omega), Option.bind_some, hi, Option.bind_some, eput _ 2 2 rfl (by omega) (by omega) (Int.ofNat_lt.2 (by simpa using hi2)) (by omega), Option.bind_some]
    rw [catS_eq (by simp [be_size]), Option.bind_some, catS_eq (by simp [be_size]), Option.bind_some, k2 _ (by simp [be_size])]
    refine congrArg (fun z => some (z, (0 : Int))) (L_inj (Eq.trans (L_mk _) (Eq.trans ?_ (L_mk _).symm)))
    rw [L_append, L_append, L_append, L_be, L_be, L_be, L_be]
    simp [frameL, tagL, hh]

theorem build_bad (a : api_Frame) (h1 : 0 ≤ a.Dst) (h2 : 0 ≤ a.Src) (hb : a.Body.size ≤ 140737488351232) (g : ¬ Good a) : ∃ c, c ≠ 0 ∧ ether_Check.f a = some c ∧ ether_Build.f 10 a = some (⟨#[]⟩, c) := by
  obtain ⟨c, hc, hc0⟩ := check_spec a h1 h2 hb
  have hne : c ≠ 0 := fun h => g (hc0.1 h)
  refine ⟨c, hne, hc, ?_⟩
  unfold ether_Build.f
  rw [hc, Option.bind_some, show (c != 0) = true by simp [hne]]
  rfl
end Go.Proofs.YtefbjefmclhhjaaDoor

namespace Go.Proofs.YtefbjefmclhhjaaDoor
open Go Eng
set_option linter.unusedVariables false
set_option linter.unusedSimpArgs false

theorem rget_in (s : ByteArray) (o n : Nat) (oi ni : Int) (ho : oi = o) (hni : ni = n) (nm : ByteArray) (hn : 1 ≤ n ∧ n ≤ 8) (h : o + n ≤ s.size) (hs : s.size ≤ 1600) :
    ether_reader_get.f 10 ⟨s, oi⟩ ni nm = some (((beV (((L s).drop o).take n) : Nat) : Int), none, ⟨s, ((o + n : Nat) : Int)⟩) := by
  subst ho; subst hni
  unfold ether_reader_get.f
  simp only
  rw [get_in s o n hn h (by omega), Option.bind_some]
  simp only [bne_self_eq_false, cond_false]
  rw [i64_id (by omega)]
  rfl
theorem rget_out (s : ByteArray) (o n : Nat) (oi ni : Int) (ho : oi = o) (hni : ni = n) (nm : ByteArray) (hn : 1 ≤ n ∧ n ≤ 8) (h : s.size < o + n) (hs : s.size ≤ 1600) :
    ether_reader_get.f 10 ⟨s, oi⟩ ni nm = some (0, some (nm, 40), ⟨s, oi⟩) := by
  subst ho; subst hni
  unfold ether_reader_get.f
  simp only
  rw [get_out s o n hn h (by omega), Option.bind_some]
  rfl

/-- What the reader ends with, as a Parse: the frame, or why there is none. -/
def ends (x : api_Frame × Un1 × ether_reader) : api_Frame × Int := match x.2.1 with
  | none => (x.1, 0)
  | some (_, e) => (frame0, e)

theorem parse_of (s : ByteArray) (hs : s.size ≤ 1600) (x : api_Frame × Un1 × ether_reader) (h : ether_reader_frame.f 10 ⟨s, 0⟩ = some x) : ether_Parse.f 10 s = some (ends x) := by
  unfold ether_Parse.f
  rw [show decide ((s.size : Int) > 1600) = false by simp; omega]
  simp only [cond_false]
  rw [h, Option.bind_some]
  obtain ⟨g, u, r⟩ := x
  rcases u with _ | ⟨q, e⟩
  · rfl
  · simp only [ends]
    by_cases he : e = 40
    · subst he; rfl
    · have h1 : errors_Is_1.f q e 40 = some false := by
        unfold errors_Is_1.f errors_is.f ether_odd_Unwrap.f
        rw [Option.bind_some]
        rw [show (true && (e == 40)) = false by simp [he]]
        rfl
      rw [h1, Option.bind_some]
      rfl

/-- The number behind the two addresses (and the tag). -/
def bodyR (s : ByteArray) (p : Nat) (a : api_Frame) (n : Nat) : api_Frame × Int :=
  if n = 33024 ∨ (1500 < n ∧ n < 1536) then (frame0, 41)
  else if 1500 < n then (⟨a.Dst, a.Src, a.Tag, n, s.extract p s.size⟩, 0)
  else if s.size < p + n then (frame0, 40)
  else (⟨a.Dst, a.Src, a.Tag, a.Type_, (s.extract p s.size).extract 0 n⟩, 0)

theorem body_spec (s : ByteArray) (p n : Nat) (pi ni : Int) (hpi : pi = p) (hni : ni = n) (a : api_Frame) (hp : p ≤ s.size) (hs : s.size ≤ 1600) (r : ether_reader) :
    ∃ u g, ether_reader_body.f ⟨s, pi⟩ a ni = some (u, g) ∧ ends (g, u, r) = bodyR s p a n := by
  subst hpi; subst hni
  unfold ether_reader_body.f
  simp only
  rw [sliceS_eq (by omega), Option.bind_some]
  simp only [Int.toNat_natCast]
  have hz : (s.extract p s.size).size = s.size - p := by simp
  by_cases h1 : n = 33024
  · subst h1
    refine ⟨_, _, rfl, ?_⟩
    simp [ends, bodyR]
  · rw [show (((n : Int)) == 33024) = false by simp; omega]
    simp only [cond_false]
    by_cases h2 : 1500 < n ∧ n < 1536
    · rw [show ((decide ((n : Int) > 1500)) && (decide ((n : Int) < 1536))) = true by simp; omega]
      refine ⟨_, _, rfl, ?_⟩
      simp [ends, bodyR, h2]
    · rw [show ((decide ((n : Int) > 1500)) && (decide ((n : Int) < 1536))) = false by simp; omega]
      simp only [ether_reader_body.k1, cond_false]
      by_cases h3 : 1500 < n
      · rw [show decide ((n : Int) > 1500) = true by simp; omega]
        refine ⟨_, _, rfl, ?_⟩
        simp only [ends, bodyR]
        rw [if_neg (by omega), if_pos h3]
      · rw [show decide ((n : Int) > 1500) = false by simp; omega]
        simp only [cond_false]
        by_cases h4 : s.size < p + n
        · rw [show decide ((n : Int) > ((s.extract p s.size).size : Int)) = true by rw [hz]; simp; omega]
          refine ⟨_, _, rfl, ?_⟩
          simp only [ends, bodyR]
          rw [if_neg (by omega), if_neg h3, if_pos h4]
        · rw [show decide ((n : Int) > ((s.extract p s.size).size : Int)) = false by rw [hz]; simp; omega]
          simp only [cond_false]
          rw [sliceS_eq (by rw [hz]; omega), Option.bind_some]
          refine ⟨_, _, rfl, ?_⟩
          simp only [ends, bodyR]
          rw [if_neg (by omega), if_neg h3, if_neg h4]
          rfl

theorem k1_spec (s : ByteArray) (p n : Nat) (pi ni d e : Int) (hpi : pi = p) (hni : ni = n) (t : api_Tag) (hp : p ≤ s.size) (hs : s.size ≤ 1600) :
    ∃ x, ether_reader_frame.k1 none ni s pi d e t.Has t.Pri t.Dei t.Vid 0 ⟨#[]⟩ = some x ∧ ends x = bodyR s p ⟨d, e, t, 0, ⟨#[]⟩⟩ n := by
  obtain ⟨u, g, h, he⟩ := body_spec s p n pi ni hpi hni ⟨d, e, t, 0, ⟨#[]⟩⟩ hp hs ⟨s, pi⟩
  unfold ether_reader_frame.k1
  simp only
  rw [h, Option.bind_some]
  rcases u with _ | ⟨q, w⟩
  · exact ⟨_, rfl, he⟩
  · exact ⟨_, rfl, he⟩

def at2 (s : ByteArray) (o n : Nat) : Nat := beV (((L s).drop o).take n)
def tagOf (v : Nat) : api_Tag := ⟨true, ((v / 8192 : Nat) : Int), decide (v / 4096 % 2 = 1), ((v % 4096 : Nat) : Int)⟩

/-- Parse, in plain words. -/
def parseR (s : ByteArray) : api_Frame × Int :=
  if 1600 < s.size then (frame0, 41)
  else if s.size < 14 then (frame0, 40)
  else if at2 s 12 2 = 33024 then
    (if s.size < 18 then (frame0, 40) else bodyR s 18 ⟨(at2 s 0 6 : Nat), (at2 s 6 6 : Nat), tagOf (at2 s 14 2), 0, ⟨#[]⟩⟩ (at2 s 16 2))
  else bodyR s 14 ⟨(at2 s 0 6 : Nat), (at2 s 6 6 : Nat), tag0, 0, ⟨#[]⟩⟩ (at2 s 12 2)

theorem at2_lt (s : ByteArray) (o n : Nat) : at2 s o n < 256 ^ n := by
  refine Nat.lt_of_lt_of_le (beV_lt _) (Nat.pow_le_pow_right (by decide) ?_)
  rw [List.length_take]; omega

theorem tagOf_spec (v : Nat) (hv : v < 65536) : (⟨true, Int.fdiv (i64 (v : Int)) 8192, (bAnd .i64 (i64 (v : Int)) 4096) != 0, Int.tmod (i64 (v : Int)) 4096⟩ : api_Tag) = tagOf v := by
  rw [i64_id (by omega), bAnd_4096 (by omega)]
  unfold tagOf
  have e1 : Int.fdiv (v : Int) 8192 = ((v / 8192 : Nat) : Int) := by
    rw [Int.fdiv_eq_ediv_of_nonneg _ (by decide)]; omega
  have e2 : Int.tmod (v : Int) 4096 = ((v % 4096 : Nat) : Int) := by
    rw [Int.tmod_eq_emod_of_nonneg (by omega)]; omega
  have e3 : ((((v / 4096 % 2) * 4096 : Nat) : Int) != 0) = decide (v / 4096 % 2 = 1) := by
    rcases Nat.mod_two_eq_zero_or_one (v / 4096) with h | h <;> simp [h]
  rw [e1, e2, e3]

theorem parse_spec (s : ByteArray) : ether_Parse.f 10 s = some (parseR s) := by
  by_cases hs : 1600 < s.size
  · unfold ether_Parse.f parseR
    rw [if_pos hs, show decide ((s.size : Int) > 1600) = true by simp; omega]
    rfl
  · have hs' : s.size ≤ 1600 := by omega
    suffices h : ∃ x, ether_reader_frame.f 10 ⟨s, 0⟩ = some x ∧ ends x = parseR s by
      obtain ⟨x, h1, h2⟩ := h
      rw [parse_of s hs' x h1, h2]
    unfold ether_reader_frame.f
    by_cases h6 : s.size < 6
    · rw [rget_out s 0 6 0 6 rfl rfl _ (by omega) (by omega) hs', Option.bind_some]
      refine ⟨_, rfl, ?_⟩
      simp only [ends, parseR]
      rw [if_neg hs, if_pos (by omega)]
    · rw [rget_in s 0 6 0 6 rfl rfl _ (by omega) (by omega) hs', Option.bind_some]
      simp only
      by_cases h12 : s.size < 12
      · rw [rget_out s 6 6 _ 6 rfl rfl _ (by omega) (by omega) hs', Option.bind_some]
        refine ⟨_, rfl, ?_⟩
        simp only [ends, parseR]
        rw [if_neg hs, if_pos (by omega)]
      · rw [rget_in s 6 6 _ 6 rfl rfl _ (by omega) (by omega) hs', Option.bind_some]
        simp only
        by_cases h14 : s.size < 14
        · rw [rget_out s 12 2 _ 2 rfl rfl _ (by omega) (by omega) hs', Option.bind_some]
          refine ⟨_, rfl, ?_⟩
          simp only [ends, parseR]
          rw [if_neg hs, if_pos h14]
        · rw [rget_in s 12 2 _ 2 rfl rfl _ (by omega) (by omega) hs', Option.bind_some]
          simp only
          have h2 := at2_lt s 12 2
          have hi : i64 ((beV (((L s).drop 12).take 2) : Nat) : Int) = ((at2 s 12 2 : Nat) : Int) := i64_id (by unfold at2 at h2; omega)
          rw [hi]
          unfold parseR
          rw [if_neg hs, if_neg h14]
          by_cases h81 : at2 s 12 2 = 33024
          · rw [if_pos h81, h81, show (((33024 : Nat) : Int) == 33024) = true from rfl]
            simp only [cond_true]
            unfold ether_reader_tagged.f
            by_cases h16 : s.size < 16
            · rw [rget_out s 14 2 _ 2 rfl rfl _ (by omega) (by omega) hs', Option.bind_some]
              refine ⟨_, rfl, ?_⟩
              rw [if_pos (by omega)]
              rfl
            · rw [rget_in s 14 2 _ 2 rfl rfl _ (by omega) (by omega) hs', Option.bind_some]
              simp only
              by_cases h18 : s.size < 18
              · rw [rget_out s 16 2 _ 2 rfl rfl _ (by omega) (by omega) hs', Option.bind_some]
                refine ⟨_, rfl, ?_⟩
                rw [if_pos h18]
                rfl
              · rw [rget_in s 16 2 _ 2 rfl rfl _ (by omega) (by omega) hs', Option.bind_some, if_neg h18]
                simp only [Option.bind_some]
                have ht := tagOf_spec (at2 s 14 2) (at2_lt s 14 2)
                have e16 := at2_lt s 16 2
                rw [← ht]
                exact k1_spec s 18 (at2 s 16 2) _ _ _ _ rfl (i64_id (by omega)) (⟨true, Int.fdiv (i64 ((at2 s 14 2 : Nat) : Int)) 8192, (bAnd .i64 (i64 ((at2 s 14 2 : Nat) : Int)) 4096) != 0, Int.tmod (i64 ((at2 s 14 2 : Nat) : Int)) 4096⟩ : api_Tag) (by omega) hs'
          · rw [if_neg h81, show ((((at2 s 12 2 : Nat) : Int)) == 33024) = false by simp; omega]
            simp only [cond_false]
            exact k1_spec s 14 (at2 s 12 2) _ _ _ _ rfl rfl tag0 (by omega) hs'
end Go.Proofs.YtefbjefmclhhjaaDoor

namespace Go.Proofs.YtefbjefmclhhjaaDoor
open Go Eng
set_option linter.unusedVariables false
set_option linter.unusedSimpArgs false

theorem at2_app (s : ByteArray) (o n v : Nat) (pre post : List UInt8) (h : L s = pre ++ (beL n v ++ post)) (hp : pre.length = o) (hv : v < 256 ^ n) : at2 s o n = v := by
  unfold at2
  rw [h, ← hp, List.drop_left, List.take_append_of_le_length (by rw [beL_length]; exact Nat.le_refl _), List.take_of_length_le (by rw [beL_length]; exact Nat.le_refl _), beV_beL, Nat.mod_eq_of_lt hv]

theorem beL_at2 (s : ByteArray) (o n : Nat) (h : o + n ≤ s.size) : beL n (at2 s o n) = ((L s).drop o).take n := by
  have := beL_beV (((L s).drop o).take n)
  rw [List.length_take, List.length_drop, L_length, Nat.min_eq_left (by omega)] at this
  exact this
theorem drop_split (s : ByteArray) (o n : Nat) (h : o + n ≤ s.size) : (L s).drop o = beL n (at2 s o n) ++ (L s).drop (o + n) := by
  rw [beL_at2 s o n h, ← List.drop_drop, List.take_append_drop]

/-! ### What is built is parsed as it was -/
def more (g : api_Frame) (rest : List UInt8) : api_Frame := ⟨g.Dst, g.Src, g.Tag, g.Type_, if g.Type_ = 0 then g.Body else ⟨(L g.Body ++ rest).toArray⟩⟩

theorem L_drop (s : ByteArray) (p : Nat) : L (s.extract p s.size) = (L s).drop p := by
  rw [L_extract, List.take_of_length_le (by rw [List.length_drop, L_length]; exact Nat.le_refl _)]

theorem frame_eq {d e t t' : Int} {g : api_Tag} {b b' : ByteArray} (ht : t = t') (hb : L b = L b') : ((⟨d, e, g, t, b⟩ : api_Frame), (0 : Int)) = (⟨d, e, g, t', b'⟩, 0) := by
  subst ht
  rw [L_inj hb]

theorem bodyR_app (s : ByteArray) (p : Nat) (g : api_Frame) (hg : Good g) (rest : List UInt8) (h : (L s).drop p = L g.Body ++ rest) (hp : p ≤ s.size) : bodyR s p ⟨g.Dst, g.Src, g.Tag, 0, ⟨#[]⟩⟩ (typeN g) = (more g rest, 0) := by
  have hl := congrArg List.length h
  rw [List.length_drop, L_length, List.length_append, L_length] at hl
  unfold bodyR typeN more
  rcases hg.type with ht | ht
  · rw [if_pos ht.1, if_neg (by omega), if_neg (by omega), if_neg (by omega), if_pos ht.1]
    refine frame_eq ht.1.symm ?_
    show L (ByteArray.extract _ 0 g.Body.size) = _
    rw [L_extract, L_drop, h, List.drop_zero, Nat.sub_zero, ← L_length, List.take_left]
  · have hne : g.Type_ ≠ 0 := by omega
    simp only [if_neg hne]
    rw [if_neg (by omega), if_pos (by omega)]
    refine frame_eq ?_ ?_
    · show ((g.Type_.toNat : Nat) : Int) = g.Type_
      omega
    · show L (ByteArray.extract _ _ _) = L _
      rw [L_drop, h]
      rfl

theorem parse_build (g : api_Frame) (hg : Good g) (s : ByteArray) (rest : List UInt8) (h : L s = frameL g ++ rest) (hs : s.size ≤ 1600) : parseR s = (more g rest, 0) := by
  have hl := congrArg List.length h
  have hd := hg.dst
  have hsr := hg.src
  have e256 : (256 : Nat) ^ 6 = 281474976710656 := by decide
  have e2562 : (256 : Nat) ^ 2 = 65536 := by decide
  have hty : typeN g < 65536 := by
    unfold typeN
    rcases hg.type with ht | ht
    · rw [if_pos ht.1]; omega
    · rw [if_neg (by omega)]; omega
  have h0 : L s = [] ++ (beL 6 g.Dst.toNat ++ (beL 6 g.Src.toNat ++ (tagL g.Tag ++ (beL 2 (typeN g) ++ L g.Body)) ++ rest)) := by rw [h]; simp [frameL]
  have a0 := at2_app s 0 6 g.Dst.toNat [] _ h0 rfl (by omega)
  have h6 : L s = beL 6 g.Dst.toNat ++ (beL 6 g.Src.toNat ++ (tagL g.Tag ++ (beL 2 (typeN g) ++ L g.Body) ++ rest)) := by rw [h]; simp [frameL]
  have a6 := at2_app s 6 6 g.Src.toNat _ _ h6 (by rw [beL_length]) (by omega)
  rw [L_length, List.length_append] at hl
  unfold parseR
  rw [if_neg (by omega)]
  cases hh : g.Tag.Has
  · have hfl : (frameL g).length = 14 + g.Body.size := by simp [frameL, tagL, hh, beL_length, L_length]; omega
    have h12 : L s = (beL 6 g.Dst.toNat ++ beL 6 g.Src.toNat) ++ (beL 2 (typeN g) ++ (L g.Body ++ rest)) := by rw [h]; simp [frameL, tagL, hh]
    have a12 := at2_app s 12 2 (typeN g) _ _ h12 (by simp [beL_length]) (by omega)
    have h14 : (L s).drop 14 = L g.Body ++ rest := by
      rw [h12, ← List.append_assoc]
      rw [show 14 = (beL 6 g.Dst.toNat ++ beL 6 g.Src.toNat ++ beL 2 (typeN g)).length by simp [beL_length], List.drop_left]
    rw [if_neg (by omega), a12, if_neg (by
      unfold typeN
      rcases hg.type with ht | ht
      · rw [if_pos ht.1]; omega
      · rw [if_neg (by omega)]; omega), a0, a6]
    have e1 : ((g.Dst.toNat : Nat) : Int) = g.Dst := by omega
    have e2 : ((g.Src.toNat : Nat) : Int) = g.Src := by omega
    rw [e1, e2, ← hg.bare hh]
    exact bodyR_app s 14 g hg rest h14 (by omega)
  · have hfl : (frameL g).length = 18 + g.Body.size := by simp [frameL, tagL, hh, beL_length, L_length]; omega
    obtain ⟨_, hi⟩ := info_spec g.Tag (hg.tag hh)
    have hti := hg.tag hh
    have h12 : L s = (beL 6 g.Dst.toNat ++ beL 6 g.Src.toNat) ++ (beL 2 33024 ++ (beL 2 (infoN g.Tag) ++ (beL 2 (typeN g) ++ (L g.Body ++ rest)))) := by rw [h]; simp [frameL, tagL, hh]
    have a12 := at2_app s 12 2 33024 _ _ h12 (by simp [beL_length]) (by omega)
    have h14 : L s = (beL 6 g.Dst.toNat ++ beL 6 g.Src.toNat ++ beL 2 33024) ++ (beL 2 (infoN g.Tag) ++ (beL 2 (typeN g) ++ (L g.Body ++ rest))) := by rw [h]; simp [frameL, tagL, hh]
    have a14 := at2_app s 14 2 (infoN g.Tag) _ _ h14 (by simp [beL_length]) (by omega)
    have h16 : L s = (beL 6 g.Dst.toNat ++ beL 6 g.Src.toNat ++ beL 2 33024 ++ beL 2 (infoN g.Tag)) ++ (beL 2 (typeN g) ++ (L g.Body ++ rest)) := by rw [h]; simp [frameL, tagL, hh]
    have a16 := at2_app s 16 2 (typeN g) _ _ h16 (by simp [beL_length]) (by omega)
    have h18 : (L s).drop 18 = L g.Body ++ rest := by
      rw [h16, ← List.append_assoc]
      rw [show 18 = (beL 6 g.Dst.toNat ++ beL 6 g.Src.toNat ++ beL 2 33024 ++ beL 2 (infoN g.Tag) ++ beL 2 (typeN g)).length by simp [beL_length], List.drop_left]
    rw [if_neg (by omega), a12, if_pos rfl, if_neg (by omega), a14, a16, a0, a6]
    have e1 : ((g.Dst.toNat : Nat) : Int) = g.Dst := by omega
    have e2 : ((g.Src.toNat : Nat) : Int) = g.Src := by omega
    have e3 : tagOf (infoN g.Tag) = g.Tag := by
      obtain ⟨D, S, ⟨th, tp, td, tv⟩, ty, bd⟩ := g
      simp only at hh hti
      subst hh
      simp only [tagOf, infoN]
      cases td
      · simp only [Bool.false_eq_true, if_false]
        congr 1
        · omega
        · simp; omega
        · omega
      · simp only [if_true]
        congr 1
        · omega
        · simp; omega
        · omega
    rw [e1, e2, e3]
    exact bodyR_app s 18 g hg rest h18 (by omega)

/-! ### What is parsed may be, and, built, is the beginning of the bytes -/
theorem bodyR_back (s : ByteArray) (hs : s.size ≤ 1600) (p n : Nat) (d e : Nat) (t : api_Tag) (hd : d < 281474976710656) (he : e < 281474976710656) (hb : t.Has = false → t = tag0)
    (ht : t.Has = true → 0 ≤ t.Pri ∧ t.Pri < 8 ∧ 0 ≤ t.Vid ∧ t.Vid < 4096) (hp : p = 14 + (if t.Has then 4 else 0)) (hps : p ≤ s.size) (hn : n < 65536)
    (h : L s = beL 6 d ++ (beL 6 e ++ (tagL t ++ (beL 2 n ++ (L s).drop p)))) (g : api_Frame) (c : Int) (hr : bodyR s p ⟨d, e, t, 0, ⟨#[]⟩⟩ n = (g, c)) :
    (c ≠ 0 ∧ g = frame0) ∨ (c = 0 ∧ Good g ∧ ∃ rest, L s = frameL g ++ rest ∧ (g.Type_ ≠ 0 → rest = [])) := by
  unfold bodyR at hr
  split at hr
  · injection hr with h1 h2
    exact .inl ⟨by omega, h1.symm⟩
  · next h1 =>
    split at hr
    · next h2 =>
      injection hr with e1 e2
      subst e1; subst e2
      have hsz : (s.extract p s.size).size = s.size - p := by simp
      refine .inr ⟨rfl, ⟨⟨by simp, by simp only; omega⟩, ⟨by simp, by simp only; omega⟩, hb, ht, .inr ⟨by simp only; omega, by simp only; omega, by simp only; omega⟩, ?_⟩, [], ?_, fun _ => rfl⟩
      · simp only [hsz]; omega
      · have : typeN ⟨d, e, t, n, s.extract p s.size⟩ = n := by
          unfold typeN
          simp only
          rw [if_neg (by omega)]
          omega
        rw [List.append_nil]
        conv => lhs; rw [h]
        simp only [frameL, this, L_drop, Int.toNat_natCast]
    · next h2 =>
      split at hr
      · injection hr with e1 e2
        exact .inl ⟨by omega, e1.symm⟩
      · next h3 =>
        injection hr with e1 e2
        subst e1; subst e2
        have hsz : ((s.extract p s.size).extract 0 n).size = n := by simp; omega
        have hL : L ((s.extract p s.size).extract 0 n) = ((L s).drop p).take n := by rw [L_extract, L_drop]; simp
        refine .inr ⟨rfl, ⟨⟨by simp, by simp only; omega⟩, ⟨by simp, by simp only; omega⟩, hb, ht, .inl ⟨rfl, by simp only [hsz]; omega⟩, ?_⟩, ((L s).drop p).drop n, ?_, fun h => absurd rfl h⟩
        · simp only [hsz]; omega
        · have : typeN ⟨d, e, t, 0, (s.extract p s.size).extract 0 n⟩ = n := by
            unfold typeN
            simp only [if_true]
            exact hsz
          conv => lhs; rw [h]
          simp only [frameL, this, hL, Int.toNat_natCast, List.append_assoc, List.take_append_drop]

theorem parse_back (s : ByteArray) (g : api_Frame) (c : Int) (h : parseR s = (g, c)) :
    (c ≠ 0 ∧ g = frame0) ∨ (c = 0 ∧ s.size ≤ 1600 ∧ Good g ∧ ∃ rest, L s = frameL g ++ rest ∧ (g.Type_ ≠ 0 → rest = [])) := by
  have e256 : (256 : Nat) ^ 6 = 281474976710656 := by decide
  have e2562 : (256 : Nat) ^ 2 = 65536 := by decide
  unfold parseR at h
  split at h
  · injection h with h1 h2
    exact .inl ⟨by omega, h1.symm⟩
  · next hs =>
    split at h
    · injection h with h1 h2
      exact .inl ⟨by omega, h1.symm⟩
    · next h14 =>
      have d0 := drop_split s 0 6 (by omega)
      have d6 := drop_split s 6 6 (by omega)
      have d12 := drop_split s 12 2 (by omega)
      rw [List.drop_zero] at d0
      have l0 := at2_lt s 0 6
      have l6 := at2_lt s 6 6
      split at h
      · next h81 =>
        split at h
        · injection h with h1 h2
          exact .inl ⟨by omega, h1.symm⟩
        · next h18 =>
          have d14 := drop_split s 14 2 (by omega)
          have d16 := drop_split s 16 2 (by omega)
          have l14 := at2_lt s 14 2
          have l16 := at2_lt s 16 2
          have hi : infoN (tagOf (at2 s 14 2)) = at2 s 14 2 := by
            unfold infoN tagOf
            simp only [Int.toNat_natCast]
            by_cases hb : at2 s 14 2 / 4096 % 2 = 1
            · simp only [hb, decide_true, if_true]; omega
            · simp only [hb, decide_false, Bool.false_eq_true, if_false]; omega
          refine (bodyR_back s (by omega) 18 (at2 s 16 2) (at2 s 0 6) (at2 s 6 6) (tagOf (at2 s 14 2)) (by omega) (by omega) (fun h => by cases h) (fun _ => by simp only [tagOf]; omega) rfl (by omega) (by omega) ?_ g c h).imp id (fun ⟨a, b⟩ => ⟨a, by omega, b⟩)
          have htl : tagL (tagOf (at2 s 14 2)) = beL 2 33024 ++ beL 2 (at2 s 14 2) := by
            unfold tagL
            rw [hi]
            rfl
          rw [htl]
          conv => lhs; rw [d0, d6, d12, d14, d16, h81]
          simp only [List.append_assoc]
      · next h81 =>
        have l12 := at2_lt s 12 2
        refine (bodyR_back s (by omega) 14 (at2 s 12 2) (at2 s 0 6) (at2 s 6 6) tag0 (by omega) (by omega) (fun _ => rfl) (fun h => by cases h) rfl (by omega) (by omega) ?_ g c h).imp id (fun ⟨a, b⟩ => ⟨a, by omega, b⟩)
        conv => lhs; rw [d0, d6, d12]
        rfl
end Go.Proofs.YtefbjefmclhhjaaDoor

namespace Go.Proofs.YtefbjefmclhhjaaDoor
open Go Eng
set_option linter.unusedVariables false
set_option linter.unusedSimpArgs false

theorem fixed_true : gangwaylaw04_fixed.f 10 = some true := by kernel_rfl

theorem cut_spec (s : ByteArray) (m : Nat) : ∃ t, sliceS s 0 (imin (s.size : Int) m) = some t ∧ t.size ≤ m := by
  refine ⟨s.extract 0 (imin (s.size : Int) m).toNat, sliceS_eq ?_, ?_⟩
  · unfold imin; split <;> omega
  · have : (s.extract 0 (imin (s.size : Int) m).toNat).size = min (imin (s.size : Int) m).toNat s.size - 0 := by simp
    rw [this]
    unfold imin; split <;> omega

theorem more_nil (g : api_Frame) : more g [] = g := by
  unfold more
  split
  · rfl
  · have : (⟨(L g.Body ++ []).toArray⟩ : ByteArray) = g.Body := L_inj (by rw [L_mk, List.append_nil])
    rw [this]

theorem same_frame (g : api_Frame) : ((g.Dst == g.Dst) && ((g.Src == g.Src) && (((g.Tag.Has == g.Tag.Has) && ((g.Tag.Pri == g.Tag.Pri) && ((g.Tag.Dei == g.Tag.Dei) && ((g.Tag.Vid == g.Tag.Vid) && true)))) && ((g.Type_ == g.Type_) && ((g.Body == g.Body) && true))))) = true := by
  simp [bytes_refl]

theorem frameL_size (g : api_Frame) (rest : List UInt8) (s : ByteArray) (h : L s = frameL g ++ rest) : (⟨(frameL g).toArray⟩ : ByteArray).size ≤ s.size ∧ L (s.extract 0 (⟨(frameL g).toArray⟩ : ByteArray).size) = frameL g := by
  have hz : (⟨(frameL g).toArray⟩ : ByteArray).size = (frameL g).length := by simp [ByteArray.size]
  have hl := congrArg List.length h
  rw [L_length, List.length_append] at hl
  refine ⟨by omega, ?_⟩
  rw [L_extract, hz, h]
  simp

theorem frameL_len (g : api_Frame) : (frameL g).length = 14 + g.Body.size + (if g.Tag.Has then 4 else 0) := by
  simp only [frameL, List.length_append, beL_length, L_length, tagL]
  split <;> simp [beL_length] <;> omega
theorem mk_size (l : List UInt8) : (⟨l.toArray⟩ : ByteArray).size = l.length := by simp [ByteArray.size]
end Go.Proofs.YtefbjefmclhhjaaDoor

namespace Go.Proofs.YtefbjefmclhhjaaDoor
open Go Eng
set_option linter.unusedVariables false
set_option linter.unusedSimpArgs false

theorem bfixed_true : gangwaylaw09_fixed.f 10 = some true := by kernel_rfl

/-! ### Whether it may be -/
structure Ranges (b : api_Bpdu) : Prop where
  age : 0 ≤ b.Age ∧ b.Age < 65536
  most : 0 ≤ b.MaxAge ∧ b.MaxAge < 65536
  hello : 0 ≤ b.Hello ∧ b.Hello < 65536
  delay : 0 ≤ b.Delay ∧ b.Delay < 65536
  role : 0 ≤ b.Role ∧ b.Role < 4
  cost : 0 ≤ b.Cost ∧ b.Cost < 4294967296
  port : 0 ≤ b.Port ∧ b.Port < 65536

def change0 : api_Bpdu := ⟨128, false, false, false, false, false, false, 0, 0, 0, 0, 0, 0, 0, 0, 0⟩

def BGood (b : api_Bpdu) : Prop := b = change0 ∨ (b.Kind = 2 ∧ Ranges b) ∨ (b.Kind = 0 ∧ Ranges b ∧ b.Propose = false ∧ b.Learn = false ∧ b.Forward = false ∧ b.Agree = false ∧ b.Role = 0)

theorem below_spec (x m : Int) : bpdu_below.f x m = some (decide (0 ≤ x ∧ x < m)) := by
  unfold bpdu_below.f
  congr 1
  by_cases h1 : 0 ≤ x <;> by_cases h2 : x < m <;> simp [h1, h2]

theorem bcheck_spec (b : api_Bpdu) : ∃ c, bpdu_Check.f b = some c ∧ (c = 0 → BGood b) := by
  have k2 : ∀ x : Bool, (x = true → Ranges b) → ∃ c, bpdu_Check.k2 b x = some c ∧ (c = 0 → BGood b) := fun x hx => by
    unfold bpdu_Check.k2
    by_cases h1 : b.Kind = 128
    · rw [show (b.Kind == 128) = true by simp [h1], cond_true]
      generalize hz : ((true && ((b.Change == false) && ((b.Propose == false) && ((b.Learn == false) && ((b.Forward == false) && ((b.Agree == false) && ((b.Ack == false) && ((b.Role == 0) && ((b.Root == 0) && ((b.Cost == 0) && ((b.Bridge == 0) && ((b.Port == 0) && ((b.Age == 0) && ((b.MaxAge == 0) && ((b.Hello == 0) && ((b.Delay == 0) && true))))))))))))))))) = y
      cases y
      · exact ⟨91, rfl, fun h => (by cases h)⟩
      · refine ⟨0, rfl, fun _ => .inl ?_⟩
        obtain ⟨K, a1, a2, a3, a4, a5, a6, a7, a8, a9, a10, a11, a12, a13, a14, a15⟩ := b
        simp at hz h1
        simp [change0, hz, h1]
    · rw [show (b.Kind == 128) = false by simp [h1], cond_false]
      by_cases h2 : b.Kind = 0
      · rw [show (b.Kind == 0) = true by simp [h2], cond_true]
        cases hy : (((((x && (!b.Propose)) && (!b.Learn)) && (!b.Forward)) && (!b.Agree)) && (b.Role == 0))
        · exact ⟨91, rfl, fun h => (by cases h)⟩
        · refine ⟨0, rfl, fun _ => .inr (.inr ?_)⟩
          simp at hy
          exact ⟨h2, hx hy.1.1.1.1.1, hy.1.1.1.1.2, hy.1.1.1.2, hy.1.1.2, hy.1.2, hy.2⟩
      · rw [show (b.Kind == 0) = false by simp [h2], cond_false]
        by_cases h3 : b.Kind = 2
        · rw [show (b.Kind == 2) = true by simp [h3], cond_true]
          cases x
          · exact ⟨91, rfl, fun h => (by cases h)⟩
          · exact ⟨0, rfl, fun _ => .inr (.inl ⟨h3, hx rfl⟩)⟩
        · rw [show (b.Kind == 2) = false by simp [h3], cond_false]
          exact ⟨91, rfl, fun h => (by cases h)⟩
  have f2 := k2 false (fun h => by cases h)
  have k3 : ∀ x : Bool, (x = true → (0 ≤ b.Port ∧ b.Port < 65536) → Ranges b) → ∃ c, bpdu_Check.k3 b x = some c ∧ (c = 0 → BGood b) := fun x hx => by
    unfold bpdu_Check.k3
    cases x
    · exact f2
    · rw [cond_true, below_spec, Option.bind_some]
      exact k2 _ fun h => hx rfl (of_decide_eq_true h)
  have f3 := k3 false (fun h => by cases h)
  have k4 : ∀ x : Bool, (x = true → (0 ≤ b.Cost ∧ b.Cost < 4294967296) → (0 ≤ b.Port ∧ b.Port < 65536) → Ranges b) → ∃ c, bpdu_Check.k4 b x = some c ∧ (c = 0 → BGood b) := fun x hx => by
    unfold bpdu_Check.k4
    cases x
    · exact f3
    · rw [cond_true, below_spec, Option.bind_some]
      exact k3 _ fun h => hx rfl (of_decide_eq_true h)
  have f4 := k4 false (fun h => by cases h)
  have k5 : ∀ x : Bool, (x = true → (0 ≤ b.Role ∧ b.Role < 4) → (0 ≤ b.Cost ∧ b.Cost < 4294967296) → (0 ≤ b.Port ∧ b.Port < 65536) → Ranges b) → ∃ c, bpdu_Check.k5 b x = some c ∧ (c = 0 → BGood b) := fun x hx => by
    unfold bpdu_Check.k5
    cases x
    · exact f4
    · rw [cond_true, below_spec, Option.bind_some]
      exact k4 _ fun h => hx rfl (of_decide_eq_true h)
  have f5 := k5 false (fun h => by cases h)
  have k6 : ∀ x : Bool, (x = true → (0 ≤ b.Delay ∧ b.Delay < 65536) → (0 ≤ b.Role ∧ b.Role < 4) → (0 ≤ b.Cost ∧ b.Cost < 4294967296) → (0 ≤ b.Port ∧ b.Port < 65536) → Ranges b) → ∃ c, bpdu_Check.k6 b x = some c ∧ (c = 0 → BGood b) := fun x hx => by
    unfold bpdu_Check.k6
    cases x
    · exact f5
    · rw [cond_true, below_spec, Option.bind_some]
      exact k5 _ fun h => hx rfl (of_decide_eq_true h)
  have f6 := k6 false (fun h => by cases h)
  have k7 : ∀ x : Bool, (x = true → (0 ≤ b.Hello ∧ b.Hello < 65536) → (0 ≤ b.Delay ∧ b.Delay < 65536) → (0 ≤ b.Role ∧ b.Role < 4) → (0 ≤ b.Cost ∧ b.Cost < 4294967296) → (0 ≤ b.Port ∧ b.Port < 65536) → Ranges b) → ∃ c, bpdu_Check.k7 b x = some c ∧ (c = 0 → BGood b) := fun x hx => by
    unfold bpdu_Check.k7
    cases x
    · exact f6
    · rw [cond_true, below_spec, Option.bind_some]
      exact k6 _ fun h => hx rfl (of_decide_eq_true h)
  unfold bpdu_Check.f
  rw [below_spec, Option.bind_some]
  cases h1 : decide (0 ≤ b.Age ∧ b.Age < 65536)
  · exact k7 false (fun h => by cases h)
  · rw [cond_true, below_spec, Option.bind_some]
    exact k7 _ fun h2 h3 h4 h5 h6 h7 => ⟨of_decide_eq_true h1, of_decide_eq_true h2, h3, h4, h5, h6, h7⟩

/-! ### The flags -/
def flN (b : api_Bpdu) : Nat := b.Role.toNat * 4 + (if b.Change then 1 else 0) + (if b.Propose then 2 else 0) + (if b.Learn then 16 else 0) + (if b.Forward then 32 else 0) + (if b.Agree then 64 else 0) + (if b.Ack then 128 else 0)
def flOk (r : Nat) (c p l f a k : Bool) : Bool :=
  let b : api_Bpdu := ⟨2, c, p, l, f, a, k, r, 0, 0, 0, 0, 0, 0, 0, 0⟩
  let n : Int := (flN b : Nat)
  (bpdu_flags.f b == some n) && decide (flN b < 256) && (((bAnd .u8 n 1) != 0) == c) && (((bAnd .u8 n 2) != 0) == p) && (((bAnd .u8 n 16) != 0) == l) && (((bAnd .u8 n 32) != 0) == f) && (((bAnd .u8 n 64) != 0) == a) && (((bAnd .u8 n 128) != 0) == k) && (Int.tmod (i64 (u8 (Int.tdiv n 4))) 4 == (r : Int))
theorem fl_all : ([0, 1, 2, 3].all fun r => [false, true].all fun c => [false, true].all fun p => [false, true].all fun l => [false, true].all fun f => [false, true].all fun a => [false, true].all fun k => flOk r c p l f a k) = true := by kernel_rfl

theorem mem_bool (b : Bool) : b ∈ [false, true] := by cases b <;> simp

theorem flags_spec (b : api_Bpdu) (h : 0 ≤ b.Role ∧ b.Role < 4) : bpdu_flags.f b = some ((flN b : Nat) : Int) ∧ flN b < 256 ∧ ((bAnd .u8 ((flN b : Nat) : Int) 1) != 0) = b.Change ∧ ((bAnd .u8 ((flN b : Nat) : Int) 2) != 0) = b.Propose ∧ ((bAnd .u8 ((flN b : Nat) : Int) 16) != 0) = b.Learn ∧
    ((bAnd .u8 ((flN b : Nat) : Int) 32) != 0) = b.Forward ∧ ((bAnd .u8 ((flN b : Nat) : Int) 64) != 0) = b.Agree ∧ ((bAnd .u8 ((flN b : Nat) : Int) 128) != 0) = b.Ack ∧ Int.tmod (i64 (u8 (Int.tdiv ((flN b : Nat) : Int) 4))) 4 = b.Role := by
  obtain ⟨K, c, p, l, f, a, k, r, x8, x9, x10, x11, x12, x13, x14, x15⟩ := b
  simp only at h
  obtain ⟨n, rfl⟩ : ∃ n : Nat, r = n := ⟨r.toNat, by omega⟩
  have hm : n ∈ [0, 1, 2, 3] := by
    have : n < 4 := by omega
    match n, this with
    | 0, _ => simp
    | 1, _ => simp
    | 2, _ => simp
    | 3, _ => simp
  have h0 := List.all_eq_true.1 fl_all n hm
  have h1 := List.all_eq_true.1 h0 c (mem_bool c)
  have h2 := List.all_eq_true.1 h1 p (mem_bool p)
  have h3 := List.all_eq_true.1 h2 l (mem_bool l)
  have h4 := List.all_eq_true.1 h3 f (mem_bool f)
  have h5 := List.all_eq_true.1 h4 a (mem_bool a)
  have h6 := List.all_eq_true.1 h5 k (mem_bool k)
  unfold flOk at h6
  simp only [Bool.and_eq_true, beq_iff_eq, decide_eq_true_eq] at h6
  obtain ⟨⟨⟨⟨⟨⟨⟨⟨q1, q2⟩, q3⟩, q4⟩, q5⟩, q6⟩, q7⟩, q8⟩, q9⟩ := h6
  exact ⟨q1, q2, q3, q4, q5, q6, q7, q8, q9⟩

/-! ### Build -/
theorem bput (v wi : Int) (w : Nat) (hwi : wi = (w : Int)) (hw : 1 ≤ w ∧ w ≤ 8) (h0 : 0 ≤ v) (hv : v.toNat < 256 ^ w) (hv2 : v < 18446744073709551616) : bpdu_put.f 10 v wi = some (be w v.toNat) := by
  subst hwi
  have e : v = ((v.toNat : Nat) : Int) := by omega
  unfold bpdu_put.f
  have h := put_spec v.toNat w hw hv (by omega)
  rw [← e] at h
  rw [h]
  rfl

theorem catL {x y : ByteArray} {lx ly : List UInt8} (hx : L x = lx) (hy : L y = ly) (h : lx.length + ly.length ≤ 100) : ∃ z, catS x y = some z ∧ L z = lx ++ ly := by
  subst hx; subst hy
  rw [L_length, L_length] at h
  exact ⟨x ++ y, catS_eq (by omega), L_append x y⟩

def tailL (b : api_Bpdu) : List UInt8 := beL 8 b.Root.toNat ++ (beL 4 b.Cost.toNat ++ (beL 8 b.Bridge.toNat ++ (beL 2 b.Port.toNat ++ (beL 2 b.Age.toNat ++ (beL 2 b.MaxAge.toNat ++ (beL 2 b.Hello.toNat ++ beL 2 b.Delay.toNat))))))
def bodyL (b : api_Bpdu) (kd en : List UInt8) : List UInt8 := [66, 66, 3, 0, 0] ++ (kd ++ ([UInt8.ofNat (flN b)] ++ (tailL b ++ en)))

theorem build_k2 (b : api_Bpdu) (hr : Ranges b) (h1 : 0 ≤ b.Root ∧ b.Root ≤ 18446744073709551615) (h2 : 0 ≤ b.Bridge ∧ b.Bridge ≤ 18446744073709551615) (kd en : ByteArray) (hk : (L kd).length = 2) (he : (L en).length ≤ 1) :
    ∃ z, bpdu_Build.k2 b 10 kd en = some (z, 0) ∧ L z = bodyL b (L kd) (L en) := by
  have a1 := hr.age
  have a2 := hr.most
  have a3 := hr.hello
  have a4 := hr.delay
  have a5 := hr.cost
  have a6 := hr.port
  have p2 : (256 : Nat) ^ 2 = 65536 := by decide
  have p4 : (256 : Nat) ^ 4 = 4294967296 := by decide
  have p8 : (256 : Nat) ^ 8 = 18446744073709551616 := by decide
  obtain ⟨hf, hf2, _⟩ := flags_spec b hr.role
  unfold bpdu_Build.k2
  obtain ⟨t10, e10, l10⟩ := catL (x := (⟨#[66, 66, 3, 0, 0]⟩ : ByteArray)) (y := kd) rfl rfl (by rw [hk]; decide)
  rw [e10, Option.bind_some, hf, Option.bind_some]
  have hfl : L (ByteArray.push ByteArray.empty (UInt8.ofNat (((flN b : Nat) : Int)).toNat)) = [UInt8.ofNat (flN b)] := by rw [Int.toNat_natCast]; rfl
  obtain ⟨t15, e15, l15⟩ := catL l10 hfl (by simp only [List.length_append, hk, List.length_cons, List.length_nil]; decide)
  rw [e15, Option.bind_some]
  have n15 : (L t15).length = 8 := by rw [l15]; simp only [List.length_append, hk]; rfl
  rw [bput b.Root 8 8 rfl (by omega) h1.1 (by omega) (by omega), Option.bind_some]
  obtain ⟨t19, e19, l19⟩ := catL (x := t15) (y := be 8 b.Root.toNat) rfl (L_be _ _) (by rw [n15, beL_length]; decide)
  have n19 : (L t19).length = 16 := by rw [l19, List.length_append, n15, beL_length]
  rw [e19, Option.bind_some, u64_id (n := b.Cost) (by omega), bput b.Cost 4 4 rfl (by omega) a5.1 (by omega) (by omega), Option.bind_some]
  obtain ⟨t23, e23, l23⟩ := catL (x := t19) (y := be 4 b.Cost.toNat) rfl (L_be _ _) (by rw [n19, beL_length]; decide)
  have n23 : (L t23).length = 20 := by rw [l23, List.length_append, n19, beL_length]
  rw [e23, Option.bind_some, bput b.Bridge 8 8 rfl (by omega) h2.1 (by omega) (by omega), Option.bind_some]
  obtain ⟨t27, e27, l27⟩ := catL (x := t23) (y := be 8 b.Bridge.toNat) rfl (L_be _ _) (by rw [n23, beL_length]; decide)
  have n27 : (L t27).length = 28 := by rw [l27, List.length_append, n23, beL_length]
  rw [e27, Option.bind_some, u64_id (n := b.Port) (by omega), bput b.Port 2 2 rfl (by omega) a6.1 (by omega) (by omega), Option.bind_some]
  obtain ⟨t31, e31, l31⟩ := catL (x := t27) (y := be 2 b.Port.toNat) rfl (L_be _ _) (by rw [n27, beL_length]; decide)
  have n31 : (L t31).length = 30 := by rw [l31, List.length_append, n27, beL_length]
  rw [e31, Option.bind_some, u64_id (n := b.Age) (by omega), bput b.Age 2 2 rfl (by omega) a1.1 (by omega) (by omega), Option.bind_some]
  obtain ⟨t39, e39, l39⟩ := catL (x := t31) (y := be 2 b.Age.toNat) rfl (L_be _ _) (by rw [n31, beL_length]; decide)
  have n39 : (L t39).length = 32 := by rw [l39, List.length_append, n31, beL_length]
  rw [e39, Option.bind_some, u64_id (n := b.MaxAge) (by omega), bput b.MaxAge 2 2 rfl (by omega) a2.1 (by omega) (by omega), Option.bind_some]
  obtain ⟨t43, e43, l43⟩ := catL (x := t39) (y := be 2 b.MaxAge.toNat) rfl (L_be _ _) (by rw [n39, beL_length]; decide)
  have n43 : (L t43).length = 34 := by rw [l43, List.length_append, n39, beL_length]
  rw [e43, Option.bind_some, u64_id (n := b.Hello) (by omega), bput b.Hello 2 2 rfl (by omega) a3.1 (by omega) (by omega), Option.bind_some]
  obtain ⟨t47, e47, l47⟩ := catL (x := t43) (y := be 2 b.Hello.toNat) rfl (L_be _ _) (by rw [n43, beL_length]; decide)
  have n47 : (L t47).length = 36 := by rw [l47, List.length_append, n43, beL_length]
  rw [e47, Option.bind_some, u64_id (n := b.Delay) (by omega), bput b.Delay 2 2 rfl (by omega) a4.1 (by omega) (by omega), Option.bind_some]
  obtain ⟨t51, e51, l51⟩ := catL (x := t47) (y := be 2 b.Delay.toNat) rfl (L_be _ _) (by rw [n47, beL_length]; decide)
  have n51 : (L t51).length = 38 := by rw [l51, List.length_append, n47, beL_length]
  rw [e51, Option.bind_some]
  unfold bpdu_Build.k1
  obtain ⟨t54, e54, l54⟩ := catL (x := t51) (y := en) rfl rfl (by rw [n51]; omega)
  rw [e54, Option.bind_some]
  refine ⟨t54, rfl, ?_⟩
  rw [l54, l51, l47, l43, l39, l31, l27, l23, l19, l15]
  simp only [bodyL, tailL, List.append_assoc]
  rfl
end Go.Proofs.YtefbjefmclhhjaaDoor

namespace Go.Proofs.YtefbjefmclhhjaaDoor
open Go Eng
set_option linter.unusedVariables false
set_option linter.unusedSimpArgs false

theorem tget (z : ByteArray) (o n v : Nat) (oi ni : Int) (ho : oi = o) (hni : ni = n) (pre post : List UInt8) (hL : L z = pre ++ (beL n v ++ post)) (hp : pre.length = o) (hv : v < 256 ^ n) (hn : 1 ≤ n ∧ n ≤ 8) (hz : z.size ≤ 100) :
    bpdu_told_1.f 10 ni z oi = some ((v : Int), ((o + n : Nat) : Int)) := by
  subst ho; subst hni
  have hl := congrArg List.length hL
  rw [L_length, List.length_append, List.length_append, beL_length] at hl
  unfold bpdu_told_1.f
  rw [get_in z o n hn (by omega) (by omega), Option.bind_some]
  have := at2_app z o n v pre post hL hp hv
  unfold at2 at this
  simp only
  rw [this, i64_id (by omega)]
  rfl

theorem bodyL_length (b : api_Bpdu) (kd en : List UInt8) : (bodyL b kd en).length = 36 + kd.length + en.length := by
  simp only [bodyL, tailL, List.length_append, beL_length, List.length_cons, List.length_nil]; omega

theorem told_spec (b : api_Bpdu) (hr : Ranges b) (h1 : 0 ≤ b.Root ∧ b.Root ≤ 18446744073709551615) (h2 : 0 ≤ b.Bridge ∧ b.Bridge ≤ 18446744073709551615) (kd en : List UInt8) (hk : kd.length = 2) (he : en.length ≤ 1) (z : ByteArray) (hz : L z = bodyL b kd en) :
    idxS z 7 = some ((flN b : Nat) : Int) ∧
    bpdu_told.f 10 z = some ⟨0, (bAnd .u8 ((flN b : Nat) : Int) 1) != 0, false, false, false, false, (bAnd .u8 ((flN b : Nat) : Int) 128) != 0, 0, b.Root, b.Cost, b.Bridge, b.Port, b.Age, b.MaxAge, b.Hello, b.Delay⟩ := by
  have a1 := hr.age
  have a2 := hr.most
  have a3 := hr.hello
  have a4 := hr.delay
  have a5 := hr.cost
  have a6 := hr.port
  have p2 : (256 : Nat) ^ 2 = 65536 := by decide
  have p4 : (256 : Nat) ^ 4 = 4294967296 := by decide
  have p8 : (256 : Nat) ^ 8 = 18446744073709551616 := by decide
  obtain ⟨_, hf2, _⟩ := flags_spec b hr.role
  have hlen := bodyL_length b kd en
  have hsz : z.size ≤ 100 := by rw [← L_length, hz, hlen]; omega
  obtain ⟨k0, k1, rfl⟩ : ∃ k0 k1, kd = [k0, k1] := by
    match kd, hk with
    | [x, y], _ => exact ⟨x, y, rfl⟩
  have hidx : idxS z 7 = some ((flN b : Nat) : Int) := by
    have h7 : (L z)[7]? = some (UInt8.ofNat (flN b)) := by rw [hz]; rfl
    unfold idxS
    rw [if_pos (by omega)]
    have : z.data[(7 : Int).toNat]? = some (UInt8.ofNat (flN b)) := by
      rw [← Array.getElem?_toList]
      exact h7
    rw [this]
    simp only [Option.map_some]
    congr 2
    simp
    omega
  refine ⟨hidx, ?_⟩
  unfold bpdu_told.f
  rw [hidx, Option.bind_some]
  rw [tget z 8 8 b.Root.toNat 8 8 rfl rfl [66, 66, 3, 0, 0, k0, k1, UInt8.ofNat (flN b)] _ (by rw [hz]; simp only [bodyL, tailL, List.append_assoc]; rfl) rfl (by omega) (by omega) hsz, Option.bind_some]
  simp only
  rw [tget z 16 4 b.Cost.toNat _ 4 rfl rfl ([66, 66, 3, 0, 0, k0, k1, UInt8.ofNat (flN b)] ++ beL 8 b.Root.toNat) _ (by rw [hz]; simp only [bodyL, tailL, List.append_assoc]; rfl) (by simp [beL_length]) (by omega) (by omega) hsz, Option.bind_some]
  simp only
  rw [tget z 20 8 b.Bridge.toNat _ 8 rfl rfl ([66, 66, 3, 0, 0, k0, k1, UInt8.ofNat (flN b)] ++ beL 8 b.Root.toNat ++ beL 4 b.Cost.toNat) _ (by rw [hz]; simp only [bodyL, tailL, List.append_assoc]; rfl) (by simp [beL_length]) (by omega) (by omega) hsz, Option.bind_some]
  simp only
  rw [tget z 28 2 b.Port.toNat _ 2 rfl rfl ([66, 66, 3, 0, 0, k0, k1, UInt8.ofNat (flN b)] ++ beL 8 b.Root.toNat ++ beL 4 b.Cost.toNat ++ beL 8 b.Bridge.toNat) _ (by rw [hz]; simp only [bodyL, tailL, List.append_assoc]; rfl) (by simp [beL_length]) (by omega) (by omega) hsz, Option.bind_some]
  simp only
  rw [tget z 30 2 b.Age.toNat _ 2 rfl rfl ([66, 66, 3, 0, 0, k0, k1, UInt8.ofNat (flN b)] ++ beL 8 b.Root.toNat ++ beL 4 b.Cost.toNat ++ beL 8 b.Bridge.toNat ++ beL 2 b.Port.toNat) _ (by rw [hz]; simp only [bodyL, tailL, List.append_assoc]; rfl) (by simp [beL_length]) (by omega) (by omega) hsz, Option.bind_some]
  simp only
  rw [tget z 32 2 b.MaxAge.toNat _ 2 rfl rfl ([66, 66, 3, 0, 0, k0, k1, UInt8.ofNat (flN b)] ++ beL 8 b.Root.toNat ++ beL 4 b.Cost.toNat ++ beL 8 b.Bridge.toNat ++ beL 2 b.Port.toNat ++ beL 2 b.Age.toNat) _ (by rw [hz]; simp only [bodyL, tailL, List.append_assoc]; rfl) (by simp [beL_length]) (by omega) (by omega) hsz, Option.bind_some]
  simp only
  rw [tget z 34 2 b.Hello.toNat _ 2 rfl rfl ([66, 66, 3, 0, 0, k0, k1, UInt8.ofNat (flN b)] ++ beL 8 b.Root.toNat ++ beL 4 b.Cost.toNat ++ beL 8 b.Bridge.toNat ++ beL 2 b.Port.toNat ++ beL 2 b.Age.toNat ++ beL 2 b.MaxAge.toNat) _ (by rw [hz]; simp only [bodyL, tailL, List.append_assoc]; rfl) (by simp [beL_length]) (by omega) (by omega) hsz, Option.bind_some]
  simp only
  rw [tget z 36 2 b.Delay.toNat _ 2 rfl rfl ([66, 66, 3, 0, 0, k0, k1, UInt8.ofNat (flN b)] ++ beL 8 b.Root.toNat ++ beL 4 b.Cost.toNat ++ beL 8 b.Bridge.toNat ++ beL 2 b.Port.toNat ++ beL 2 b.Age.toNat ++ beL 2 b.MaxAge.toNat ++ beL 2 b.Hello.toNat) en (by rw [hz]; simp only [bodyL, tailL, List.append_assoc]; rfl) (by simp [beL_length]) (by omega) (by omega) hsz, Option.bind_some]
  unfold bpdu_told.k1
  rw [i64_id (n := ((b.Cost.toNat : Nat) : Int)) (by omega), i64_id (n := ((b.Port.toNat : Nat) : Int)) (by omega), i64_id (n := ((b.Age.toNat : Nat) : Int)) (by omega), i64_id (n := ((b.MaxAge.toNat : Nat) : Int)) (by omega), i64_id (n := ((b.Hello.toNat : Nat) : Int)) (by omega), i64_id (n := ((b.Delay.toNat : Nat) : Int)) (by omega)]
  have t : ∀ x : Int, 0 ≤ x → ((x.toNat : Nat) : Int) = x := fun x h => by omega
  rw [t _ h1.1, t _ h2.1, t _ a1.1, t _ a2.1, t _ a3.1, t _ a4.1, t _ a5.1, t _ a6.1]
end Go.Proofs.YtefbjefmclhhjaaDoor

namespace Go.Proofs.YtefbjefmclhhjaaDoor
open Go Eng
set_option linter.unusedVariables false
set_option linter.unusedSimpArgs false

/-! ### Who a host may be -/
theorem bAnd_u64_pow {x : Nat} (j : Nat) (hj : j < 64) (hx : x < 2 ^ 64) : bAnd .u64 x ((2 ^ j : Nat) : Int) = (((x / 2 ^ j % 2) * 2 ^ j : Nat) : Int) := by
  have hy : 2 ^ j < 2 ^ 64 := Nat.pow_lt_pow_right (by decide) hj
  have h : x &&& 2 ^ j < 2 ^ 64 := Nat.and_lt_two_pow x hy
  have e : bAnd .u64 x ((2 ^ j : Nat) : Int) = ((x &&& 2 ^ j : Nat) : Int) := by
    show IntKind.u64.wrap ((BitVec.ofInt 64 x &&& BitVec.ofInt 64 ((2 ^ j : Nat) : Int)).toNat : Int) = _
    rw [BitVec.toNat_and, BitVec.ofInt_natCast, BitVec.ofInt_natCast, BitVec.toNat_ofNat, BitVec.toNat_ofNat]
    rw [Nat.mod_eq_of_lt (by omega), Nat.mod_eq_of_lt (by omega)]
    exact u64_id (by omega)
  rw [e]
  congr 1
  refine Nat.eq_of_testBit_eq fun i => ?_
  rw [Nat.testBit_and, Nat.testBit_two_pow, Nat.testBit_mul_two_pow]
  by_cases h : j = i
  · subst h
    rw [Nat.testBit_eq_decide_div_mod_eq, Nat.testBit_eq_decide_div_mod_eq]
    simp
  · by_cases h2 : j ≤ i
    · have : (x / 2 ^ j % 2).testBit (i - j) = false := Nat.testBit_lt_two_pow (Nat.lt_of_lt_of_le (Nat.mod_lt _ (by decide)) (by
        have : 2 ^ 1 ≤ 2 ^ (i - j) := Nat.pow_le_pow_right (by decide) (by omega)
        omega))
      simp [h, this]
    · simp [h, h2]

theorem own_same (a : Int) (h : 0 ≤ a ∧ a ≤ 18446744073709551615) : ∃ c, addrs_Own.f a = some c ∧ gangwayref02_Own.f a = some c ∧ (c = true → a < 281474976710656) := by
  unfold addrs_Own.f gangwayref02_Own.f
  by_cases h0 : a = 0
  · subst h0; exact ⟨false, rfl, rfl, fun h => (by cases h)⟩
  · by_cases h1 : a < 281474976710656
    · have e1 : ((a != 0) && decide (a < 281474976710656)) = true := by simp [h0, h1]
      have e2 : ((decide (a > 0)) && decide (a < 281474976710656)) = true := by simp [h1]; omega
      rw [e1, e2, cond_true, cond_true]
      obtain ⟨n, rfl⟩ : ∃ n : Nat, a = n := ⟨a.toNat, by omega⟩
      have hb := bAnd_u64_pow (x := n) 40 (by decide) (by omega)
      have h40 : ((2 ^ 40 : Nat) : Int) = 1099511627776 := by decide
      rw [h40] at hb
      have ht : Int.tdiv (n : Int) 1099511627776 = ((n / 1099511627776 : Nat) : Int) := by
        rw [show (1099511627776 : Int) = ((1099511627776 : Nat) : Int) from rfl, ← Int.ofNat_tdiv]
      have hm : Int.tmod (u64 (Int.tdiv (n : Int) 1099511627776)) 2 = ((n / 1099511627776 % 2 : Nat) : Int) := by
        rw [ht, u64_id (by omega), show (2 : Int) = ((2 : Nat) : Int) from rfl, ← Int.ofNat_tmod]
      refine ⟨!(decide (n / 1099511627776 % 2 = 1)), ?_, ?_, fun _ => h1⟩
      · unfold addrs_Group.f addrs_Own.k1
        rw [hb, Option.bind_some]
        have h2 : n / 2 ^ 40 % 2 = n / 1099511627776 % 2 := rfl
        rw [h2]
        rcases Nat.mod_two_eq_zero_or_one (n / 1099511627776) with h3 | h3 <;> rw [h3] <;> rfl
      · unfold gangwayref02_Group.f gangwayref02_Own.k1
        rw [hm, Option.bind_some]
        rcases Nat.mod_two_eq_zero_or_one (n / 1099511627776) with h3 | h3 <;> rw [h3] <;> rfl
    · have e1 : ((a != 0) && decide (a < 281474976710656)) = false := by simp [h1]
      have e2 : ((decide (a > 0)) && decide (a < 281474976710656)) = false := by simp [h1]
      rw [e1, e2]
      exact ⟨false, rfl, rfl, fun h => (by cases h)⟩

/-! ### Parse -/
theorem prefix_true (z : ByteArray) (r : List UInt8) (h : L z = [66, 66, 3, 0, 0] ++ r) : strings_HasPrefix.f z (⟨#[66, 66, 3, 0, 0]⟩ : ByteArray) = some true := by
  have hs : z.size = 5 + r.length := by rw [← L_length, h, List.length_append]; rfl
  unfold strings_HasPrefix.f stringslite_HasPrefix.f
  have e5 : (ByteArray.size ⟨#[66, 66, 3, 0, 0]⟩ : Int) = 5 := rfl
  rw [e5, show decide ((z.size : Int) ≥ 5) = true by simp; omega, cond_true, sliceS_eq (by omega), Option.bind_some]
  unfold stringslite_HasPrefix.k1
  rw [Option.bind_some]
  have : (z.extract (Int.toNat 0) (Int.toNat 5)).toList = (⟨#[66, 66, 3, 0, 0]⟩ : ByteArray).toList := by
    rw [toList_eq, toList_eq, L_extract, h]; rfl
  rw [this, beq_self_eq_true]

theorem bprefix (b : api_Bpdu) (kd en : List UInt8) : bodyL b kd en = [66, 66, 3, 0, 0] ++ (kd ++ ([UInt8.ofNat (flN b)] ++ (tailL b ++ en))) := rfl

theorem kind_at (z : ByteArray) (k0 k1 : UInt8) (r : List UInt8) (h : L z = [66, 66, 3, 0, 0] ++ (k0 :: k1 :: r)) : ∃ t, sliceS z 5 7 = some t ∧ t.toList = [k0, k1] := by
  have hs : z.size = 7 + r.length := by rw [← L_length, h, List.length_append]; simp; omega
  refine ⟨_, sliceS_eq (by omega), ?_⟩
  rw [toList_eq, L_extract, h]
  rfl

theorem parse_rapid (b : api_Bpdu) (hr : Ranges b) (h1 : 0 ≤ b.Root ∧ b.Root ≤ 18446744073709551615) (h2 : 0 ≤ b.Bridge ∧ b.Bridge ≤ 18446744073709551615) (hk : b.Kind = 2) (z : ByteArray) (hz : L z = bodyL b [2, 2] [0]) : bpdu_Parse.f 10 z = some (b, 0) := by
  have hs : z.size = 39 := by rw [← L_length, hz, bodyL_length]; rfl
  obtain ⟨ti, tt⟩ := told_spec b hr h1 h2 [2, 2] [0] rfl (by decide) z hz
  obtain ⟨_, _, f1, f2, f3, f4, f5, f6, f7⟩ := flags_spec b hr.role
  obtain ⟨t, ht, htl⟩ := kind_at z 2 2 _ (hz.trans (bprefix b [2, 2] [0]))
  unfold bpdu_Parse.f
  rw [hs, show decide (((39 : Nat) : Int) < 7) = false from rfl, cond_false, prefix_true z _ (hz.trans (bprefix b _ _)), Option.bind_some, show (!true) = false from rfl, cond_false, ht, Option.bind_some, htl]
  have e1 : (([2, 2] : List UInt8) == (⟨#[0, 128]⟩ : ByteArray).toList) = false := by rw [toList_eq]; decide
  have e2 : (([2, 2] : List UInt8) == (⟨#[0, 0]⟩ : ByteArray).toList) = false := by rw [toList_eq]; decide
  have e3 : (([2, 2] : List UInt8) == (⟨#[2, 2]⟩ : ByteArray).toList) = true := by rw [toList_eq]; decide
  rw [e1, cond_false, e2, e3, show ((!false) && (!true)) = false from rfl, cond_false, show decide (((39 : Nat) : Int) < 38) = false from rfl, cond_false, show ((((39 : Nat) : Int)) == 38) = false from rfl, Bool.and_false]
  unfold bpdu_Parse.k1
  rw [cond_false, htl, e3, cond_true, tt, Option.bind_some, ti, Option.bind_some]
  unfold bpdu_quick.f
  rw [Option.bind_some]
  simp only
  rw [f1, f2, f3, f4, f5, f6, f7, ← hk]

theorem parse_config (b : api_Bpdu) (hr : Ranges b) (h1 : 0 ≤ b.Root ∧ b.Root ≤ 18446744073709551615) (h2 : 0 ≤ b.Bridge ∧ b.Bridge ≤ 18446744073709551615) (hk : b.Kind = 0) (hp : b.Propose = false) (hl : b.Learn = false) (hf : b.Forward = false) (ha : b.Agree = false) (hro : b.Role = 0)
    (z : ByteArray) (hz : L z = bodyL b [0, 0] []) : bpdu_Parse.f 10 z = some (b, 0) := by
  have hs : z.size = 38 := by rw [← L_length, hz, bodyL_length]; rfl
  obtain ⟨ti, tt⟩ := told_spec b hr h1 h2 [0, 0] [] rfl (by decide) z hz
  obtain ⟨_, _, f1, f2, f3, f4, f5, f6, f7⟩ := flags_spec b hr.role
  obtain ⟨t, ht, htl⟩ := kind_at z 0 0 _ (hz.trans (bprefix b [0, 0] []))
  unfold bpdu_Parse.f
  rw [hs, show decide (((38 : Nat) : Int) < 7) = false from rfl, cond_false, prefix_true z _ (hz.trans (bprefix b _ _)), Option.bind_some, show (!true) = false from rfl, cond_false, ht, Option.bind_some, htl]
  have e1 : (([0, 0] : List UInt8) == (⟨#[0, 128]⟩ : ByteArray).toList) = false := by rw [toList_eq]; decide
  have e2 : (([0, 0] : List UInt8) == (⟨#[0, 0]⟩ : ByteArray).toList) = true := by rw [toList_eq]; decide
  have e3 : (([0, 0] : List UInt8) == (⟨#[2, 2]⟩ : ByteArray).toList) = false := by rw [toList_eq]; decide
  rw [e1, cond_false, e2, e3, show ((!true) && (!false)) = false from rfl, cond_false, show decide (((38 : Nat) : Int) < 38) = false from rfl, cond_false, Bool.false_and]
  unfold bpdu_Parse.k1
  rw [cond_false, htl, e3, cond_false, tt, Option.bind_some, f1, f6]
  obtain ⟨K, a1, a2, a3, a4, a5, a6, a7, a8, a9, a10, a11, a12, a13, a14, a15⟩ := b
  simp only at hk hp hl hf ha hro
  subst hk; subst hp; subst hl; subst hf; subst ha; subst hro
  rfl

/-- What is built of what may be is at most 39 bytes, and is parsed as it was. -/
theorem build_parse (b : api_Bpdu) (hb : BGood b) (h1 : 0 ≤ b.Root ∧ b.Root ≤ 18446744073709551615) (h2 : 0 ≤ b.Bridge ∧ b.Bridge ≤ 18446744073709551615) (hc : bpdu_Check.f b = some 0) : ∃ z, bpdu_Build.f 10 b = some (z, 0) ∧ z.size ≤ 39 ∧ bpdu_Parse.f 10 z = some (b, 0) := by
  unfold bpdu_Build.f
  rw [hc, Option.bind_some, show ((0 : Int) != 0) = false from rfl, cond_false]
  rcases hb with rfl | ⟨hk, hr⟩ | ⟨hk, hr, hp, hl, hf, ha, hro⟩
  · exact ⟨_, rfl, by decide, by kernel_rfl⟩
  · rw [show (b.Kind == 128) = false by simp [hk], cond_false, show (b.Kind == 2) = true by simp [hk], cond_true]
    obtain ⟨z, e, hz⟩ := build_k2 b hr h1 h2 ⟨#[2, 2]⟩ ⟨#[0]⟩ rfl (by decide)
    refine ⟨z, e, ?_, parse_rapid b hr h1 h2 hk z hz⟩
    rw [← L_length, hz, bodyL_length]
    decide
  · rw [show (b.Kind == 128) = false by simp [hk], cond_false, show (b.Kind == 2) = false by simp [hk], cond_false]
    obtain ⟨z, e, hz⟩ := build_k2 b hr h1 h2 ⟨#[0, 0]⟩ ⟨#[]⟩ rfl (by decide)
    refine ⟨z, e, ?_, parse_config b hr h1 h2 hk hp hl hf ha hro z hz⟩
    rw [← L_length, hz, bodyL_length]
    decide
end Go.Proofs.YtefbjefmclhhjaaDoor
