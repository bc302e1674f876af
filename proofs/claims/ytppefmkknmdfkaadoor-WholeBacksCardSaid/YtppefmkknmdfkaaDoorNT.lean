/-
  Numbers' texts: what they say; the library's reckoning comes to that.
-/
import Derived.Test.YtppefmkknmdfkaaDoorN15
import Derived.Lib.ParseIntB
open Go Go.Proofs Go.Pw
namespace Go.Proofs.YtppefmkknmdfkaaDoor
set_option maxRecDepth 4000
set_option linter.unusedSimpArgs false
set_option linter.unusedVariables false
theorem ext_list (s : ByteArray) (a b : Nat) : (s.extract a b).data.toList = (s.data.toList.drop a).take (b - a) := by
  rw [ByteArray.data_extract, Array.toList_extract, List.extract_eq_take_drop]
theorem bt_ext (s : ByteArray) {a b : Nat} {i : Nat} (h : a + i < b) : bt (s.extract a b) i = bt s (a + i : Nat) := by
  unfold bt
  rw [ext_list, Int.toNat_natCast, Int.toNat_natCast, List.getD_eq_getElem?_getD, List.getD_eq_getElem?_getD, List.getElem?_take, if_pos (by omega), List.getElem?_drop]
theorem bt_list {s : ByteArray} {i : Nat} {c : UInt8} (h : s.data.toList[i]? = some c) : bt s i = (c.toNat : Int) := by
  unfold bt
  rw [Int.toNat_natCast, List.getD_eq_getElem?_getD, h]; rfl
theorem bt_rng (s : ByteArray) (i : Int) : 0 ≤ bt s i ∧ bt s i ≤ 255 := by
  unfold bt
  have := UInt8.toNat_lt (s.data.toList.getD i.toNat 0)
  omega
def isD (b : Int) : Prop := 48 ≤ b ∧ b ≤ 57
instance (b : Int) : Decidable (isD b) := by unfold isD; infer_instance
/-- All bytes from one on are digits. -/
def allD (t : ByteArray) (k : Nat) : Prop := ∀ j, j < t.size → k ≤ j → isD (bt t j)
instance (t : ByteArray) (k : Nat) : Decidable (allD t k) := by unfold allD; infer_instance
/-- What the first so many digits say. -/
def numV (t : ByteArray) : Nat → Int
  | 0 => 0
  | i + 1 => numV t i * 10 + (bt t i - 48)
theorem numV_nn {t : ByteArray} (h : allD t 0) : ∀ {i : Nat}, i ≤ t.size → 0 ≤ numV t i
  | 0, _ => by simp [numV]
  | i + 1, hi => by
    have ih := numV_nn h (i := i) (by omega)
    have d := h i (by omega) (by omega)
    unfold isD at d
    rw [numV]
    omega
theorem numV_fg {t : ByteArray} (h : allD t 0) : ∀ {i : Nat}, i ≤ t.size → Fg i (numV t i)
  | 0, _ => by simp [numV, Fg]
  | i + 1, hi => by
    have ih := numV_fg h (i := i) (by omega)
    have nn := numV_nn h (i := i) (by omega)
    have d := h i (by omega) (by omega)
    unfold isD at d
    unfold Fg at *
    rw [numV, Nat.pow_succ]
    omega
theorem numV_mono {t : ByteArray} (h : allD t 0) : ∀ {j i : Nat}, i ≤ j → j ≤ t.size → numV t i ≤ numV t j
  | 0, i, hi, _ => by
    have : i = 0 := by omega
    subst this; exact Int.le_refl _
  | j + 1, i, hi, hj => by
    by_cases e : i = j + 1
    · subst e; exact Int.le_refl _
    · have ih := numV_mono h (j := j) (i := i) (by omega) (by omega)
      have nn := numV_nn h (i := j) (by omega)
      have d := h j (by omega) (by omega)
      unfold isD at d
      rw [numV]
      omega
theorem parseU {t : ByteArray} (h : allD t 0) : ∀ (m i : Nat), m = t.size - i → i ≤ t.size → numV t i ≤ 18446744073709551615 →
    Lib.parseUintM (2 ^ 64 - 1) (numV t i).toNat (t.data.toList.drop i) = if numV t t.size ≤ 18446744073709551615 then .ok (numV t t.size).toNat else .range
  | 0, i, hm, hi, hv => by
    have : i = t.size := by omega
    subst this
    rw [if_pos hv, List.drop_eq_nil_of_le (by simp)]
    rfl
  | m + 1, i, hm, hi, hv => by
    have hl : i < t.data.toList.length := by simp; omega
    have hn := numV_nn h hi
    have d := h i (by omega) (by omega)
    obtain ⟨c, hc⟩ : ∃ c, t.data.toList[i]? = some c := ⟨_, List.getElem?_eq_getElem hl⟩
    have hb := bt_list hc
    rw [hb] at d
    unfold isD at d
    have e1 : t.data.toList.drop i = c :: t.data.toList.drop (i + 1) := by
      rw [List.drop_eq_getElem_cons hl]
      have : t.data.toList[i] = c := by
        have := List.getElem?_eq_getElem hl
        rw [hc] at this
        exact (Option.some.inj this).symm
      rw [this]
    have e2 : numV t (i + 1) = numV t i * 10 + (c.toNat - 48) := by rw [numV, hb]
    have mono := numV_mono h (show i + 1 ≤ t.size by omega) (Nat.le_refl _)
    rw [e1, Lib.parseUintM, if_pos (by omega)]
    by_cases h1 : 1844674407370955162 ≤ (numV t i).toNat
    · rw [if_pos h1, if_neg (by omega)]
    · rw [if_neg h1]
      by_cases h2 : 18446744073709551615 < numV t (i + 1)
      · rw [if_pos (by omega), if_neg (by omega)]
      · rw [if_neg (by omega)]
        have ih := parseU h m (i + 1) (by omega) (by omega) (by omega)
        rw [← ih]
        congr 1
        omega
def fromF (s : ByteArray) : Nat := if 0 < s.size ∧ bt s 0 = 45 then 1 else 0
/-- A number's text. -/
def formP (s : ByteArray) : Prop := fromF s < s.size ∧ ¬ (bt s (fromF s) = 48 ∧ fromF s + 1 < s.size) ∧ allD s (fromF s)
instance (s : ByteArray) : Decidable (formP s) := by unfold formP; infer_instance
/-- Its digits. -/
def digS (s : ByteArray) : ByteArray := if bt s 0 = 45 then s.extract 1 s.size else s
/-- The number that it says. -/
def zOf (s : ByteArray) : Int := if bt s 0 = 45 then -(numV (digS s) (digS s).size) else numV (digS s) (digS s).size
theorem ext_self (s : ByteArray) : s.extract 0 s.size = s := by
  apply ByteArray.ext
  simp [ByteArray.data_extract]
theorem digS_size {s : ByteArray} (h : formP s) : (digS s).size = s.size - fromF s := by
  obtain ⟨h1, _⟩ := h
  unfold digS fromF at *
  split
  · rename_i e
    rw [if_pos ⟨by omega, e⟩]
    simp
  · rename_i e
    rw [if_neg (fun k => e k.2)]
    omega
theorem digS_all {s : ByteArray} (h : formP s) : allD (digS s) 0 := by
  have hz := digS_size h
  obtain ⟨h1, _, h3⟩ := h
  intro j hj _
  rw [hz] at hj
  unfold fromF at h1 hz hj
  unfold allD fromF at h3
  unfold digS
  split
  · rename_i e
    have hs : 0 < s.size := by omega
    rw [if_pos ⟨hs, e⟩] at hj
    rw [if_pos ⟨hs, e⟩] at h3
    have := h3 (1 + j) (by omega) (by omega)
    rw [bt_ext s (by omega)]
    exact this
  · rename_i e
    rw [if_neg (fun k => e k.2)] at hj h3
    exact h3 j (by omega) (by omega)
theorem digS_list (s : ByteArray) : (digS s).data.toList = if bt s 0 = 45 then s.data.toList.drop 1 else s.data.toList := by
  unfold digS
  split
  · rw [ext_list, List.take_of_length_le (by simp)]
  · rfl
/-- The library's answer. -/
theorem parse_law {s : ByteArray} (h : formP s) : Lib.parseIntB 64 s.data.toList = if fits (zOf s) then .ok (zOf s) else .range := by
  have hz := digS_size h
  have hall := digS_all h
  have hd := digS_list s
  have hu := parseU hall _ 0 rfl (Nat.zero_le _) (by simp [numV])
  have hn := numV_nn hall (Nat.le_refl _)
  have h0 : fromF s < s.size := h.1
  rw [List.drop_zero] at hu
  obtain ⟨c, r, hl⟩ : ∃ c r, s.data.toList = c :: r := by
    cases e : s.data.toList with
    | nil =>
      have : s.size = 0 := by
        have := congrArg List.length e
        simpa using this
      omega
    | cons c r => exact ⟨c, r, rfl⟩
  have hb : bt s 0 = (c.toNat : Int) := bt_list (s := s) (i := 0) (by rw [hl]; rfl)
  have hne : (digS s).data.toList ≠ [] := by
    intro e
    have h2 : (digS s).data.toList.length = 0 := by rw [e]; rfl
    rw [Array.length_toList] at h2
    have h3 : (digS s).size = 0 := h2
    omega
  have e43 : c.toNat ≠ 43 := by
    intro e
    have h3 := h.2.2
    rw [e] at hb
    have : fromF s = 0 := by unfold fromF; rw [if_neg (by rw [hb]; rintro ⟨_, h⟩; cases h)]
    have d := h3 0 (by omega) (by omega)
    have hb' : bt s (0 : Nat) = 43 := hb
    rw [hb'] at d
    unfold isD at d
    omega
  have e45 : (c.toNat = 43 ∨ c.toNat = 45) = (bt s 0 = 45) := by
    rw [hb]
    exact propext ⟨fun h => by omega, fun h => by omega⟩
  have key : (if c.toNat = 43 ∨ c.toNat = 45 then r else s.data.toList) = (digS s).data.toList := by
    rw [hd]
    by_cases e : bt s 0 = 45
    · rw [if_pos e, if_pos (by rw [e45]; exact e), hl]; rfl
    · rw [if_neg e, if_neg (by rw [e45]; exact e)]
  have hU : Lib.parseUintB 64 (digS s).data.toList = if numV (digS s) (digS s).size ≤ 18446744073709551615 then .ok (numV (digS s) (digS s).size).toNat else .range := by
    rw [Lib.parseUintB, if_neg hne]
    exact hu
  unfold Lib.parseIntB
  rw [hl]
  simp only
  rw [← hl, key, hU]
  generalize hV : numV (digS s) (digS s).size = V at *
  have hzo : zOf s = if bt s 0 = 45 then -V else V := by unfold zOf; rw [hV]
  rw [hzo]
  unfold fits
  by_cases hs : bt s 0 = 45
  · have hc : c.toNat = 45 := by omega
    simp only [hs, hc, if_true, not_true_eq_false, false_and, if_false, true_and]
    by_cases k1 : V ≤ 18446744073709551615
    · simp only [k1, if_true]
      by_cases k2 : V ≤ 9223372036854775808
      · rw [if_neg (by omega), if_pos (by omega)]
        congr 1
        omega
      · rw [if_pos (by omega), if_neg (by omega)]
    · simp only [k1, if_false]
      rw [if_neg (by omega)]
  · have hc : c.toNat ≠ 45 := by omega
    simp only [hs, hc, if_false, not_false_eq_true, true_and, false_and]
    by_cases k1 : V ≤ 18446744073709551615
    · simp only [k1, if_true]
      by_cases k2 : V ≤ 9223372036854775807
      · rw [if_neg (by omega), if_pos (by omega)]
        congr 1
        omega
      · rw [if_pos (by omega), if_neg (by omega)]
    · simp only [k1, if_false]
      rw [if_neg (by omega)]
end Go.Proofs.YtppefmkknmdfkaaDoor
