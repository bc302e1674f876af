/-
  Contracts and plain laws on the way to the statement; each says its own conditions.
-/
import Derived.Test.YtfhdokpcnkpcpaaG8
open Go Go.Proofs Go.Pw
namespace Go.Proofs.Ytfhdokpcnkpcpaa
set_option linter.unusedSimpArgs false
set_option linter.unusedVariables false
set_option maxHeartbeats 8000000 in
theorem decN_more (n x y z t n' y' z' t' : Nat) (h : Lib.decodeN n x y z t ≠ (65533, 1)) (hn : n ≤ n') (h1 : 1 < n → y' = y) (h2 : 2 < n → z' = z) (h3 : 3 < n → t' = t) : Lib.decodeN n' x y' z' t' = Lib.decodeN n x y z t := by
  unfold Lib.decodeN at h ⊢
  by_cases c1 : x < 128
  · rw [if_pos c1, if_pos c1]
  · rw [if_neg c1] at h ⊢
    rw [if_neg c1]
    by_cases c2 : x / 32 = 6 ∧ (1 < n ∧ y / 64 = 2)
    · have e := h1 c2.2.1
      subst e
      rw [if_pos c2, if_pos (by omega)]
    · rw [if_neg c2] at h ⊢
      by_cases c3 : x / 16 = 14 ∧ (1 < n ∧ y / 64 = 2) ∧ (2 < n ∧ z / 64 = 2)
      · have e := h1 c3.2.1.1
        have e' := h2 c3.2.2.1
        subst e e'
        rw [if_pos c3, if_neg (by omega), if_pos (by omega)]
      · rw [if_neg c3] at h ⊢
        by_cases c4 : x / 8 = 30 ∧ (1 < n ∧ y / 64 = 2) ∧ (2 < n ∧ z / 64 = 2) ∧ (3 < n ∧ t / 64 = 2)
        · have e := h1 c4.2.1.1
          have e' := h2 c4.2.2.1.1
          have e'' := h3 c4.2.2.2.1
          subst e e' e''
          rw [if_pos c4, if_neg (by omega), if_neg (by omega), if_pos (by omega)]
        · rw [if_neg c4] at h
          exact absurd rfl h
theorem byteN_left (a b : ByteArray) (k : Nat) (h : k < a.size) : byteN (a ++ b) k = byteN a k := by
  unfold byteN
  rw [ByteArray.data_append, Array.toList_append, List.getD_eq_getElem?_getD, List.getD_eq_getElem?_getD, List.getElem?_append_left (by rw [Array.length_toList]; exact h)]
theorem byteN_right (a b : ByteArray) (k : Nat) : byteN (a ++ b) (a.size + k) = byteN b k := by
  unfold byteN
  have e : a.data.toList.length = a.size := Array.length_toList
  rw [ByteArray.data_append, Array.toList_append, List.getD_eq_getElem?_getD, List.getD_eq_getElem?_getD, List.getElem?_append_right (by rw [e]; omega), e, Nat.add_sub_cancel_left]
theorem dec_left {a b : ByteArray} {i : Nat} (h : i < a.size) (hg : Utf8.decode a i ≠ (65533, 1)) : Utf8.decode (a ++ b) i = Utf8.decode a i := by
  rw [Lib.decode_at] at hg ⊢
  rw [Lib.decode_at]
  simp only [get!_byteN] at hg ⊢
  rw [byteN_left a b i h]
  exact decN_more _ _ _ _ _ _ _ _ _ hg (by rw [ByteArray.size_append]; omega) (fun hh => byteN_left a b _ (by omega)) (fun hh => byteN_left a b _ (by omega)) (fun hh => byteN_left a b _ (by omega))
theorem dec_right (a b : ByteArray) (i : Nat) : Utf8.decode (a ++ b) (a.size + i) = Utf8.decode b i := by
  rw [Lib.decode_at, Lib.decode_at]
  simp only [get!_byteN, Nat.add_assoc, byteN_right, ByteArray.size_append]
  rw [show a.size + b.size - (a.size + i) = b.size - i by omega]
theorem scan_right (a b : ByteArray) (i : Nat) : scan (a ++ b) (a.size + i) = ((scan b i).1, a.size + (scan b i).2) := by
  have hs : (a ++ b).size = a.size + b.size := ByteArray.size_append
  by_cases h : i < b.size
  · by_cases hb : Utf8.decode b i = (65533, 1)
    · rw [scan_bad h hb, scan_bad (by omega) (by rw [dec_right]; exact hb)]
    · have hp := dec_pos b i h
      have ih := scan_right a b (i + (Utf8.decode b i).2)
      rw [scan_step h hb, scan_step (by omega) (by rw [dec_right]; exact hb), dec_right, Nat.add_assoc, ih]
  · rw [scan_end h, scan_end (by omega)]
termination_by b.size - i
theorem scan_left {a : ByteArray} (b : ByteArray) (i : Nat) (hi : i ≤ a.size) (hv : (scan a i).2 = a.size) : scan (a ++ b) i = ((scan a i).1 ++ (scan (a ++ b) a.size).1, (scan (a ++ b) a.size).2) := by
  have hs : (a ++ b).size = a.size + b.size := ByteArray.size_append
  by_cases h : i < a.size
  · by_cases hb : Utf8.decode a i = (65533, 1)
    · rw [scan_bad h hb] at hv
      simp only at hv
      omega
    · have hp := dec_pos a i h
      have e := dec_left (b := b) h hb
      rw [scan_step h hb] at hv
      have ih := scan_left b (i + (Utf8.decode a i).2) hp.2 hv
      rw [scan_step h hb, scan_step (by omega) (by rw [e]; exact hb), e, ih]
      rfl
  · have : i = a.size := by omega
    subst this
    rw [scan_end h]
    rfl
termination_by a.size - i
theorem scan_join {a b : ByteArray} (ha : (scan a 0).2 = a.size) (hb : (scan b 0).2 = b.size) : scan (a ++ b) 0 = ((scan a 0).1 ++ (scan b 0).1, (a ++ b).size) := by
  have h := scan_right a b 0
  rw [Nat.add_zero] at h
  rw [scan_left b 0 (Nat.zero_le _) ha, h, hb, ByteArray.size_append]
end Go.Proofs.Ytfhdokpcnkpcpaa
