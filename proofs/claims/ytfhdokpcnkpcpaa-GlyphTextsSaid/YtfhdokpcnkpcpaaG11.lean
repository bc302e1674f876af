/-
  Contracts and plain laws on the way to the statement; each says its own conditions.
-/
import Derived.Test.YtfhdokpcnkpcpaaG9
open Go Go.Proofs Go.Pw
namespace Go.Proofs.Ytfhdokpcnkpcpaa
set_option linter.unusedSimpArgs false
set_option linter.unusedVariables false
def lexI : List Int → List Int → Bool
  | _, [] => false
  | [], _ :: _ => true
  | x :: r, y :: q => if x < y then true else if y < x then false else lexI r q
def toI (x : UInt8) : Int := x.toNat
theorem bytesLess_lex : ∀ (u v : List UInt8), Op.bytesLess u v = lexI (u.map toI) (v.map toI)
  | _, [] => by cases ‹List UInt8› <;> rfl
  | [], _ :: _ => rfl
  | a :: x, b :: y => by
    have ih := bytesLess_lex x y
    rw [Op.bytesLess, List.map_cons, List.map_cons, lexI, ih]
    unfold toI
    by_cases h1 : a < b
    · have : (a.toNat : Int) < b.toNat := by have := UInt8.lt_iff_toNat_lt.1 h1; omega
      rw [if_pos this]
      simp [h1]
    · have h1' : ¬ (a.toNat : Int) < b.toNat := fun h => h1 (UInt8.lt_iff_toNat_lt.2 (by omega))
      rw [if_neg h1']
      by_cases h2 : a = b
      · subst h2
        rw [if_neg (by omega)]
        simp
      · have : (b.toNat : Int) < a.toNat := by
          have : a.toNat ≠ b.toNat := fun h => h2 (UInt8.toNat_inj.1 h)
          omega
        rw [if_pos this]
        simp [h1, h2]
theorem lex_pre : ∀ (p u v : List Int), lexI (p ++ u) (p ++ v) = lexI u v
  | [], _, _ => rfl
  | x :: p, u, v => by
    rw [List.cons_append, List.cons_append, lexI, if_neg (by omega), if_neg (by omega), lex_pre p u v]
set_option maxHeartbeats 4000000 in
theorem lex_bytes (x y : Int) (hx : isF x = true) (hy : isF y = true) (hne : x ≠ y) (u v : List Int) : lexI (bytesF x ++ u) (bytesF y ++ v) = decide (x < y) := by
  unfold isF at hx hy
  simp only [decide_eq_true_eq] at hx hy
  unfold bytesF
  by_cases a1 : x < 128 <;> by_cases b1 : y < 128 <;> simp only [a1, b1, if_true, if_false]
  · simp only [List.cons_append, List.nil_append, lexI]
    repeat' split
    all_goals first | (rw [eq_comm, decide_eq_true_eq]; omega) | (rw [eq_comm, decide_eq_false_iff_not]; omega) | (exfalso; omega)
  · by_cases b2 : y < 2048 <;> by_cases b3 : y < 65536 <;> simp only [b2, b3, if_true, if_false, List.cons_append, List.nil_append, lexI]
    all_goals repeat' split
    all_goals first | (rw [eq_comm, decide_eq_true_eq]; omega) | (rw [eq_comm, decide_eq_false_iff_not]; omega) | (exfalso; omega)
  · by_cases b2 : x < 2048 <;> by_cases b3 : x < 65536 <;> simp only [b2, b3, if_true, if_false, List.cons_append, List.nil_append, lexI]
    all_goals repeat' split
    all_goals first | (rw [eq_comm, decide_eq_true_eq]; omega) | (rw [eq_comm, decide_eq_false_iff_not]; omega) | (exfalso; omega)
  · by_cases a2 : x < 2048 <;> by_cases a3 : x < 65536 <;> by_cases b2 : y < 2048 <;> by_cases b3 : y < 65536 <;> simp only [a2, a3, b2, b3, if_true, if_false, List.cons_append, List.nil_append, lexI]
    all_goals repeat' split
    all_goals first | (rw [eq_comm, decide_eq_true_eq]; omega) | (rw [eq_comm, decide_eq_false_iff_not]; omega) | (exfalso; omega)
theorem bytesF_ne (x : Int) : ∃ a r, bytesF x = a :: r := by
  have := (bytesF_len x).1
  cases h : bytesF x with
  | nil => rw [h] at this; simp at this
  | cons a r => exact ⟨a, r, rfl⟩
theorem lex_text : ∀ (l m : List Int), (∀ x ∈ l, isF x = true) → (∀ x ∈ m, isF x = true) → lexI (textN l) (textN m) = lexI l m
  | l, [], _, _ => by
    cases l <;> simp [textN, lexI]
  | [], y :: m, _, _ => by
    obtain ⟨a, r, e⟩ := bytesF_ne y
    simp [textN, e, lexI]
  | x :: l, y :: m, hl, hm => by
    have e1 : textN (x :: l) = bytesF x ++ textN l := by simp [textN]
    have e2 : textN (y :: m) = bytesF y ++ textN m := by simp [textN]
    rw [e1, e2, lexI]
    by_cases h : x = y
    · subst h
      rw [lex_pre, lex_text l m (fun z hz => hl z (by simp [hz])) (fun z hz => hm z (by simp [hz])), if_neg (by omega), if_neg (by omega)]
    · rw [lex_bytes x y (hl x (by simp)) (hm y (by simp)) h]
      by_cases h2 : x < y
      · rw [if_pos h2, decide_eq_true h2]
      · rw [if_neg h2, if_pos (by omega), decide_eq_false h2]
set_option maxHeartbeats 4000000 in
theorem decN_bytes (n x y z t : Nat) (hb : x < 256) (hb1 : y < 256) (hb2 : z < 256) (hb3 : t < 256) (h : Lib.decodeN n x y z t ≠ (65533, 1)) :
    isF (Lib.decodeN n x y z t).1 = true ∧ (bytesF (Lib.decodeN n x y z t).1).length = (Lib.decodeN n x y z t).2 ∧
    ∀ k, k < (Lib.decodeN n x y z t).2 → (bytesF (Lib.decodeN n x y z t).1).getD k 0 = ([x, y, z, t].getD k 0 : Nat) := by
  unfold Lib.decodeN at h ⊢
  by_cases c1 : x < 128
  · simp only [c1, if_true] at h ⊢
    refine ⟨by unfold isF; rw [decide_eq_true_eq]; omega, by unfold bytesF; rw [if_pos (by omega)]; rfl, fun k hk => ?_⟩
    have : k = 0 := by omega
    subst this
    unfold bytesF
    rw [if_pos (by omega)]
    simp
  · rw [if_neg c1] at h ⊢
    by_cases c2 : x / 32 = 6 ∧ (1 < n ∧ y / 64 = 2)
    · rw [if_pos c2] at h ⊢
      generalize hc : x % 32 * 64 + y % 64 = c at h ⊢
      by_cases d : c ≥ 128
      · rw [if_pos d] at h ⊢
        have eb : bytesF (c : Int) = [(x : Int), (y : Int)] := by
          unfold bytesF
          rw [if_neg (by omega), if_pos (by omega)]
          congr 1
          · omega
          · congr 1; omega
        refine ⟨by unfold isF; rw [decide_eq_true_eq]; simp only; omega, by simp only [eb]; rfl, fun k hk => ?_⟩
        simp only at hk
        have : k = 0 ∨ k = 1 := by omega
        rcases this with rfl | rfl <;> simp [eb]
      · rw [if_neg d] at h
        exact absurd rfl h
    · rw [if_neg c2] at h ⊢
      by_cases c3 : x / 16 = 14 ∧ (1 < n ∧ y / 64 = 2) ∧ (2 < n ∧ z / 64 = 2)
      · rw [if_pos c3] at h ⊢
        generalize hc : x % 16 * 4096 + y % 64 * 64 + z % 64 = c at h ⊢
        by_cases d : c ≥ 2048 ∧ (c < 55296 ∨ (57344 ≤ c ∧ c ≤ 1114111))
        · rw [if_pos d] at h ⊢
          have eb : bytesF (c : Int) = [(x : Int), (y : Int), (z : Int)] := by
            unfold bytesF
            rw [if_neg (by omega), if_neg (by omega), if_pos (by omega)]
            congr 1
            · omega
            · congr 1
              · omega
              · congr 1; omega
          refine ⟨by unfold isF; rw [decide_eq_true_eq]; simp only; omega, by simp only [eb]; rfl, fun k hk => ?_⟩
          simp only at hk
          have : k = 0 ∨ k = 1 ∨ k = 2 := by omega
          rcases this with rfl | rfl | rfl <;> simp [eb]
        · rw [if_neg d] at h
          exact absurd rfl h
      · rw [if_neg c3] at h ⊢
        by_cases c4 : x / 8 = 30 ∧ (1 < n ∧ y / 64 = 2) ∧ (2 < n ∧ z / 64 = 2) ∧ (3 < n ∧ t / 64 = 2)
        · rw [if_pos c4] at h ⊢
          generalize hc : x % 8 * 262144 + y % 64 * 4096 + z % 64 * 64 + t % 64 = c at h ⊢
          by_cases d : c ≥ 65536 ∧ (c < 55296 ∨ (57344 ≤ c ∧ c ≤ 1114111))
          · rw [if_pos d] at h ⊢
            have eb : bytesF (c : Int) = [(x : Int), (y : Int), (z : Int), (t : Int)] := by
              unfold bytesF
              rw [if_neg (by omega), if_neg (by omega), if_neg (by omega)]
              congr 1
              · omega
              · congr 1
                · omega
                · congr 1
                  · omega
                  · congr 1; omega
            refine ⟨by unfold isF; rw [decide_eq_true_eq]; simp only; omega, by simp only [eb]; rfl, fun k hk => ?_⟩
            simp only at hk
            have : k = 0 ∨ k = 1 ∨ k = 2 ∨ k = 3 := by omega
            rcases this with rfl | rfl | rfl | rfl <;> simp [eb]
          · rw [if_neg d] at h
            exact absurd rfl h
        · rw [if_neg c4] at h
          exact absurd rfl h
theorem drop_split {L : List UInt8} {i w : Nat} {B : List Int} (hB : B.length = w) (hw : i + w ≤ L.length) (h : ∀ k, k < w → B.getD k 0 = ((L.getD (i + k) 0).toNat : Int)) : (L.drop i).map toI = B ++ (L.drop (i + w)).map toI := by
  apply List.ext_getElem?
  intro j
  rw [List.getElem?_map, List.getElem?_drop]
  by_cases hj : j < w
  · have h1 := h j hj
    rw [List.getElem?_append_left (by omega), List.getElem?_eq_getElem (show i + j < L.length by omega), List.getElem?_eq_getElem (show j < B.length by omega)]
    rw [List.getD_eq_getElem?_getD, List.getD_eq_getElem?_getD, List.getElem?_eq_getElem (show i + j < L.length by omega), List.getElem?_eq_getElem (show j < B.length by omega)] at h1
    simp only [Option.getD_some] at h1
    rw [h1]
    rfl
  · rw [List.getElem?_append_right (by omega), List.getElem?_map, List.getElem?_drop, hB, show i + w + (j - w) = i + j by omega]
theorem scan_bytes (a : ByteArray) (i : Nat) (hi : i ≤ a.size) (hv : (scan a i).2 = a.size) : (a.data.toList.drop i).map toI = textN (scan a i).1 ∧ ∀ x ∈ (scan a i).1, isF x = true := by
  have hs : a.data.toList.length = a.size := Array.length_toList
  by_cases h : i < a.size
  · by_cases hb : Utf8.decode a i = (65533, 1)
    · rw [scan_bad h hb] at hv
      simp only at hv
      omega
    · have hp := dec_pos a i h
      rw [scan_step h hb] at hv ⊢
      obtain ⟨ih1, ih2⟩ := scan_bytes a (i + (Utf8.decode a i).2) hp.2 hv
      have db : isF (Utf8.decode a i).1 = true ∧ (bytesF (Utf8.decode a i).1).length = (Utf8.decode a i).2 ∧ ∀ k, k < (Utf8.decode a i).2 → (bytesF (Utf8.decode a i).1).getD k 0 = byteN a (i + k) := by
        rw [Lib.decode_at] at hb ⊢
        simp only [get!_byteN] at hb ⊢
        obtain ⟨g1, g2, g3⟩ := decN_bytes _ _ _ _ _ (byteN_lt a i) (byteN_lt a (i + 1)) (byteN_lt a (i + 2)) (byteN_lt a (i + 3)) hb
        refine ⟨g1, g2, fun k hk => ?_⟩
        rw [g3 k hk]
        have bl := (bytesF_len (Lib.decodeN (a.size - i) (byteN a i) (byteN a (i + 1)) (byteN a (i + 2)) (byteN a (i + 3))).1).2
        have : k = 0 ∨ k = 1 ∨ k = 2 ∨ k = 3 := by omega
        rcases this with rfl | rfl | rfl | rfl <;> simp
      refine ⟨?_, fun x hx => ?_⟩
      · rw [drop_split db.2.1 (by omega) db.2.2, ih1]
        simp [textN]
      · rcases List.mem_cons.1 hx with rfl | hx
        · exact db.1
        · exact ih2 x hx
  · have : i = a.size := by omega
    subst this
    rw [scan_end h]
    refine ⟨?_, fun x hx => by cases hx⟩
    rw [List.drop_eq_nil_of_le (by omega)]
    rfl
termination_by a.size - i
theorem less_lex {a b : ByteArray} (ha : (scan a 0).2 = a.size) (hb : (scan b 0).2 = b.size) : Op.bytesLess a.data.toList b.data.toList = lexI (scan a 0).1 (scan b 0).1 := by
  obtain ⟨a1, a2⟩ := scan_bytes a 0 (Nat.zero_le _) ha
  obtain ⟨b1, b2⟩ := scan_bytes b 0 (Nat.zero_le _) hb
  rw [List.drop_zero] at a1 b1
  rw [bytesLess_lex, a1, b1, lex_text _ _ a2 b2]
theorem lex_drop {l m : List Int} {i : Nat} (h : l.take i = m.take i) : lexI l m = lexI (l.drop i) (m.drop i) := by
  have e1 := List.take_append_drop i l
  have e2 := List.take_append_drop i m
  rw [← h] at e2
  have := lex_pre (l.take i) (l.drop i) (m.drop i)
  rw [e1, e2] at this
  exact this
end Go.Proofs.Ytfhdokpcnkpcpaa
