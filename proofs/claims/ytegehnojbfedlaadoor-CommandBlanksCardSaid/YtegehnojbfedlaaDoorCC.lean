/-
  Chapter 25: what is parsed of a line of pieces.
-/
import Derived.Test.YtegehnojbfedlaaDoorCB
open Go Go.Proofs Go.Pw Go.RowKit
namespace Go.Proofs.YtegehnojbfedlaaDoor
set_option maxRecDepth 4000
set_option linter.unusedVariables false
set_option linter.unusedSimpArgs false
def blk (g : List UInt8) : Prop := ∀ b ∈ g, isb b = true
/-- A piece: no blank in it. -/
def nbk (p : List UInt8) : Prop := p ≠ [] ∧ ∀ b ∈ p, isb b = false
/-- Nothing, or a blank first. -/
def endB (t : List UInt8) : Prop := t = [] ∨ ∃ b r, t = b :: r ∧ isb b = true
theorem skp_blk : ∀ {g : List UInt8} (t : List UInt8), blk g → skp (g ++ t) = skp t
  | [], t, _ => rfl
  | b :: r, t, h => by
    unfold skp
    rw [List.cons_append, List.dropWhile_cons, if_pos (h b (by simp))]
    exact skp_blk t (fun c hc => h c (by simp [hc]))
theorem skp_nb {p : List UInt8} (t : List UInt8) (h : nbk p) : skp (p ++ t) = p ++ t := by
  cases p with
  | nil => exact absurd rfl h.1
  | cons b r => exact skp_cons.2 (h.2 b (by simp))
theorem nbt_app : ∀ {p t : List UInt8}, (∀ b ∈ p, isb b = false) → endB t → nbt (p ++ t) = p ∧ nbr (p ++ t) = t
  | [], t, _, h => by
    rcases h with rfl | ⟨b, r, rfl, hb⟩
    · exact ⟨rfl, rfl⟩
    · unfold nbt nbr
      simp [hb]
  | b :: p, t, hp, h => by
    have hb := hp b (by simp)
    have ih := nbt_app (p := p) (t := t) (fun c hc => hp c (by simp [hc])) h
    unfold nbt nbr at ih ⊢
    simp only [List.cons_append, List.takeWhile_cons, List.dropWhile_cons, hb, Bool.not_false, if_true]
    exact ⟨by rw [ih.1], ih.2⟩
theorem seg_skp {g p : List UInt8} (t : List UInt8) (hg : blk g) (hp : nbk p) : skp (g ++ (p ++ t)) = p ++ t := by rw [skp_blk _ hg, skp_nb t hp]
theorem seg_wrd {g p t : List UInt8} (hg : blk g) (hp : nbk p) (ht : endB t) : wrd (g ++ (p ++ t)) = p ∧ rst (g ++ (p ++ t)) = t := by
  unfold wrd rst
  rw [seg_skp t hg hp]
  exact nbt_app hp.2 ht
theorem name_nb {p : List UInt8} (h : nameL p = true) : nbk p := by
  cases p with
  | nil => cases h
  | cons b r =>
    simp only [nameL, Bool.and_eq_true, List.all_eq_true] at h
    refine ⟨by simp, fun c hc => ?_⟩
    rcases List.mem_cons.1 hc with rfl | hc
    · exact ltr_nb h.1
    · exact go_nb (h.2 c hc)
theorem dig_nb {b : UInt8} (h : isD b.toNat) : isb b = false := by
  apply Bool.eq_false_iff.2
  intro k
  have := (isb_I b).1 k
  unfold isD at h
  omega
theorem text_nb (n : Int) : nbk (tOf n) := by
  have hall : ∀ b ∈ Lib.decDigits n.natAbs, isb b = false := fun b hb => by
    obtain ⟨j, hj⟩ := List.mem_iff_getElem?.1 hb
    have hlt := (List.getElem?_eq_some_iff.1 hj).1
    have := dS_all n.natAbs j (by rw [dS_size, ← dD_len]; exact hlt) (Nat.zero_le _)
    have e : bt (dS n.natAbs) (j : Nat) = (b.toNat : Int) := bt_list (s := dS n.natAbs) hj
    rw [e] at this
    exact dig_nb this
  by_cases h : n < 0
  · have e : tOf n = 45 :: Lib.decDigits n.natAbs := by
      unfold tOf
      rw [← sOf_neg h, ByteArray.data_append, Array.toList_append]
      rfl
    rw [e]
    refine ⟨by simp, fun b hb => ?_⟩
    rcases List.mem_cons.1 hb with rfl | hb
    · decide
    · exact hall b hb
  · have e : tOf n = Lib.decDigits n.natAbs := by
      unfold tOf
      rw [sOf_pos (by omega)]
    rw [e]
    exact ⟨fun k => by have := dD_len n.natAbs; have := Lib.nDigits_pos n.natAbs; rw [k] at *; simp at *; omega, hall⟩
theorem word_nb {w : List UInt8} {q : Nat × Nat × Bool} (h : asks w = some q) : nbk w := by
  have g := asks_some h
  have : ∀ x ∈ words, x.1 ≠ [] ∧ ∀ b ∈ x.1, isb b = false := by decide
  exact this _ g
/-- Pieces, each with what is blank in front of it. -/
abbrev Gp := List UInt8 × List UInt8
def catG (l : List Gp) : List UInt8 := (l.map fun x => x.1 ++ x.2).flatten
def okG (x : Gp) : Prop := x.1 ≠ [] ∧ blk x.1 ∧ nbk x.2
theorem catG_cons (x : Gp) (l : List Gp) : catG (x :: l) = x.1 ++ (x.2 ++ catG l) := by unfold catG; simp
theorem catG_end {l : List Gp} {M : List UInt8} (h : ∀ x ∈ l, okG x) (hM : endB M) : endB (catG l ++ M) := by
  cases l with
  | nil => exact hM
  | cons x r =>
    obtain ⟨h1, h2, h3⟩ := h x (by simp)
    obtain ⟨g, p⟩ := x
    cases g with
    | nil => exact absurd rfl h1
    | cons b g => exact .inr ⟨b, _, by rw [catG_cons]; simp only [List.cons_append]; rfl, h2 b (by simp)⟩
theorem pNames_cat {S : List UInt8} {k : Nat} : ∀ {l : List Gp} {M : List UInt8}, (∀ x ∈ l, okG x ∧ nameL x.2 = true) → endB M → pNames S (l.length + k) (catG l ++ M) = preN (l.map (·.2)) (pNames S k M)
  | [], M, _, _ => by
    rw [List.length_nil, Nat.zero_add]
    show pNames S k M = _
    cases pNames S k M <;> rfl
  | x :: r, M, h, hM => by
    have hx := h x (by simp)
    have he := catG_end (l := r) (fun y hy => (h y (by simp [hy])).1) hM
    have hs := seg_wrd hx.1.2.1 hx.1.2.2 he
    have ih := pNames_cat (S := S) (k := k) (l := r) (fun y hy => h y (by simp [hy])) hM
    rw [catG_cons, List.append_assoc, List.append_assoc, List.length_cons, show r.length + 1 + k = (r.length + k) + 1 by omega, pNames, hs.1, hs.2, if_pos hx.2, ih]
    cases pNames S k M <;> rfl
theorem pNums_cat {S : List UInt8} {k : Nat} : ∀ {l : List (List UInt8 × Int)} {M : List UInt8}, (∀ x ∈ l, x.1 ≠ [] ∧ blk x.1 ∧ fits x.2) → endB M →
    pNums S (l.length + k) (catG (l.map fun x => (x.1, tOf x.2)) ++ M) = preN (l.map (·.2)) (pNums S k M)
  | [], M, _, _ => by
    rw [List.length_nil, Nat.zero_add]
    show pNums S k M = _
    cases pNums S k M <;> rfl
  | x :: r, M, h, hM => by
    have hx := h x (by simp)
    have he := catG_end (l := r.map fun x => (x.1, tOf x.2)) (fun y hy => by
      obtain ⟨z, hz, rfl⟩ := List.mem_map.1 hy
      have := h z (by simp [hz])
      exact ⟨this.1, this.2.1, text_nb _⟩) hM
    have hs := seg_wrd hx.2.1 (text_nb x.2) he
    have ih := pNums_cat (S := S) (k := k) (l := r) (fun y hy => h y (by simp [hy])) hM
    have e1 : pC (bA (tOf x.2)) = 0 := sOf_pC x.2 hx.2.2
    have e2 : pV (bA (tOf x.2)) = x.2 := sOf_pV x.2 hx.2.2
    rw [List.map_cons, catG_cons, List.append_assoc, List.append_assoc, List.length_cons, show r.length + 1 + k = (r.length + k) + 1 by omega, pNums, hs.1, hs.2, if_pos e1, ih, e2]
    cases pNums S k M <;> rfl
/-- A whole line. -/
theorem parse_cat {g w : List UInt8} {ns : List Gp} {ms : List (List UInt8 × Int)} {M : List UInt8} {r : Bool} (hg : blk g) (ha : asks w = some (ns.length, ms.length, r))
    (hn : ∀ x ∈ ns, okG x ∧ nameL x.2 = true) (hm : ∀ x ∈ ms, x.1 ≠ [] ∧ blk x.1 ∧ fits x.2) (hM : endB M) (hr : r = true ∨ skp M = [])
    (hS : (g ++ (w ++ (catG ns ++ (catG (ms.map fun x => (x.1, tOf x.2)) ++ M)))).length ≤ 20000) :
    parseC (g ++ (w ++ (catG ns ++ (catG (ms.map fun x => (x.1, tOf x.2)) ++ M)))) = .ok ⟨w, ns.map (·.2), ms.map (·.2), skp M⟩ := by
  have hw := word_nb ha
  have e2 : endB (catG (ms.map fun x => (x.1, tOf x.2)) ++ M) := catG_end (fun y hy => by
      obtain ⟨z, hz, rfl⟩ := List.mem_map.1 hy
      have := hm z hz
      exact ⟨this.1, this.2.1, text_nb _⟩) hM
  have e1 := catG_end (l := ns) (fun y hy => (hn y hy).1) e2
  have hs := seg_wrd hg hw e1
  unfold parseC
  rw [if_neg (by omega), hs.1, hs.2, if_neg hw.1, ha]
  simp only
  unfold pAll
  have p1 := pNames_cat (S := g ++ (w ++ (catG ns ++ (catG (ms.map fun x => (x.1, tOf x.2)) ++ M)))) (k := 0) hn e2
  have p2 := pNums_cat (S := g ++ (w ++ (catG ns ++ (catG (ms.map fun x => (x.1, tOf x.2)) ++ M)))) (k := 0) hm hM
  rw [Nat.add_zero] at p1 p2
  rw [p1]
  simp only [pNames, preN, List.append_nil]
  rw [p2]
  simp only [pNums, preN, List.append_nil]
  unfold pRest
  rw [if_neg (fun h => by
    rcases hr with hr | hr
    · rw [hr] at h; cases h.1
    · exact h.2 hr)]
end Go.Proofs.YtegehnojbfedlaaDoor
