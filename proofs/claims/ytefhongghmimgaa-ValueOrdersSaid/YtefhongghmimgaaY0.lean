/-
  The order of values, plain: three ways, one the other's opposite, a whole one.
-/
import Derived.Test.YtefhongghmimgaaV8
import Derived.Test.YtefhongghmimgaaV9
open Go Go.Proofs Go.Pw Go.RowKit
namespace Go.Proofs.Ytefhongghmimgaa
set_option maxRecDepth 4000
set_option linter.unusedVariables false
set_option linter.unusedSimpArgs false
def cmpI (a b : Int) : Int := if a < b then -1 else if b < a then 1 else 0
def cmpT (a b : ByteArray) : Int := if ltT a b = true then -1 else if ltT b a = true then 1 else 0
def numB (b : Bool) : Int := if b = true then 1 else 0
def lexI (a b : Int) : Int := if a = 0 then b else a
mutual
def cmpV : V → V → Int
  | .mk k b n s is ks, w => lexI (cmpI k w.kind) (lexI (cmpI (numB b) (numB w.b)) (lexI (cmpI n w.n) (lexI (cmpT s w.s) (cmpL k is ks w.items w.keys))))
def cmpL (k : Int) : List V → List ByteArray → List V → List ByteArray → Int
  | [], _, [], _ => 0
  | [], _, _ :: _, _ => -1
  | _ :: _, _, [], _ => 1
  | x :: r, ks, y :: t, ms => lexI (if k = 5 then cmpT (ks.headD ByteArray.empty) (ms.headD ByteArray.empty) else 0) (lexI (cmpV x y) (cmpL k r ks.tail t ms.tail))
end
theorem cmpV_eq (a b : V) : cmpV a b = lexI (cmpI a.kind b.kind) (lexI (cmpI (numB a.b) (numB b.b)) (lexI (cmpI a.n b.n) (lexI (cmpT a.s b.s) (cmpL a.kind a.items a.keys b.items b.keys)))) := by
  cases a; rw [cmpV]; rfl
theorem cmpL_nn (k : Int) (ks ms : List ByteArray) : cmpL k [] ks [] ms = 0 := by rw [cmpL]
theorem cmpL_nc (k : Int) (ks ms : List ByteArray) (y : V) (t : List V) : cmpL k [] ks (y :: t) ms = -1 := by rw [cmpL]
theorem cmpL_cn (k : Int) (ks ms : List ByteArray) (x : V) (r : List V) : cmpL k (x :: r) ks [] ms = 1 := by rw [cmpL]
theorem cmpL_cc (k : Int) (ks ms : List ByteArray) (x y : V) (r t : List V) : cmpL k (x :: r) ks (y :: t) ms = lexI (if k = 5 then cmpT (ks.headD ByteArray.empty) (ms.headD ByteArray.empty) else 0) (lexI (cmpV x y) (cmpL k r ks.tail t ms.tail)) := by rw [cmpL]
/-! Three numbers that go together. -/
def TT (x y z : Int) : Prop := (x ≤ 0 → y ≤ 0 → z ≤ 0) ∧ (x ≤ 0 → y ≤ 0 → z = 0 → x = 0 ∧ y = 0) ∧ (x = 0 → y = 0 → z = 0)
theorem TT.lex {x1 y1 z1 x2 y2 z2 : Int} (h : TT x1 y1 z1) (k : x1 = 0 → y1 = 0 → TT x2 y2 z2) : TT (lexI x1 x2) (lexI y1 y2) (lexI z1 z2) := by
  obtain ⟨h1, h2, h3⟩ := h
  unfold lexI
  by_cases hx : x1 = 0
  · by_cases hy : y1 = 0
    · have hz := h3 hx hy
      rw [if_pos hx, if_pos hy, if_pos hz]
      exact k hx hy
    · rw [if_pos hx, if_neg hy]
      refine ⟨fun _ hy' => ?_, fun _ hy' hz => ?_, fun _ hy' => absurd hy' hy⟩
      · have := h1 (by omega) hy'
        by_cases hz : z1 = 0
        · have := h2 (by omega) hy' hz; omega
        · rw [if_neg hz]; exact this
      · by_cases hz1 : z1 = 0
        · have := h2 (by omega) hy' hz1; omega
        · rw [if_neg hz1] at hz; exact absurd hz hz1
  · rw [if_neg hx]
    refine ⟨fun hx' hy' => ?_, fun hx' hy' hz => ?_, fun hx' _ => absurd hx' hx⟩
    · have hy1 : y1 ≤ 0 := by split at hy' <;> omega
      have := h1 hx' hy1
      by_cases hz : z1 = 0
      · have := h2 hx' hy1 hz; omega
      · rw [if_neg hz]; exact this
    · have hy1 : y1 ≤ 0 := by split at hy' <;> omega
      by_cases hz1 : z1 = 0
      · have := h2 hx' hy1 hz1; omega
      · rw [if_neg hz1] at hz; exact absurd hz hz1
theorem TT.int (a b c : Int) : TT (cmpI a b) (cmpI b c) (cmpI a c) := by
  unfold TT cmpI
  refine ⟨fun h1 h2 => ?_, fun h1 h2 h3 => ?_, fun h1 h2 => ?_⟩
  · split at h1 <;> split at h2 <;> split <;> (try split at h1) <;> (try split at h2) <;> (try split) <;> omega
  · constructor <;> (split at h1 <;> split at h2 <;> split at h3 <;> (try split at h1) <;> (try split at h2) <;> (try split at h3) <;> (try split) <;> (try split) <;> omega)
  · split at h1 <;> split at h2 <;> split <;> (try split at h1) <;> (try split at h2) <;> (try split) <;> omega
theorem cmpT_lt {a b : ByteArray} (h : ltT a b = true) : cmpT a b = -1 := by unfold cmpT; rw [if_pos h]
theorem cmpT_gt {a b : ByteArray} (h : ltT b a = true) : cmpT a b = 1 := by unfold cmpT; rw [if_neg (by rw [ltT_asymm h]; decide), if_pos h]
theorem cmpT_self (a : ByteArray) : cmpT a a = 0 := by unfold cmpT; rw [if_neg (by rw [ltT_irr]; decide), if_neg (by rw [ltT_irr]; decide)]
theorem cmpT_zero {a b : ByteArray} (h : cmpT a b = 0) : a = b := by
  rcases ltT_tri a b with h1 | h1 | h1
  · rw [cmpT_lt h1] at h; cases h
  · exact h1
  · rw [cmpT_gt h1] at h; cases h
theorem cmpT_neg (a b : ByteArray) : cmpT b a = -cmpT a b := by
  rcases ltT_tri a b with h1 | h1 | h1
  · rw [cmpT_lt h1, cmpT_gt h1]; rfl
  · rw [h1, cmpT_self]; rfl
  · rw [cmpT_gt h1, cmpT_lt h1]
theorem TT.text (a b c : ByteArray) : TT (cmpT a b) (cmpT b c) (cmpT a c) := by
  rcases ltT_tri a b with h1 | h1 | h1
  · rcases ltT_tri b c with h2 | h2 | h2
    · rw [cmpT_lt h1, cmpT_lt h2, cmpT_lt (ltT_trans h1 h2)]; unfold TT; omega
    · rw [← h2, cmpT_lt h1, cmpT_self]; unfold TT; omega
    · rw [cmpT_lt h1, cmpT_gt h2]; unfold TT; omega
  · rw [h1, cmpT_self]; unfold TT; omega
  · rw [cmpT_gt h1]; unfold TT; omega
theorem TT.zero : TT 0 0 0 := by unfold TT; omega
theorem TT.list (k : Int) : ∀ (is : List V), (∀ x ∈ is, ∀ y z, TT (cmpV x y) (cmpV y z) (cmpV x z)) → ∀ (ks : List ByteArray) (js : List V) (ms : List ByteArray) (ls : List V) (ns : List ByteArray), TT (cmpL k is ks js ms) (cmpL k js ms ls ns) (cmpL k is ks ls ns)
  | [], _, ks, [], ms, [], ns => by rw [cmpL_nn, cmpL_nn, cmpL_nn]; exact TT.zero
  | [], _, ks, [], ms, z :: u, ns => by rw [cmpL_nn, cmpL_nc, cmpL_nc]; unfold TT; omega
  | [], _, ks, y :: t, ms, [], ns => by rw [cmpL_nc, cmpL_cn, cmpL_nn]; unfold TT; omega
  | [], _, ks, y :: t, ms, z :: u, ns => by rw [cmpL_nc, cmpL_nc]; unfold TT; omega
  | x :: r, _, ks, [], ms, ls, ns => by rw [cmpL_cn]; unfold TT; omega
  | x :: r, _, ks, y :: t, ms, [], ns => by rw [cmpL_cn, cmpL_cn]; unfold TT; omega
  | x :: r, h, ks, y :: t, ms, z :: u, ns => by
    rw [cmpL_cc, cmpL_cc, cmpL_cc]
    refine TT.lex ?_ (fun _ _ => TT.lex (h x (by simp) y z) (fun _ _ => TT.list k r (fun a ha => h a (by simp [ha])) ks.tail t ms.tail u ns.tail))
    split
    · exact TT.text _ _ _
    · exact TT.zero
theorem cmpI_zero {a b : Int} (h : cmpI a b = 0) : a = b := by
  unfold cmpI at h
  split at h
  · omega
  · split at h <;> omega
theorem cmpI_neg (a b : Int) : cmpI b a = -cmpI a b := by
  unfold cmpI
  split <;> split <;> (try split) <;> omega
theorem cmpV_TT : ∀ a b c, TT (cmpV a b) (cmpV b c) (cmpV a c) := by
  refine V.ind fun a ih b c => ?_
  rw [cmpV_eq, cmpV_eq, cmpV_eq]
  refine TT.lex (TT.int _ _ _) (fun h1 h2 => TT.lex (TT.int _ _ _) (fun _ _ => TT.lex (TT.int _ _ _) (fun _ _ => TT.lex (TT.text _ _ _) (fun _ _ => ?_))))
  rw [← cmpI_zero h1]
  exact TT.list _ _ ih _ _ _ _ _
theorem lex_neg (a b : Int) : lexI (-a) (-b) = -lexI a b := by
  unfold lexI
  by_cases h : a = 0
  · rw [if_pos h, if_pos (by omega)]
  · rw [if_neg h, if_neg (by omega)]
theorem cmpL_neg (k : Int) : ∀ (is : List V), (∀ x ∈ is, ∀ y, cmpV y x = -cmpV x y) → ∀ (ks : List ByteArray) (js : List V) (ms : List ByteArray), cmpL k js ms is ks = -cmpL k is ks js ms
  | [], _, ks, [], ms => by rw [cmpL_nn, cmpL_nn]; rfl
  | [], _, ks, y :: t, ms => by rw [cmpL_nc, cmpL_cn]; rfl
  | x :: r, _, ks, [], ms => by rw [cmpL_nc, cmpL_cn]
  | x :: r, h, ks, y :: t, ms => by
    rw [cmpL_cc, cmpL_cc, h x (by simp) y, cmpL_neg k r (fun a ha => h a (by simp [ha])) ks.tail t ms.tail]
    by_cases hk : k = 5
    · rw [if_pos hk, if_pos hk, cmpT_neg, lex_neg, lex_neg]
    · rw [if_neg hk, if_neg hk]; exact lex_neg _ _
theorem cmpV_neg : ∀ a b, cmpV b a = -cmpV a b := by
  refine V.ind fun a ih b => ?_
  rw [cmpV_eq, cmpV_eq, cmpI_neg a.kind b.kind]
  by_cases hk : cmpI a.kind b.kind = 0
  · have e := cmpI_zero hk
    rw [cmpI_neg (numB a.b), cmpI_neg a.n, cmpT_neg a.s, ← e, cmpL_neg _ _ ih, lex_neg, lex_neg, lex_neg, lex_neg]
  · unfold lexI
    rw [if_neg hk, if_neg (by omega)]
theorem numB_inj {a b : Bool} (h : numB a = numB b) : a = b := by cases a <;> cases b <;> first | rfl | (simp [numB] at h)
theorem lex_zero {a b : Int} (h : lexI a b = 0) : a = 0 ∧ b = 0 := by
  unfold lexI at h
  split at h
  · exact ⟨by assumption, h⟩
  · exact absurd h (by assumption)
theorem cmpL_zero (k : Int) : ∀ (is : List V) (ks : List ByteArray) (js : List V) (ms : List ByteArray), (∀ x ∈ is, ∀ y ∈ js, cmpV x y = 0 → x = y) → cmpL k is ks js ms = 0 → is = js ∧ (k = 5 → ks.length = is.length → ms.length = js.length → ks = ms)
  | [], ks, [], ms, _, _ => ⟨rfl, fun _ h1 h2 => by rw [List.length_eq_zero_iff.1 h1, List.length_eq_zero_iff.1 h2]⟩
  | [], ks, y :: t, ms, _, h => by rw [cmpL_nc] at h; cases h
  | x :: r, ks, [], ms, _, h => by rw [cmpL_cn] at h; cases h
  | x :: r, ks, y :: t, ms, hx, h => by
    rw [cmpL_cc] at h
    obtain ⟨h1, h2⟩ := lex_zero h
    obtain ⟨h3, h4⟩ := lex_zero h2
    have e := hx x (by simp) y (by simp) h3
    obtain ⟨e2, e3⟩ := cmpL_zero k r ks.tail t ms.tail (fun a ha b hb => hx a (by simp [ha]) b (by simp [hb])) h4
    refine ⟨by rw [e, e2], fun hk hl hm => ?_⟩
    rw [if_pos hk] at h1
    have e4 := cmpT_zero h1
    cases ks with
    | nil => simp at hl
    | cons k1 kr =>
      cases ms with
      | nil => simp at hm
      | cons m1 mr =>
        simp only [List.headD_cons] at e4
        have := e3 hk (by simpa using hl) (by simpa using hm)
        simp only [List.tail_cons] at this
        rw [e4, this]
theorem good_parts {v : V} (h : goodB v = true) : (v.kind = 5 → v.keys.length = v.items.length) ∧ (v.kind ≠ 5 → v.keys = []) ∧ ∀ x ∈ v.items, goodB x = true := by
  rw [goodB_eq] at h
  simp only [Bool.and_eq_true] at h
  obtain ⟨⟨⟨⟨_, hb⟩, hk⟩, _⟩, hi⟩ := h
  unfold bareB at hb
  unfold keyedB at hk
  simp only [Bool.and_eq_true, Bool.or_eq_true, decide_eq_true_eq] at hb hk
  refine ⟨fun h5 => (hk.2).resolve_left (fun hne => hne h5), fun h5 => List.length_eq_zero_iff.1 ((hb.2).resolve_left h5), fun x hx => List.all_eq_true.1 hi x hx⟩
theorem cmpV_zero : ∀ a b, goodB a = true → goodB b = true → cmpV a b = 0 → a = b := by
  refine V.ind fun a ih b ha hb h => ?_
  obtain ⟨a1, a2, a3⟩ := good_parts ha
  obtain ⟨b1, b2, b3⟩ := good_parts hb
  rw [cmpV_eq] at h
  obtain ⟨h1, h⟩ := lex_zero h
  obtain ⟨h2, h⟩ := lex_zero h
  obtain ⟨h3, h⟩ := lex_zero h
  obtain ⟨h4, h⟩ := lex_zero h
  have ek := cmpI_zero h1
  obtain ⟨e5, e6⟩ := cmpL_zero _ _ _ _ _ (fun x hx y hy => ih x hx y (a3 x hx) (b3 y hy)) h
  refine V.ext_ ek (numB_inj (cmpI_zero h2)) (cmpI_zero h3) (cmpT_zero h4) e5 ?_
  by_cases h5 : a.kind = 5
  · exact e6 h5 (a1 h5) (b1 (ek ▸ h5))
  · rw [a2 h5, b2 (ek ▸ h5)]
theorem cmpI_range (a b : Int) : -1 ≤ cmpI a b ∧ cmpI a b ≤ 1 := by unfold cmpI; split; omega; split <;> omega
theorem cmpT_range (a b : ByteArray) : -1 ≤ cmpT a b ∧ cmpT a b ≤ 1 := by unfold cmpT; split; omega; split <;> omega
theorem lex_range {a b : Int} (h : -1 ≤ a ∧ a ≤ 1) (k : -1 ≤ b ∧ b ≤ 1) : -1 ≤ lexI a b ∧ lexI a b ≤ 1 := by unfold lexI; split <;> assumption
theorem cmpL_range (k : Int) : ∀ (is : List V) (ks : List ByteArray) (js : List V) (ms : List ByteArray), (∀ x ∈ is, ∀ y, -1 ≤ cmpV x y ∧ cmpV x y ≤ 1) → -1 ≤ cmpL k is ks js ms ∧ cmpL k is ks js ms ≤ 1
  | [], ks, [], ms, _ => by rw [cmpL_nn]; omega
  | [], ks, y :: t, ms, _ => by rw [cmpL_nc]; omega
  | x :: r, ks, [], ms, _ => by rw [cmpL_cn]; omega
  | x :: r, ks, y :: t, ms, h => by
    rw [cmpL_cc]
    refine lex_range ?_ (lex_range (h x (by simp) y) (cmpL_range k r _ _ _ (fun a ha => h a (by simp [ha]))))
    split
    · exact cmpT_range _ _
    · omega
theorem cmpV_range : ∀ a b, -1 ≤ cmpV a b ∧ cmpV a b ≤ 1 := by
  refine V.ind fun a ih b => ?_
  rw [cmpV_eq]
  exact lex_range (cmpI_range _ _) (lex_range (cmpI_range _ _) (lex_range (cmpI_range _ _) (lex_range (cmpT_range _ _) (cmpL_range _ _ _ _ _ ih))))
theorem cmpV_self (a : V) : cmpV a a = 0 := by have := cmpV_neg a a; omega
end Go.Proofs.Ytefhongghmimgaa
