/-
  Regions that draw their order, whole.
-/
import Derived.Test.YtegehnojbfedlaaDoorPw13
namespace Go.Pw
open Go Go.RowKit
set_option linter.unusedVariables false
set_option linter.unusedSimpArgs false

def ancStep (acc : List Nat) (m : Nat) (e : Edge) : Nat := if Region.binds .any e then m ||| (1 <<< e.on) ||| acc.getD e.on 0 else m
theorem anc_fold {acc : List Nat} {j : Nat} : ∀ (l : List Edge) (m : Nat), (l.foldl (ancStep acc) m).testBit j = true →
    m.testBit j = true ∨ ∃ e ∈ l, Region.binds .any e = true ∧ (e.on = j ∨ (acc.getD e.on 0).testBit j = true)
  | [], m, h => .inl h
  | e :: r, m, h => by
    rw [List.foldl_cons] at h
    rcases anc_fold r _ h with h | ⟨e', he, hb, h⟩
    · unfold ancStep at h
      split at h
      · rename_i hb
        simp only [Nat.testBit_or, Bool.or_eq_true, Nat.one_shiftLeft, Nat.testBit_two_pow, decide_eq_true_eq] at h
        rcases h with (h | h) | h
        · exact .inl h
        · exact .inr ⟨e, by simp, hb, .inl h⟩
        · exact .inr ⟨e, by simp, hb, .inr h⟩
      · exact .inl h
    · exact .inr ⟨e', by simp [he], hb, h⟩
/-- What the bits say. -/
def AncOk (ops : List Oper) (acc : List Nat) : Prop := ∀ m j, m < acc.length → (acc.getD m 0).testBit j = true → ∃ o, ops[m]? = some o ∧ ∃ e ∈ o.after.toList, Region.binds .any e = true ∧ (e.on = j ∨ (e.on < m ∧ (acc.getD e.on 0).testBit j = true))
theorem ancs_cons (o : Oper) (r : List Oper) (i : Nat) (acc : List Nat) : ancs (o :: r) i acc = ancs r (i + 1) (acc ++ [o.after.toList.foldl (ancStep acc) 0]) := rfl
theorem ancs_ok {ops : List Oper} : ∀ (l : List Oper) (pre : List Oper) (acc : List Nat), ops = pre ++ l → acc.length = pre.length → AncOk ops acc → AncOk ops (ancs l pre.length acc) ∧ (ancs l pre.length acc).length = ops.length
  | [], pre, acc, h, hl, k => ⟨k, by simp [ancs, h, hl]⟩
  | o :: r, pre, acc, h, hl, k => by
    rw [ancs_cons]
    have h1 : ops = (pre ++ [o]) ++ r := by rw [h]; simp
    have := ancs_ok r (pre ++ [o]) (acc ++ [o.after.toList.foldl (ancStep acc) 0]) h1 (by simp [hl]) ?_
    · simpa using this
    intro m j hm hb
    rw [List.length_append, List.length_singleton] at hm
    have old : ∀ x, x < acc.length → (acc ++ [o.after.toList.foldl (ancStep acc) 0]).getD x 0 = acc.getD x 0 := fun x hx => by
      simp only [List.getD_eq_getElem?_getD, List.getElem?_append_left hx]
    by_cases hlt : m < acc.length
    · rw [old m hlt] at hb
      obtain ⟨o', ho, e, he, hbi, h2⟩ := k m j hlt hb
      refine ⟨o', ho, e, he, hbi, h2.imp id (fun ⟨h3, h4⟩ => ⟨h3, ?_⟩)⟩
      rw [old _ (by omega)]
      exact h4
    · have : m = acc.length := by omega
      subst this
      have e1 : (acc ++ [o.after.toList.foldl (ancStep acc) 0]).getD acc.length 0 = o.after.toList.foldl (ancStep acc) 0 := by simp [List.getD_eq_getElem?_getD]
      rw [e1] at hb
      rcases anc_fold _ _ hb with h2 | ⟨e, he, hbi, h2⟩
      · simp at h2
      · refine ⟨o, ?_, e, he, hbi, h2.imp id (fun h3 => ?_)⟩
        · rw [h, hl]; simp
        · by_cases hx : e.on < acc.length
          · exact ⟨hx, by rw [old _ hx]; exact h3⟩
          · rw [List.getD_eq_getElem?_getD, List.getElem?_eq_none (by omega)] at h3
            simp at h3
theorem ancs_spec (ops : Array Oper) : AncOk ops.toList (ancs ops.toList 0 []) := (ancs_ok ops.toList [] [] rfl rfl (fun m j h => by simp at h)).1
theorem ancs_len (ops : Array Oper) : (ancs ops.toList 0 []).length = ops.size := by
  have := (ancs_ok (ops := ops.toList) ops.toList [] [] rfl rfl (fun m j h => by simp at h)).2
  simpa using this

/-- The listed ones: whoever one waits for stands among them. -/
def Closed (ops : Array Oper) (listed : Array Bool) : Prop := ∀ m o, ops[m]? = some o → listed.getD m true = true → ∀ e ∈ o.after.toList, Region.binds .any e = true → listed.getD e.on false = true
theorem getD_true_false {l : Array Bool} {m : Nat} (h : l.getD m false = true) : l.getD m true = true := by
  simp only [Array.getD_eq_getD_getElem?] at h ⊢
  cases hx : l[m]? <;> simp_all
theorem anc_listed {ops : Array Oper} {listed : Array Bool} (hc : Closed ops listed) : ∀ (m j : Nat), listed.getD m false = true → m < ops.size → ((ancs ops.toList 0 []).getD m 0).testBit j = true → listed.getD j false = true := by
  intro m
  induction m using Nat.strongRecOn with
  | _ m ih =>
    intro j hm hlt hb
    obtain ⟨o, ho, e, he, hbi, h⟩ := ancs_spec ops m j (by rw [ancs_len]; exact hlt) hb
    have ho' : ops[m]? = some o := by simpa using ho
    have h1 := hc m o ho' (getD_true_false hm) e he hbi
    rcases h with h | ⟨h2, h3⟩
    · exact h ▸ h1
    · exact ih e.on h2 j h1 (by omega) h3
theorem ready_mem {ops : Array Oper} {listed : Array Bool} {i : Nat} (h : i ∈ Region.ready .any ops listed) : ∃ o, ops[i]? = some o ∧ listed.getD i true = false ∧ ∀ e ∈ o.after.toList, Region.binds .any e = true → listed.getD e.on false = true := by
  unfold Region.ready at h
  rw [List.mem_filter] at h
  obtain ⟨h1, h2⟩ := h
  have hi : i < ops.size := List.mem_range.1 h1
  simp only [Bool.and_eq_true, Bool.not_eq_true', Array.getElem?_eq_getElem hi, Option.map_some, Option.getD_some] at h2
  refine ⟨ops[i], Array.getElem?_eq_getElem hi, h2.1, fun e he hb => ?_⟩
  have h3 := h2.2
  rw [Array.all_eq_true'] at h3
  have := h3 e (by simpa using he)
  simpa [hb] using this
theorem mem_ready {ops : Array Oper} {listed : Array Bool} {i : Nat} {o : Oper} (ho : ops[i]? = some o) (h1 : listed.getD i true = false) (h2 : ∀ e ∈ o.after.toList, Region.binds .any e = true → listed.getD e.on false = true) : i ∈ Region.ready .any ops listed := by
  unfold Region.ready
  rw [List.mem_filter]
  refine ⟨List.mem_range.2 (Array.getElem?_eq_some_iff.1 ho).1, ?_⟩
  rw [ho, h1]
  simp only [Bool.not_false, Option.map_some, Option.getD_some, Bool.true_and]
  rw [Array.all_eq_true']
  intro e he
  cases hb : Region.binds .any e
  · rfl
  · simp [h2 e (by simpa using he) hb]
theorem getD_set {l : Array Bool} {i j : Nat} (b : Bool) (hi : i < l.size) : (l.setIfInBounds i true).getD j b = if j = i then true else l.getD j b := by
  simp only [Array.getD_eq_getD_getElem?, Array.getElem?_setIfInBounds]
  by_cases h : i = j
  · subst h; simp [hi]
  · rw [if_neg h, if_neg (fun e => h e.symm)]

theorem drawOk_spec {ops : Array Oper} (hd : drawOk ops = true) : ∀ i oi, ops[i]? = some oi → (∀ e ∈ oi.after.toList, Region.binds .any e = true → e.on < i) ∧
    ∀ j oj, j < i → ops[j]? = some oj → ((ancs ops.toList 0 []).getD i 0).testBit j = true ∨ Indep ops oi oj := by
  intro i oi hi
  have hlt : i < ops.size := (Array.getElem?_eq_some_iff.1 hi).1
  unfold drawOk at hd
  simp only [List.all_eq_true, List.mem_range] at hd
  have h := hd i hlt
  rw [hi] at h
  simp only [Bool.and_eq_true, List.all_eq_true, List.mem_range] at h
  refine ⟨fun e he hb => ?_, fun j oj hj hoj => ?_⟩
  · have := h.1 e he
    simpa [hb] using this
  · have := h.2 j hj
    rw [hoj] at this
    simp only [Bool.or_eq_true] at this
    exact this.imp id Indep.of

theorem placed_get : ∀ (l : List Oper) (i : Nat) (e : Nat × Oper), e ∈ placed i l ↔ i ≤ e.1 ∧ l[e.1 - i]? = some e.2
  | [], i, e => by simp [placed]
  | o :: r, i, e => by
    simp only [placed, List.mem_cons, placed_get r (i + 1) e]
    obtain ⟨k, x⟩ := e
    simp only [Prod.mk.injEq]
    constructor
    · rintro (⟨rfl, rfl⟩ | ⟨h1, h2⟩)
      · simp
      · refine ⟨by omega, ?_⟩
        rw [show k - i = (k - (i + 1)) + 1 by omega]
        simpa using h2
    · rintro ⟨h1, h2⟩
      by_cases hk : k = i
      · subst hk
        simp at h2
        exact .inl ⟨rfl, h2.symm⟩
      · refine .inr ⟨by omega, ?_⟩
        rw [show k - i = (k - (i + 1)) + 1 by omega] at h2
        simpa using h2
theorem placed_sorted : ∀ (l : List Oper) (i : Nat), (placed i l).Pairwise (fun x y => x.1 < y.1)
  | [], i => .nil
  | o :: r, i => by
    refine .cons (fun e he => ?_) (placed_sorted r (i + 1))
    have := (placed_get r (i + 1) e).1 he
    simp only
    omega

section
variable {P : Program} {own : Nat → Prop} {S0 : Base} {w0 : World} {N : Nat} {ops : Array Oper}
/-- Whoever stands ahead of k is listed ahead of the others. -/
def Seg (ops : Array Oper) (k : Nat) : Prop := ∀ (listed : Array Bool), listed.size = ops.size → Closed ops listed → (∀ j, k ≤ j → j < ops.size → listed.getD j true = false) → (∃ j, j < k ∧ listed.getD j true = false) → ∀ i ∈ Region.ready .any ops listed, i < k
theorem any_seg {k : Nat} (hseg : Seg ops k) (hks : k ≤ ops.size) {nx0 nt0 : Nat} {QQ : Exit → Act → World → Prop} {K : PS → Prop} (hK : ∀ s s', Eqv s s' → K s → K s') (hd : drawOk ops = true) (hf : (ops.toList.all fun o => fitsDst N o.dst) = true)
    (hQ : ∀ s a w fuel (listed : Array Bool), K s → StN own S0 w0 N (· < nx0 + k) (· < nt0 + k) s a w → listed.size = ops.size → Closed ops listed → (∀ j, j < k → listed.getD j true = true) → (∀ j, k ≤ j → j < ops.size → listed.getD j true = false) → ops.size - k ≤ fuel → wpAny P .any ops QQ fuel listed a w) :
    ∀ (n fuel : Nat) (listed : Array Bool) (L : List (Nat × Oper)) (U V : Nat → Prop) (st : PS) (a : Act) (w : World), L.length = n →
    listed.size = ops.size → L.length + (ops.size - k) ≤ fuel → L.Pairwise (fun x y => x.1 < y.1) → (∀ e, e ∈ L ↔ ops[e.1]? = some e.2 ∧ e.1 < k ∧ listed.getD e.1 true = false) → (∀ j, k ≤ j → j < ops.size → listed.getD j true = false) → Closed ops listed →
    (∀ e ∈ L, ¬ U (nx0 + e.1) ∧ ¬ V (nt0 + e.1)) → (∀ i, U i → i < nx0 + k) → (∀ i, V i → i < nt0 + k) → StN own S0 w0 N U V st a w → dopsL P ops nx0 nt0 L st K → wpAny P .any ops QQ fuel listed a w := by
  intro n
  induction n with
  | zero =>
    intro fuel listed L U V st a w hn hsz hl hs hL hge hc hUV hU hV h kk
    have : L = [] := List.length_eq_zero_iff.1 hn
    subst this
    refine hQ st a w fuel listed kk (h.wide hU hV) hsz hc (fun j hj => ?_) hge (by simpa using hl)
    cases hg : listed.getD j true with
    | true => rfl
    | false =>
      have := (hL (j, ops[j]'(by omega))).2 ⟨Array.getElem?_eq_getElem _, hj, hg⟩
      cases this
  | succ n ih =>
    intro fuel listed L U V st a w hn hsz hl hs hL hge hc hUV hU hV h kk
    cases fuel with
    | zero => omega
    | succ fuel =>
    have fin : Region.ready .any ops listed ≠ [] := by
      cases L with
      | nil => simp at hn
      | cons e r =>
        intro hr
        obtain ⟨h1, hlt0, h2⟩ := (hL e).1 (by simp)
        have : e.1 ∈ Region.ready .any ops listed := mem_ready h1 h2 (fun x hx hb => by
          have hlt := (drawOk_spec hd _ _ h1).1 x hx hb
          have hsize : e.1 < ops.size := (Array.getElem?_eq_some_iff.1 h1).1
          cases hg : listed.getD x.on false with
          | true => rfl
          | false =>
            exfalso
            have hx1 : listed.getD x.on true = false := by
              have : x.on < listed.size := by omega
              simp only [Array.getD_eq_getD_getElem?, Array.getElem?_eq_getElem this] at hg ⊢
              simpa using hg
            have hm := (hL (x.on, ops[x.on]'(by omega))).2 ⟨Array.getElem?_eq_getElem _, by simp only; omega, hx1⟩
            rcases List.mem_cons.1 hm with hm | hm
            · have := congrArg Prod.fst hm; simp only at this; omega
            · have := List.rel_of_pairwise_cons hs hm; simp only at this; omega)
        rw [hr] at this
        cases this
    refine ⟨fun hr => absurd hr fin, fun i hi => ?_⟩
    · obtain ⟨o, ho, hun, hdeps⟩ := ready_mem hi
      have hil : i < ops.size := (Array.getElem?_eq_some_iff.1 ho).1
      have hik : i < k := by
        cases L with
        | nil => simp at hn
        | cons e r =>
          obtain ⟨_, h1, h2⟩ := (hL e).1 (by simp)
          exact hseg listed hsz hc hge ⟨e.1, h1, h2⟩ i hi
      have hmem := (hL (i, o)).2 ⟨ho, hik, hun⟩
      obtain ⟨pre, post, rfl⟩ := List.append_of_mem hmem
      obtain ⟨hUi, hVi⟩ := hUV (i, o) hmem
      have hsp := List.pairwise_append.1 hs
      have hfit : ∀ (x : Nat) (o' : Oper), ops[x]? = some o' → fitsDst N o'.dst = true := fun x o' hx => by
        rw [List.all_eq_true] at hf
        exact hf o' (List.mem_of_getElem? (i := x) (by simpa using hx))
      have hnd : ∀ {l : List (Nat × Oper)}, l.Pairwise (fun x y => x.1 < y.1) → (l.map (·.1)).Nodup := fun {l} hl => by
        rw [List.Nodup, List.pairwise_map]
        exact hl.imp (fun h => by omega)
      obtain ⟨d, e1, e2⟩ := front hK pre st U V a w h kk (fun e he => by
        obtain ⟨g1, g0, g2⟩ := (hL e).1 (List.mem_append.2 (.inl he))
        have hlt : e.1 < i := hsp.2.2 e he (i, o) (by simp)
        refine ⟨hfit _ _ g1, by omega, ?_, hUV e (List.mem_append.2 (.inl he))⟩
        rcases (drawOk_spec hd i o ho).2 e.1 e.2 hlt g1 with hb | hI
        · exfalso
          obtain ⟨o', ho', x, hx, hbi, hh⟩ := ancs_spec ops i e.1 (by rw [ancs_len]; exact hil) hb
          have : o' = o := by rw [show ops.toList[i]? = ops[i]? by simp, ho] at ho'; exact (Option.some.inj ho').symm
          subst this
          have hx1 := hdeps x hx hbi
          have : listed.getD e.1 false = true := by
            rcases hh with hh | ⟨hh1, hh2⟩
            · exact hh ▸ hx1
            · exact anc_listed hc x.on e.1 hx1 (by omega) hh2
          have := getD_true_false this
          rw [g2] at this
          cases this
        · exact hI) (hnd hsp.1) hUi hVi
      have hset : ∀ (b : Bool) (j : Nat), (listed.setIfInBounds i true).getD j b = if j = i then true else listed.getD j b := fun b j => getD_set b (by omega)
      have next : ∀ a' w' U' V', U' = With U (nx0 + i) → V' = With V (nt0 + i) → StN own S0 w0 N U' V' (d.apply o.dst st) a' w' → wpAny P .any ops QQ fuel (listed.setIfInBounds i true) a' w' := by
        rintro a' w' U' V' rfl rfl hs'
        have hsub : (pre ++ post).Sublist (pre ++ (i, o) :: post) := List.Sublist.append (List.Sublist.refl _) (List.sublist_cons_self _ _)
        have hpw := hs.sublist hsub
        have hne : ∀ e ∈ pre ++ post, e.1 ≠ i := fun e he => by
          rcases List.mem_append.1 he with he | he
          · have := hsp.2.2 e he (i, o) (by simp); simp only at this; omega
          · have := List.rel_of_pairwise_cons hsp.2.1 he; simp only at this; omega
        refine ih fuel _ (pre ++ post) _ _ _ a' w' (by simp at hn ⊢; omega) (by simp [hsz]) (by simp at hl ⊢; omega) hpw (fun e => ?_) (fun j hj hjs => ?_) ?_ (fun e he => ?_) (fun x hx => hx.elim (hU x) (fun e => by omega)) (fun x hx => hx.elim (hV x) (fun e => by omega)) hs' e2
        · rw [hset]
          constructor
          · intro he
            have := (hL e).1 (hsub.subset he)
            rw [if_neg (hne e he)]
            exact this
          · rintro ⟨g1, g0, g2⟩
            split at g2
            · cases g2
            · rename_i hei
              have := (hL e).2 ⟨g1, g0, g2⟩
              rcases List.mem_append.1 this with this | this
              · exact List.mem_append.2 (.inl this)
              · rcases List.mem_cons.1 this with this | this
                · exact absurd (congrArg Prod.fst this) hei
                · exact List.mem_append.2 (.inr this)
        · rw [hset, if_neg (by omega)]
          exact hge j hj hjs
        · intro m om hm hlm x hx hb
          rw [hset] at hlm ⊢
          split
          · rfl
          · split at hlm
            · rename_i _ hmi
              subst hmi
              rw [ho] at hm
              obtain rfl := Option.some.inj hm
              exact hdeps x hx hb
            · exact hc m om hm hlm x hx hb
        · obtain ⟨g1, g2⟩ := hUV e (hsub.subset he)
          have := hne e he
          exact ⟨fun h => h.elim g1 (fun h => this (by omega)), fun h => h.elim g2 (fun h => this (by omega))⟩
      unfold wpOp
      rw [ho]
      have := elem_sound (K := (· = d)) (Q := QQ) (hfit _ _ ho) h hUi hVi e1
      simp only
      split
      · rename_i hw
        rw [if_pos hw] at this
        refine .inl (Oper.wp_mono ?_ this)
        rintro a' w' ⟨d', rfl, hs'⟩
        exact next a' w' _ _ rfl rfl hs'
      · rename_i hw
        rw [if_neg hw] at this
        obtain ⟨d', rfl, hs'⟩ := this
        exact next _ _ _ _ rfl rfl hs'

theorem seg_all : Seg ops ops.size := fun listed _ _ _ _ i hi => by
  obtain ⟨o, ho, _⟩ := ready_mem hi
  exact (Array.getElem?_eq_some_iff.1 ho).1
theorem any_sound {nx0 nt0 : Nat} {R : Act → World → Prop} {QQ : Exit → Act → World → Prop} {K : PS → Prop} (hK : ∀ s s', Eqv s s' → K s → K s') (hd : drawOk ops = true) (hf : (ops.toList.all fun o => fitsDst N o.dst) = true)
    (hQ : ∀ s a w, K s → StN own S0 w0 N (· < nx0 + ops.size) (· < nt0 + ops.size) s a w → QQ .normal a w) (fuel : Nat) (listed : Array Bool) (L : List (Nat × Oper)) (U V : Nat → Prop) (st : PS) (a : Act) (w : World)
    (hsz : listed.size = ops.size) (hl : L.length ≤ fuel) (hs : L.Pairwise (fun x y => x.1 < y.1)) (hL : ∀ e, e ∈ L ↔ ops[e.1]? = some e.2 ∧ listed.getD e.1 true = false) (hc : Closed ops listed)
    (hUV : ∀ e ∈ L, ¬ U (nx0 + e.1) ∧ ¬ V (nt0 + e.1)) (hU : ∀ i, U i → i < nx0 + ops.size) (hV : ∀ i, V i → i < nt0 + ops.size) (h : StN own S0 w0 N U V st a w) (k : dopsL P ops nx0 nt0 L st K) : wpAny P .any ops QQ fuel listed a w := by
  refine any_seg seg_all (Nat.le_refl _) hK hd hf ?_ L.length fuel listed L U V st a w rfl hsz (by omega) hs (fun e => (hL e).trans ⟨fun h => ⟨h.1, (Array.getElem?_eq_some_iff.1 h.1).1, h.2⟩, fun h => ⟨h.1, h.2.2⟩⟩) (fun j h1 h2 => absurd h2 (by omega)) hc hUV hU hV h k
  intro s a w fuel listed hk hs hsz hc h1 h2 hfu
  have hr : Region.ready .any ops listed = [] := by
    cases hx : Region.ready .any ops listed with
    | nil => rfl
    | cons i r =>
      obtain ⟨o, g1, g2, _⟩ := ready_mem (ops := ops) (listed := listed) (i := i) (by rw [hx]; simp)
      rw [h1 i (Array.getElem?_eq_some_iff.1 g1).1] at g2
      cases g2
  cases fuel with
  | zero => exact ⟨hr, hQ s a w hk hs⟩
  | succ fuel => exact ⟨fun _ => hQ s a w hk hs, fun i hi => by rw [hr] at hi; cases hi⟩
theorem anc_of {listed : Array Bool} (hc : Closed ops listed) {i j : Nat} {o : Oper} (ho : ops[i]? = some o) (hd : ∀ e ∈ o.after.toList, Region.binds .any e = true → listed.getD e.on false = true) (hj : ((ancs ops.toList 0 []).getD i 0).testBit j = true) : listed.getD j false = true := by
  have hil : i < ops.size := (Array.getElem?_eq_some_iff.1 ho).1
  obtain ⟨o', ho', x, hx, hbi, hh⟩ := ancs_spec ops i j (by rw [ancs_len]; exact hil) hj
  have : o' = o := by rw [show ops.toList[i]? = ops[i]? by simp, ho] at ho'; exact (Option.some.inj ho').symm
  subst this
  have hx1 := hd x hx hbi
  rcases hh with hh | ⟨hh1, hh2⟩
  · exact hh ▸ hx1
  · exact anc_listed hc x.on j hx1 (by omega) hh2
theorem bar_spec {k : Nat} (h : barOk ops k = true) : (∃ o, ops[k]? = some o ∧ o.guard = none) ∧ (∀ i, i < k → ((ancs ops.toList 0 []).getD k 0).testBit i = true) ∧ ∀ i, k < i → i < ops.size → ((ancs ops.toList 0 []).getD i 0).testBit k = true := by
  unfold barOk at h
  simp only [Bool.and_eq_true, List.all_eq_true, List.mem_range, Bool.or_eq_true, beq_iff_eq] at h
  obtain ⟨h1, h2⟩ := h
  have hk : ∃ o, ops[k]? = some o ∧ o.guard = none := by
    split at h1
    · rename_i o ho; exact ⟨o, ho, by simpa using h1⟩
    · cases h1
  obtain ⟨o, ho, hg⟩ := hk
  have hks : k < ops.size := (Array.getElem?_eq_some_iff.1 ho).1
  refine ⟨⟨o, ho, hg⟩, fun i hi => ?_, fun i hi hs => ?_⟩
  · have := (h2 i (by omega)).resolve_left (by omega)
    rwa [if_pos hi] at this
  · have := (h2 i hs).resolve_left (by omega)
    rwa [if_neg (by omega)] at this
theorem bar_seg {k : Nat} (h : barOk ops k = true) : Seg ops k := by
  obtain ⟨⟨ok, hok, _⟩, hb, ha⟩ := bar_spec h
  intro listed hsz hc hge ⟨j, hj, hju⟩ i hi
  obtain ⟨o, ho, hun, hdeps⟩ := ready_mem hi
  have hil : i < ops.size := (Array.getElem?_eq_some_iff.1 ho).1
  have hks : k < ops.size := (Array.getElem?_eq_some_iff.1 hok).1
  rcases Nat.lt_trichotomy i k with h | h | h
  · exact h
  · subst h
    have := getD_true_false (anc_of hc ho hdeps (hb j hj))
    rw [hju] at this; cases this
  · have := getD_true_false (anc_of hc ho hdeps (ha i h hil))
    rw [hge k (Nat.le_refl _) hks] at this; cases this

theorem pdraw_sound {id : Nat} {st : PS} {a : Act} {w : World} {Q : Exit → PS → Prop} (hm : P.follows .mixedOrders = true) (hf : (ops.toList.all fun o => fitsDst N o.dst) = true) (hd : drawOk ops = true) (k : dops P ops st.nx st.nt 0 ops.toList st (Q .normal))
    (h : Stt own S0 w0 N st a w) : (Code.region id ops true).wp P (liftN own S0 w0 N Q) a w := by
  refine wp_region_any hm ?_
  have k1 := dops_dopsL ops.toList 0 st (dops_dops0 ops.toList 0 st k)
  have hz : ∀ m, m < ops.size → (Array.replicate ops.size false).getD m true = false := fun m hm => by simp [Array.getD_eq_getD_getElem?, Array.getElem?_replicate, hm]
  have hz' : ∀ m, (Array.replicate ops.size false).getD m false = false := fun m => by
    simp only [Array.getD_eq_getD_getElem?, Array.getElem?_replicate]; split <;> rfl
  have h' : Stt own S0 w0 N st a w.drew := by
    obtain ⟨h1, h2, C, R, E⟩ := h
    exact ⟨h1, h2, C, R.drew, E⟩
  refine any_sound (R := fun _ _ => True) (nx0 := st.nx) (nt0 := st.nt) (K := fun s => ∃ s0, Eqv s0 s ∧ Q .normal { s0 with nx := st.nx + (0 + ops.toList.length), nt := st.nt + (0 + ops.toList.length) }) ?_ hd hf ?_
    ops.size (Array.replicate ops.size false) (placed 0 ops.toList) (· < st.nx) (· < st.nt) st a _ (by simp) ?_ (placed_sorted _ _) (fun e => ?_) ?_ (fun e _ => ⟨by omega, by omega⟩) (fun i h => by omega) (fun i h => by omega) h' ?_
  · rintro s s' e ⟨s0, e0, hq⟩
    exact ⟨s0, e0.trans e, hq⟩
  · rintro s a' w' ⟨s0, e0, hq⟩ hs
    refine ⟨_, hq, ?_⟩
    have := (hs.eqv e0).nxnt (st.nx + (0 + ops.toList.length)) (st.nt + (0 + ops.toList.length))
    exact this.wide (fun i hi => by simpa using hi) (fun i hi => by simpa using hi)
  · have : ∀ (l : List Oper) (i : Nat), (placed i l).length = l.length := by
      intro l
      induction l with
      | nil => intro i; rfl
      | cons o r ih => intro i; simp [placed, ih]
    simp [this]
  · rw [placed_get]
    simp only [Nat.zero_le, Nat.sub_zero, true_and, Array.getElem?_toList]
    constructor
    · exact fun h => ⟨h, hz _ (Array.getElem?_eq_some_iff.1 h).1⟩
    · exact fun h => h.1
  · intro m o hmo hl
    rw [hz m (Array.getElem?_eq_some_iff.1 hmo).1] at hl
    cases hl
  · have gen : ∀ (l : List (Nat × Oper)) (s : PS) (K K' : PS → Prop), (∀ s, K s → K' s) → dopsL P ops st.nx st.nt l s K → dopsL P ops st.nx st.nt l s K' := by
      intro l
      induction l with
      | nil => exact fun s K K' hk h => hk s h
      | cons e r ih =>
        intro s K K' hk h
        obtain ⟨i, o⟩ := e
        simp only [dopsL] at h ⊢
        exact elemD_det.mono (fun d hd => ih _ K K' hk hd) h
    exact gen _ _ _ _ (fun s hs => ⟨s, Eqv.refl s, hs⟩) k1
theorem bar_sound {id k : Nat} {st : PS} {a : Act} {w : World} {Q : Exit → PS → Prop} (hm : P.follows .mixedOrders = true) (hf : (ops.toList.all fun o => fitsDst N o.dst) = true) (hd : drawOk ops = true) (hb : barOk ops k = true)
    (kk : dopsB P ops ops.toList k st (Q .normal)) (h : Stt own S0 w0 N st a w) : (Code.region id ops true).wp P (liftN own S0 w0 N Q) a w := by
  refine wp_region_any hm ?_
  obtain ⟨⟨ok, hok, hgu⟩, hb1, hb2⟩ := bar_spec hb
  have hks : k < ops.size := (Array.getElem?_eq_some_iff.1 hok).1
  unfold dopsB at kk
  have hd1 : (ops.toList.drop k).take 1 = [ok] := by
    have : ops.toList[k]? = some ok := by simpa using hok
    rw [List.drop_eq_getElem_cons (by simpa using hks)]
    have h2 := (List.getElem?_eq_some_iff.1 this).2
    simp [h2]
  rw [hd1] at kk
  have k1 := dops_dopsL (ops.toList.take k) 0 st (dops_dops0 _ 0 st kk)
  have hz : ∀ m, m < ops.size → (Array.replicate ops.size false).getD m true = false := fun m hm => by simp [Array.getD_eq_getD_getElem?, Array.getElem?_replicate, hm]
  have h' : Stt own S0 w0 N st a w.drew := by
    obtain ⟨h1, h2, C, R, E⟩ := h
    exact ⟨h1, h2, C, R.drew, E⟩
  have hplen : ∀ (l : List Oper) (i : Nat), (placed i l).length = l.length := by
    intro l
    induction l with
    | nil => intro i; rfl
    | cons o r ih => intro i; simp [placed, ih]
  have hfit : ∀ (x : Nat) (o' : Oper), ops[x]? = some o' → fitsDst N o'.dst = true := fun x o' hx => by
    rw [List.all_eq_true] at hf
    exact hf o' (List.mem_of_getElem? (i := x) (by simpa using hx))
  have htl : (ops.toList.take k).length = k := by rw [List.length_take]; simp; omega
  have gen : ∀ (nx0 nt0 : Nat) (l : List (Nat × Oper)) (s : PS) (K K' : PS → Prop), (∀ s, K s → K' s) → dopsL P ops nx0 nt0 l s K → dopsL P ops nx0 nt0 l s K' := by
    intro nx0 nt0 l
    induction l with
    | nil => exact fun s K K' hk h => hk s h
    | cons e r ih =>
      intro s K K' hk h
      obtain ⟨i, o⟩ := e
      simp only [dopsL] at h ⊢
      exact elemD_det.mono (fun d hd => ih _ K K' hk hd) h
  refine any_seg (k := k) (bar_seg hb) (by omega) (nx0 := st.nx) (nt0 := st.nt)
    (K := fun s => ∃ s0, Eqv s0 s ∧ dopsS P ops 0 [ok] { s0 with nx := st.nx + (0 + k), nt := st.nt + (0 + k) } fun s' => dops P ops s'.nx s'.nt (k + 1) (ops.toList.drop (k + 1)) s' (Q .normal)) ?_ hd hf ?_
    k ops.size (Array.replicate ops.size false) (placed 0 (ops.toList.take k)) (· < st.nx) (· < st.nt) st a _ (by rw [hplen, htl]) (by simp) (by rw [hplen, htl]; omega) (placed_sorted _ _) (fun e => ?_) (fun j _ hj => hz j hj) ?_ (fun e _ => ⟨by omega, by omega⟩) (fun i h => by omega) (fun i h => by omega) h' ?_
  · rintro s s' e ⟨s0, e0, hq⟩
    exact ⟨s0, e0.trans e, hq⟩
  · rintro s a' w' fuel listed ⟨s0, e0, hq⟩ hs hsz hc hlt hge hfu
    have hs2 := (hs.eqv e0).nxnt (st.nx + (0 + k)) (st.nt + (0 + k))
    have hs3 : Stt own S0 w0 N { s0 with nx := st.nx + (0 + k), nt := st.nt + (0 + k) } a' w' := hs2.wide (fun i hi => by simpa using hi) (fun i hi => by simpa using hi)
    generalize { s0 with nx := st.nx + (0 + k), nt := st.nt + (0 + k) } = sb at hq hs3
    have hready : ∀ i ∈ Region.ready .any ops listed, i = k := by
      intro i hi
      obtain ⟨o, ho, hun, hdeps⟩ := ready_mem hi
      have hil : i < ops.size := (Array.getElem?_eq_some_iff.1 ho).1
      rcases Nat.lt_trichotomy i k with h | h | h
      · rw [hlt i h] at hun; cases hun
      · exact h
      · have := getD_true_false (anc_of hc ho hdeps (hb2 i h hil))
        rw [hge k (Nat.le_refl _) hks] at this; cases this
    have hkr : k ∈ Region.ready .any ops listed := mem_ready hok (hge k (Nat.le_refl _) hks) (fun e he hbi => by
      have h1 := (drawOk_spec hd k ok hok).1 e he hbi
      have h2 := hlt e.on h1
      simp only [Array.getD_eq_getD_getElem?, Array.getElem?_eq_getElem (show e.on < listed.size by omega)] at h2 ⊢
      simpa using h2)
    cases fuel with
    | zero => omega
    | succ fuel =>
    refine ⟨fun hr => (by rw [hr] at hkr; cases hkr), fun i hi => ?_⟩
    obtain rfl := hready i hi
    unfold wpOp
    rw [hok]
    have hw : Region.wanted ok (yielded ops a'.tmps) = true := by simp [Region.wanted, hgu]
    simp only
    rw [if_pos hw]
    refine .inl ?_
    simp only [dopsS, hgu] at hq
    obtain ⟨h1, h2, C, R, E⟩ := hs3
    refine Oper.wp_mono ?_ (stepS_sound (i := 0) E R h1 h2 (hfit _ _ hok) hq)
    rintro a2 w2 ⟨s2, hk2, hS2⟩
    have hset : ∀ (b : Bool) (j : Nat), (listed.setIfInBounds i true).getD j b = if j = i then true else listed.getD j b := fun b j => getD_set b (by omega)
    obtain ⟨s3, e3⟩ : ∃ s3 : PS, s3 = { s2 with nx := s2.nx + (0 + 1), nt := s2.nt + (0 + 1) } := ⟨_, rfl⟩
    have hk3 : dops P ops s3.nx s3.nt (i + 1) (ops.toList.drop (i + 1)) s3 (Q .normal) := by rw [e3]; exact hk2
    have hS3 : Stt own S0 w0 N s3 a2 w2 := by rw [e3]; exact hS2.nxnt _ _
    have k2 := dops_dopsL (ops.toList.drop (i + 1)) (i + 1) _ (dops_dops0 _ (i + 1) _ hk3)
    have hdl : (ops.toList.drop (i + 1)).length = ops.size - (i + 1) := by simp
    refine any_sound (R := fun _ _ => True) (nx0 := s3.nx) (nt0 := s3.nt) (K := fun s => ∃ s0, Eqv s0 s ∧ Q .normal { s0 with nx := s3.nx + (i + 1 + (ops.toList.drop (i + 1)).length), nt := s3.nt + (i + 1 + (ops.toList.drop (i + 1)).length) }) ?_ hd hf ?_
      fuel (listed.setIfInBounds i true) (placed (i + 1) (ops.toList.drop (i + 1))) (· < s3.nx) (· < s3.nt) s3 a2 w2 (by simp [hsz]) (by rw [hplen, hdl]; omega) (placed_sorted _ _) (fun e => ?_) ?_ (fun e _ => ⟨by omega, by omega⟩) (fun j h => by omega) (fun j h => by omega) hS3 (gen _ _ _ _ _ _ (fun s hs => ⟨s, Eqv.refl s, hs⟩) k2)
    · rintro s s' e ⟨s0, e0, hq⟩
      exact ⟨s0, e0.trans e, hq⟩
    · rintro s a3 w3 ⟨s0, e0, hq⟩ hs
      refine ⟨_, hq, ?_⟩
      have := (hs.eqv e0).nxnt (s3.nx + (i + 1 + (ops.toList.drop (i + 1)).length)) (s3.nt + (i + 1 + (ops.toList.drop (i + 1)).length))
      exact this.wide (fun j hj => by rw [hdl]; show j < s3.nx + _; omega) (fun j hj => by rw [hdl]; show j < s3.nt + _; omega)
    · rw [placed_get, hset, List.getElem?_drop]
      constructor
      · rintro ⟨g1, g2⟩
        rw [show i + 1 + (e.1 - (i + 1)) = e.1 by omega] at g2
        have g3 : ops[e.1]? = some e.2 := by simpa using g2
        rw [if_neg (by omega)]
        exact ⟨g3, hge e.1 (by omega) (Array.getElem?_eq_some_iff.1 g3).1⟩
      · rintro ⟨g1, g2⟩
        split at g2
        · cases g2
        · rename_i hne
          have hgt : i < e.1 := by
            rcases Nat.lt_trichotomy e.1 i with h | h | h
            · rw [hlt e.1 h] at g2; cases g2
            · exact absurd h hne
            · exact h
          refine ⟨hgt, ?_⟩
          rw [show i + 1 + (e.1 - (i + 1)) = e.1 by omega]
          simpa using g1
    · intro m om hm hlm x hx hbi
      rw [hset] at hlm ⊢
      split
      · rfl
      · split at hlm
        · rename_i _ hmi
          subst hmi
          rw [hok] at hm
          obtain rfl := Option.some.inj hm
          obtain ⟨o', ho', _, hdeps⟩ := ready_mem hkr
          rw [hok] at ho'
          obtain rfl := Option.some.inj ho'
          exact hdeps x hx hbi
        · exact hc m om hm hlm x hx hbi
  · rw [placed_get]
    simp only [Nat.zero_le, Nat.sub_zero, true_and]
    rw [List.getElem?_take]
    constructor
    · intro h
      split at h
      · have h : ops[e.1]? = some e.2 := by simpa using h
        exact ⟨h, by assumption, hz _ (Array.getElem?_eq_some_iff.1 h).1⟩
      · cases h
    · rintro ⟨h1, h2, _⟩
      rw [if_pos h2]
      simpa using h1
  · intro m o hmo hl
    rw [hz m (Array.getElem?_eq_some_iff.1 hmo).1] at hl
    cases hl
  · refine gen _ _ _ _ _ _ (fun s hs => ⟨s, Eqv.refl s, ?_⟩) k1
    rw [htl] at hs
    exact hs
theorem expl_sound {id : Nat} {st : PS} {a : Act} {w : World} {Q : Exit → PS → Prop} {l : Nat × Nat} (hL : (∀ i, S0.U i → i < l.1) ∧ ∀ i, S0.V i → i < l.2) (hm : P.follows .mixedOrders = true) (hf : (ops.toList.all fun o => fitsDst N o.dst) = true)
    (kk : expl P ops l st (Q .normal)) (h : Stt own S0 w0 N st a w) : (Code.region id ops true).wp P (liftN own S0 w0 N Q) a w := by
  refine wp_region_any hm ?_
  obtain ⟨ι, I, B, m, i0, hw, hB, hm0, k⟩ := kk
  have h' : Stt own S0 w0 N st a w.drew := by
    obtain ⟨h1, h2, C, R, E⟩ := h
    exact ⟨h1, h2, C, R.drew, E⟩
  have key : ∀ (fuel : Nat) (i : ι) (a : Act) (w : World), m i ≤ fuel → Stt own S0 w0 N (I i) a w → wpAny P .any ops (liftN own S0 w0 N Q) fuel (B i) a w := by
    intro fuel
    induction fuel with
    | zero =>
      intro i a w hi hs
      have hr := (k i).2.1 (by omega)
      exact ⟨hr, ⟨_, (k i).1 hr, hs⟩⟩
    | succ fuel ih =>
      intro i a w hi hs
      refine ⟨fun hr => ⟨_, (k i).1 hr, hs⟩, fun n hn => ?_⟩
      have hk := bindO_elim ((k i).2.2 n hn)
      obtain ⟨o, ho, hd⟩ := hk
      unfold wpOp
      rw [ho]
      have hfit : fitsDst N o.dst = true := by
        rw [List.all_eq_true] at hf
        exact hf o (List.mem_of_getElem? (i := n) (by simpa using ho))
      have next : ∀ (s2 : PS) (a2 : Act) (w2 : World), (∃ j, m j < m i ∧ B j = (B i).setIfInBounds n true ∧ Weak l { s2 with nx := s2.nx + (0 + 1), nt := s2.nt + (0 + 1) } (I j)) → StN own S0 w0 N (· < s2.nx + (0 + 1)) (· < s2.nt + (0 + 1)) s2 a2 w2 → wpAny P .any ops (liftN own S0 w0 N Q) fuel ((B i).setIfInBounds n true) a2 w2 := by
        rintro s2 a2 w2 ⟨j, hj, hBj, hwj⟩ hS2
        have hS3 : Stt own S0 w0 N { s2 with nx := s2.nx + (0 + 1), nt := s2.nt + (0 + 1) } a2 w2 := hS2.nxnt _ _
        rw [← hBj]
        exact ih j a2 w2 (by omega) (hS3.weak hL hwj)
      have step : stepN false P o (I i) ((I i).nx + 0) ((I i).nt + 0) (fun s2 => ∃ j, m j < m i ∧ B j = (B i).setIfInBounds n true ∧ Weak l { s2 with nx := s2.nx + (0 + 1), nt := s2.nt + (0 + 1) } (I j)) → o.wp P a w (wpAny P .any ops (liftN own S0 w0 N Q) fuel ((B i).setIfInBounds n true)) (liftN own S0 w0 N Q) := fun hd => by
        obtain ⟨h1, h2, C, R, E⟩ := hs
        refine Oper.wp_mono ?_ (stepS_sound (i := 0) E R h1 h2 hfit hd)
        rintro a2 w2 ⟨s2, h, hS2⟩
        exact next s2 a2 w2 h hS2
      simp only [dopsS] at hd
      simp only
      cases hg : o.guard with
      | none =>
        rw [hg] at hd
        have hwant : Region.wanted o (yielded ops a.tmps) = true := by simp [Region.wanted, hg]
        rw [if_pos hwant]
        exact .inl (step hd)
      | some gb =>
        obtain ⟨g, b⟩ := gb
        rw [hg] at hd
        obtain ⟨t, ht, k1, k2⟩ := guard_sound hs hd
        by_cases htb : t = some b
        · have hwant : Region.wanted o (yielded ops a.tmps) = true := by simp [Region.wanted, hg, ht, htb]
          rw [if_pos hwant]
          exact .inl (step (k1 htb))
        · have hwant : Region.wanted o (yielded ops a.tmps) = false := by simp [Region.wanted, hg, ht, htb]
          rw [if_neg (by rw [hwant]; simp)]
          refine next ((I i).kill o.dst) _ _ (k2 htb) ?_
          have := (hs.kill o.dst hfit).wide (U' := (· < (I i).nx + (0 + 1))) (V' := (· < (I i).nt + (0 + 1))) (fun j hj => by omega) (fun j hj => by omega)
          unfold PS.kill
          rw [put_nx, put_nt]
          exact this
  rw [← hB]
  exact key ops.size i0 a _ hm0 (h'.weak hL hw)
end
end Go.Pw
