import Derived.Test.YtegehnojbfedlaaDoorGA16
/-
  Chapter 25: the law Blanks.
-/
open Go Go.Proofs Go.Pw Go.RowKit
namespace Go.Proofs.YtegehnojbfedlaaDoor
set_option maxRecDepth 4000
set_option linter.unusedVariables false
set_option linter.unusedSimpArgs false
abbrev vC (n : Int) : PV := .val (.int .u8 n)
theorem encC_get (l : List Int) (i : Nat) : (encC l).getD i [] = if i < l.length then [vC (l.getD i 0)] else [] := by
  unfold encC
  by_cases h : i < l.length
  · simp [h, List.getD_eq_getElem?_getD]
  · rw [if_neg h, List.getD_eq_getElem?_getD, List.getElem?_eq_none (by simpa using h)]; rfl
theorem ix_C {a : List Int} {i : Int} {K : PV → Prop} (h0 : 0 ≤ i) (h1 : i < (a.length : Int)) : ixP 1 i K (.sl (encC a)) = K (.fp [vC (a.getD i.toNat 0)]) := by
  have h : i.toNat < a.length := by omega
  simp only [ixP, encC_get, if_pos h, encC_len, List.length_singleton, h0, h1, true_and]
attribute [go_sem ↓ 2000] ix_C
/-- The blanks that a gap's number stands for. -/
def gapQ (q : Int) : List UInt8 := if q = 0 then [] else if q = 1 then [32] else if q = 2 then [9] else if q = 3 then [10, 13] else [32, 32]
def gapS (gs : List Int) (n : Nat) : List UInt8 := if n < gs.length then gapQ ((gs.getD n 0).tmod 5) else []
theorem gapQ_blk (q : Int) : blk (gapQ q) := by
  unfold gapQ
  intro b hb
  split at hb
  · cases hb
  split at hb
  · rw [List.mem_singleton] at hb; subst hb; decide
  split at hb
  · rw [List.mem_singleton] at hb; subst hb; decide
  split at hb
  · simp only [List.mem_cons, List.not_mem_nil, or_false] at hb
    rcases hb with rfl | rfl <;> decide
  · simp only [List.mem_cons, List.not_mem_nil, or_false] at hb
    rcases hb with rfl | rfl <;> decide
theorem gapS_blk (gs : List Int) (n : Nat) : blk (gapS gs n) := by
  unfold gapS
  split
  · exact gapQ_blk _
  · intro b hb; cases hb
theorem gapS_len (gs : List Int) (n : Nat) : (gapS gs n).length ≤ 2 := by
  unfold gapS gapQ
  repeat' split
  all_goals decide
/-- A line with gaps: from a place on, with so many gaps told. -/
def bl (gs : List Int) (e : Nat) : Nat → Nat → List UInt8 → List UInt8
  | _, _, [] => []
  | i, n, b :: r => if (i < e ∧ b = 32) ∨ i = 0 then gapS gs n ++ b :: bl gs e (i + 1) (n + 1) r else b :: bl gs e (i + 1) n r
theorem bl_nb {gs : List Int} {e : Nat} : ∀ {p : List UInt8} {i n : Nat} (t : List UInt8), (∀ b ∈ p, b ≠ 32) → 0 < i → bl gs e i n (p ++ t) = p ++ bl gs e (i + p.length) n t
  | [], i, n, t, _, _ => rfl
  | b :: p, i, n, t, h, hi => by
    have hb := h b (by simp)
    have ih := bl_nb (gs := gs) (e := e) (p := p) (i := i + 1) (n := n) t (fun c hc => h c (by simp [hc])) (by omega)
    rw [List.cons_append, bl, if_neg (by rintro (⟨_, k⟩ | k); exact hb k; omega), ih, List.length_cons, show i + 1 + p.length = i + (p.length + 1) by omega]
    rfl
theorem bl_out {gs : List Int} {e : Nat} : ∀ {i n : Nat} (t : List UInt8), e ≤ i → 0 < i → bl gs e i n t = t
  | _, _, [], _, _ => rfl
  | i, n, b :: t, he, hi => by
    rw [bl, if_neg (by rintro (⟨k, _⟩ | k) <;> omega), bl_out t (by omega) (by omega)]
def gapped (gs : List Int) : Nat → List (List UInt8) → List Gp
  | _, [] => []
  | n, p :: r => (gapS gs n ++ [32], p) :: gapped gs (n + 1) r
theorem nb_32 {p : List UInt8} (h : nbk p) : ∀ b ∈ p, b ≠ 32 := fun b hb e => by
  have := h.2 b hb
  rw [e] at this
  cases this
theorem bl_jT {gs : List Int} {e : Nat} : ∀ {l : List (List UInt8)} {i n : Nat} (t : List UInt8), (∀ p ∈ l, nbk p) → 0 < i → i + (jT l).length ≤ e →
    bl gs e i n (jT l ++ t) = catG (gapped gs n l) ++ bl gs e (i + (jT l).length) (n + l.length) t
  | [], i, n, t, _, _, _ => rfl
  | p :: r, i, n, t, h, hi, he => by
    rw [jT_cons, List.length_append, List.length_cons] at he
    have ih := bl_jT (gs := gs) (e := e) (l := r) (i := i + 1 + p.length) (n := n + 1) t (fun q hq => h q (by simp [hq])) (by omega) (by omega)
    rw [jT_cons, List.cons_append, List.cons_append, bl, if_pos (.inl ⟨by omega, rfl⟩), List.append_assoc, bl_nb _ (nb_32 (h p (by simp))) (by omega), ih]
    simp only [gapped, catG_cons, List.append_assoc, List.cons_append, List.nil_append, List.length_cons, List.length_append]
    rw [show i + 1 + p.length + (jT r).length = i + (p.length + (jT r).length + 1) by omega, show n + 1 + r.length = n + (r.length + 1) by omega]
theorem gapped_len {gs : List Int} : ∀ {n : Nat} {l : List (List UInt8)}, (gapped gs n l).length = l.length
  | _, [] => rfl
  | n, p :: r => by rw [gapped, List.length_cons, gapped_len, List.length_cons]
theorem gapped_snd {gs : List Int} : ∀ {n : Nat} {l : List (List UInt8)}, (gapped gs n l).map (·.2) = l
  | _, [] => rfl
  | n, p :: r => by rw [gapped, List.map_cons, gapped_snd]
theorem gapped_app {gs : List Int} : ∀ {n : Nat} {l m : List (List UInt8)}, gapped gs n (l ++ m) = gapped gs n l ++ gapped gs (n + l.length) m
  | _, [], _ => rfl
  | n, p :: r, m => by
    rw [List.cons_append, gapped, gapped, gapped_app, List.length_cons, show n + 1 + r.length = n + (r.length + 1) by omega]
    rfl
theorem gapped_ok {gs : List Int} : ∀ {n : Nat} {l : List (List UInt8)}, (∀ p ∈ l, nbk p) → ∀ x ∈ gapped gs n l, okG x ∧ x.2 ∈ l
  | _, [], _, x, hx => by cases hx
  | n, p :: r, h, x, hx => by
    rw [gapped] at hx
    rcases List.mem_cons.1 hx with rfl | hx
    · refine ⟨⟨by simp, fun b hb => ?_, h p (by simp)⟩, by simp⟩
      rcases List.mem_append.1 hb with hb | hb
      · exact gapS_blk gs n b hb
      · exact blk_sp b hb
    · have := gapped_ok (l := r) (fun q hq => h q (by simp [hq])) x hx
      exact ⟨this.1, by simp [this.2]⟩
/-- Numbers, each with what is blank in front of it. -/
def gappedN (gs : List Int) : Nat → List Int → List (List UInt8 × Int)
  | _, [] => []
  | n, m :: r => (gapS gs n ++ [32], m) :: gappedN gs (n + 1) r
theorem gappedN_map {gs : List Int} : ∀ {n : Nat} {l : List Int}, (gappedN gs n l).map (fun x => (x.1, tOf x.2)) = gapped gs n (l.map tOf)
  | _, [] => rfl
  | n, m :: r => by rw [gappedN, List.map_cons, gappedN_map, List.map_cons, gapped]
theorem gappedN_len {gs : List Int} : ∀ {n : Nat} {l : List Int}, (gappedN gs n l).length = l.length
  | _, [] => rfl
  | n, p :: r => by rw [gappedN, List.length_cons, gappedN_len, List.length_cons]
theorem gappedN_snd {gs : List Int} : ∀ {n : Nat} {l : List Int}, (gappedN gs n l).map (·.2) = l
  | _, [] => rfl
  | n, p :: r => by rw [gappedN, List.map_cons, gappedN_snd]
theorem gappedN_ok {gs : List Int} : ∀ {n : Nat} {l : List Int}, (∀ m ∈ l, fits m) → ∀ x ∈ gappedN gs n l, x.1 ≠ [] ∧ blk x.1 ∧ fits x.2
  | _, [], _, x, hx => by cases hx
  | n, p :: r, h, x, hx => by
    rw [gappedN] at hx
    rcases List.mem_cons.1 hx with rfl | hx
    · refine ⟨by simp, fun b hb => ?_, h p (by simp)⟩
      rcases List.mem_append.1 hb with hb | hb
      · exact gapS_blk gs n b hb
      · exact blk_sp b hb
    · exact gappedN_ok (l := r) (fun q hq => h q (by simp [hq])) x hx
theorem bl_len {gs : List Int} {e : Nat} : ∀ {i n : Nat} {l : List UInt8}, (bl gs e i n l).length ≤ 3 * l.length
  | _, _, [] => Nat.le_refl _
  | i, n, b :: r => by
    have h1 := gapS_len gs n
    rw [bl]
    split
    · have ih := bl_len (gs := gs) (e := e) (i := i + 1) (n := n + 1) (l := r)
      rw [List.length_append, List.length_cons, List.length_cons]; omega
    · have ih := bl_len (gs := gs) (e := e) (i := i + 1) (n := n) (l := r)
      rw [List.length_cons, List.length_cons]; omega
/-- Up to where gaps may stand. -/
def endC (c : Cm) : Nat := match asks c.word with
  | some (_, _, true) => (lineC c).length - c.rest.length
  | _ => (lineC c).length
def tailC (c : Cm) : List UInt8 := if c.rest = [] then [32, 10] else []
theorem parse_gaps {c : Cm} (gs : List Int) (h : goodC c = true) (hf : ∀ n ∈ c.nums, fits n) (hl : (lineC c).length ≤ 5000) :
    parseC (bl gs (endC c) 0 0 (lineC c) ++ tailC c) = .ok c := by
  have htot := bl_len (gs := gs) (e := endC c) (i := 0) (n := 0) (l := lineC c)
  have htl : (tailC c).length ≤ 2 := by unfold tailC; split <;> simp
  obtain ⟨w, ns, ms, rt⟩ := c
  obtain ⟨r, ha, hr, hs, hn⟩ := goodC_iff h
  simp only at ha hr hs hn hf
  have hw := word_nb ha
  obtain ⟨ps', hps⟩ : ∃ ps', ns ++ ms.map tOf = ps' := ⟨_, rfl⟩
  have hnb : ∀ p ∈ ps', nbk p := fun p hp => by
    rw [← hps] at hp
    rcases List.mem_append.1 hp with hp | hp
    · exact name_nb (hn p hp)
    · obtain ⟨m, _, rfl⟩ := List.mem_map.1 hp
      exact text_nb m
  obtain ⟨R, hR⟩ : ∃ R, R = jT (restC ⟨w, ns, ms, rt⟩) := ⟨_, rfl⟩
  have hline : lineC ⟨w, ns, ms, rt⟩ = w ++ (jT ps' ++ R) := by unfold lineC; rw [jT_app, hps, hR]
  have hRc : (r = true ∧ R = 32 :: rt) ∨ (r = false ∧ R = [] ∧ rt = []) := by
    rw [hR]
    unfold restC
    simp only
    rw [ha]
    cases r with
    | true => exact .inl ⟨rfl, by simp [jT_cons, jT_nil]⟩
    | false => exact .inr ⟨rfl, rfl, by rcases hr with h | h; cases h; exact h⟩
  obtain ⟨e, he⟩ : ∃ e, e = endC ⟨w, ns, ms, rt⟩ := ⟨_, rfl⟩
  have hee : w.length + (jT ps').length ≤ e ∧ (r = true → e = w.length + (jT ps').length + 1) := by
    rw [he]
    unfold endC
    simp only
    rw [ha, hline]
    rcases hRc with ⟨rfl, e1⟩ | ⟨rfl, e1, _⟩
    · simp only [e1, List.length_append, List.length_cons]
      exact ⟨by omega, fun _ => by omega⟩
    · simp only [e1, List.length_append, List.length_nil]
      exact ⟨by omega, fun k => by cases k⟩
  rw [← he] at htot ⊢
  have hw0 : 0 < w.length := List.length_pos_iff.2 hw.1
  have hb1 : bl gs e 0 0 (w ++ (jT ps' ++ R)) = gapS gs 0 ++ (w ++ bl gs e w.length 1 (jT ps' ++ R)) := by
    cases w with
    | nil => exact absurd rfl hw.1
    | cons b p =>
      rw [List.cons_append, bl, if_pos (.inr rfl), bl_nb _ (fun c hc => nb_32 hw c (by simp [hc])) (by decide)]
      simp only [List.cons_append, List.length_cons]
      rw [show 0 + 1 + p.length = p.length + 1 by omega]
  have hb2 := bl_jT (gs := gs) (e := e) (n := 1) (i := w.length) R hnb hw0 hee.1
  obtain ⟨M, hM⟩ : ∃ M, M = bl gs e (w.length + (jT ps').length) (1 + ps'.length) R ++ tailC ⟨w, ns, ms, rt⟩ := ⟨_, rfl⟩
  have hMM : endB M ∧ skp M = rt ∧ (r = true ∨ skp M = []) := by
    have key : skp M = rt ∧ endB M := by
      rw [hM]
      rcases hRc with ⟨rfl, e1⟩ | ⟨rfl, e1, e2⟩
      · have h1 : bl gs e (w.length + (jT ps').length) (1 + ps'.length) R = gapS gs (1 + ps'.length) ++ 32 :: rt := by
          rw [e1, bl, if_pos (.inl ⟨by have := hee.2 rfl; omega, rfl⟩), bl_out rt (by have := hee.2 rfl; omega) (by omega)]
        rw [h1]
        have hgb : blk (gapS gs (1 + ps'.length) ++ [32]) := fun b hb => by
          rcases List.mem_append.1 hb with hb | hb
          · exact gapS_blk gs _ b hb
          · exact blk_sp b hb
        have h2 : gapS gs (1 + ps'.length) ++ 32 :: rt ++ tailC ⟨w, ns, ms, rt⟩ = (gapS gs (1 + ps'.length) ++ [32]) ++ (rt ++ tailC ⟨w, ns, ms, rt⟩) := by simp
        rw [h2]
        constructor
        · rw [skp_blk _ hgb]
          unfold tailC
          by_cases hrt : rt = []
          · rw [if_pos hrt, hrt]; rfl
          · rw [if_neg hrt, List.append_nil, hs]
        · cases hg : gapS gs (1 + ps'.length) with
          | nil => exact .inr ⟨32, _, rfl, by decide⟩
          | cons b g => exact .inr ⟨b, _, rfl, hgb b (by rw [hg]; simp)⟩
      · rw [e1, e2]
        exact ⟨rfl, .inr ⟨32, _, rfl, by decide⟩⟩
    refine ⟨key.2, key.1, ?_⟩
    rcases hr with h | h
    · exact .inl h
    · rw [key.1]; exact .inr h
  have eT : bl gs e 0 0 (lineC ⟨w, ns, ms, rt⟩) ++ tailC ⟨w, ns, ms, rt⟩ = gapS gs 0 ++ (w ++ (catG (gapped gs 1 ns) ++ (catG ((gappedN gs (1 + ns.length) ms).map fun x => (x.1, tOf x.2)) ++ M))) := by
    rw [hline, hb1, hb2, ← hps, gapped_app, gappedN_map, hM, ← hps]
    unfold catG
    simp only [List.map_append, List.flatten_append, List.append_assoc]
  have hlen : (bl gs e 0 0 (lineC ⟨w, ns, ms, rt⟩) ++ tailC ⟨w, ns, ms, rt⟩).length ≤ 20000 := by rw [List.length_append]; omega
  rw [eT] at hlen ⊢
  rw [parse_cat (r := r) (gapS_blk gs 0) (by rw [gapped_len, gappedN_len]; exact ha) (fun x hx => by
      have := gapped_ok (fun p hp => name_nb (hn p hp)) x hx
      exact ⟨this.1, hn _ this.2⟩) (gappedN_ok hf) hMM.1 hMM.2.2 hlen, gapped_snd, gappedN_snd, hMM.2.1]
theorem lit0 : (⟨#[]⟩ : ByteArray) = bA [] := rfl
theorem lit1 : (⟨#[32]⟩ : ByteArray) = bA [32] := rfl
theorem lit2 : (⟨#[9]⟩ : ByteArray) = bA [9] := rfl
theorem lit3 : (⟨#[10, 13]⟩ : ByteArray) = bA [10, 13] := rfl
theorem lit4 : (⟨#[32, 32]⟩ : ByteArray) = bA [32, 32] := rfl
theorem bA_one {l : List UInt8} {i : Nat} (h : i < l.length) : (bA l).extract i (i + 1) = bA [l.getD i 0] := by
  rw [ex_bA, show i + 1 - i = 1 by omega, drop_B (d := 0) h]
  rfl
theorem bl_get {gs : List Int} {e i n : Nat} {l : List UInt8} (h : i < l.length) : bl gs e i n (l.drop i) = if (i < e ∧ l.getD i 0 = 32) ∨ i = 0 then gapS gs n ++ l.getD i 0 :: bl gs e (i + 1) (n + 1) (l.drop (i + 1)) else l.getD i 0 :: bl gs e (i + 1) n (l.drop (i + 1)) := by
  rw [drop_B (d := 0) h, bl]
set_option maxHeartbeats 8000000 in
theorem blanks_law (c : Cm) (gs : List Int) (hc : CmOk c) (hgl : gs.length ≤ 9223372036854775807) (hgr : ∀ n ∈ gs, 0 ≤ n ∧ n ≤ 255) : Ok Tryd.prog 3 [.agg (cellsC c), .sl (encC gs)] (vB true) := by
  obtain ⟨h1, h2, hfit⟩ := hc
  have c0 := awake_ok
  have c1 := small_ok c h1 h2
  show Ok Tryd.prog 3 [cmP c, .sl (encC gs)] (vB true)
  cases hs : smallC c with
  | false =>
    rw [hs] at c1
    unfold cmP at *
    refine Ok.of_pwp (by kernel_rfl) Tryd.func3 rfl (by kernel_rfl) (by kernel_rfl) ?_
    simp (implicitDefEqProofs := false) (disch := omega) only [go_sem, simprocAttr, go_sem, Nat.le_refl, Int.toNat_natCast, Int.toNat_zero, Int.toNat_one, str_eq, sz_bA, tl_bA, encI_len, ↓ix_enc, decide_true, beq_self_eq_true, Bool.not_true, Bool.not_false, Tryd.results3, ap_bA, ap_sp, List.length_append, List.size_toArray, List.length_cons, List.length_nil, Nat.zero_add, Int.cast_ofNat_Int, encC_len]
    with_reducible refine CallOk.of c0 rfl ?_
    simp (implicitDefEqProofs := false) (disch := omega) only [go_sem, simprocAttr, go_sem, Nat.le_refl, Int.toNat_natCast, Int.toNat_zero, Int.toNat_one, str_eq, sz_bA, tl_bA, encI_len, ↓ix_enc, decide_true, beq_self_eq_true, Bool.not_true, Bool.not_false, Tryd.results3, ap_bA, ap_sp, List.length_append, List.size_toArray, List.length_cons, List.length_nil, Nat.zero_add, Int.cast_ofNat_Int, encC_len]
    with_reducible refine CallOk.of c1 rfl ?_
    simp (implicitDefEqProofs := false) (disch := omega) only [go_sem, simprocAttr, go_sem, Nat.le_refl, Int.toNat_natCast, Int.toNat_zero, Int.toNat_one, str_eq, sz_bA, tl_bA, encI_len, ↓ix_enc, decide_true, beq_self_eq_true, Bool.not_true, Bool.not_false, Tryd.results3, ap_bA, ap_sp, List.length_append, List.size_toArray, List.length_cons, List.length_nil, Nat.zero_add, Int.cast_ofNat_Int, encC_len]
    with_reducible refine CallOk.of c0 rfl ?_
    simp (implicitDefEqProofs := false) (disch := omega) only [go_sem, simprocAttr, go_sem, Nat.le_refl, Int.toNat_natCast, Int.toNat_zero, Int.toNat_one, str_eq, sz_bA, tl_bA, encI_len, ↓ix_enc, decide_true, beq_self_eq_true, Bool.not_true, Bool.not_false, Tryd.results3, ap_bA, ap_sp, List.length_append, List.size_toArray, List.length_cons, List.length_nil, Nat.zero_add, Int.cast_ofNat_Int, encC_len]
  | true =>
  rw [hs] at c1
  by_cases hg20 : 20 < gs.length
  · unfold cmP at *
    refine Ok.of_pwp (by kernel_rfl) Tryd.func3 rfl (by kernel_rfl) (by kernel_rfl) ?_
    simp (implicitDefEqProofs := false) (disch := omega) only [go_sem, simprocAttr, go_sem, Nat.le_refl, Int.toNat_natCast, Int.toNat_zero, Int.toNat_one, str_eq, sz_bA, tl_bA, encI_len, ↓ix_enc, decide_true, beq_self_eq_true, Bool.not_true, Bool.not_false, Tryd.results3, ap_bA, ap_sp, List.length_append, List.size_toArray, List.length_cons, List.length_nil, Nat.zero_add, Int.cast_ofNat_Int, encC_len]
    with_reducible refine CallOk.of c0 rfl ?_
    simp (implicitDefEqProofs := false) (disch := omega) only [go_sem, simprocAttr, go_sem, Nat.le_refl, Int.toNat_natCast, Int.toNat_zero, Int.toNat_one, str_eq, sz_bA, tl_bA, encI_len, ↓ix_enc, decide_true, beq_self_eq_true, Bool.not_true, Bool.not_false, Tryd.results3, ap_bA, ap_sp, List.length_append, List.size_toArray, List.length_cons, List.length_nil, Nat.zero_add, Int.cast_ofNat_Int, encC_len]
    with_reducible refine CallOk.of c1 rfl ?_
    simp (implicitDefEqProofs := false) (disch := omega) only [go_sem, simprocAttr, go_sem, Nat.le_refl, Int.toNat_natCast, Int.toNat_zero, Int.toNat_one, str_eq, sz_bA, tl_bA, encI_len, ↓ix_enc, decide_true, beq_self_eq_true, Bool.not_true, Bool.not_false, Tryd.results3, ap_bA, ap_sp, List.length_append, List.size_toArray, List.length_cons, List.length_nil, Nat.zero_add, Int.cast_ofNat_Int, encC_len]
    with_reducible refine CallOk.of c0 rfl ?_
    simp (implicitDefEqProofs := false) (disch := omega) only [go_sem, simprocAttr, go_sem, Nat.le_refl, Int.toNat_natCast, Int.toNat_zero, Int.toNat_one, str_eq, sz_bA, tl_bA, encI_len, ↓ix_enc, decide_true, beq_self_eq_true, Bool.not_true, Bool.not_false, Tryd.results3, ap_bA, ap_sp, List.length_append, List.size_toArray, List.length_cons, List.length_nil, Nat.zero_add, Int.cast_ofNat_Int, encC_len]
  obtain ⟨g1, g2, g3, g4, g5⟩ := (smallC_iff c).1 hs
  have hfw : fewB c.names := fun s h => by have := g1 s h; omega
  have c4 := rgood_ok c (by omega) (by omega) (by omega) hfw
  cases hg : goodC c with
  | false =>
    rw [hg] at c4
    unfold cmP at *
    refine Ok.of_pwp (by kernel_rfl) Tryd.func3 rfl (by kernel_rfl) (by kernel_rfl) ?_
    simp (implicitDefEqProofs := false) (disch := omega) only [go_sem, simprocAttr, go_sem, Nat.le_refl, Int.toNat_natCast, Int.toNat_zero, Int.toNat_one, str_eq, sz_bA, tl_bA, encI_len, ↓ix_enc, decide_true, beq_self_eq_true, Bool.not_true, Bool.not_false, Tryd.results3, ap_bA, ap_sp, List.length_append, List.size_toArray, List.length_cons, List.length_nil, Nat.zero_add, Int.cast_ofNat_Int, encC_len]
    with_reducible refine CallOk.of c0 rfl ?_
    simp (implicitDefEqProofs := false) (disch := omega) only [go_sem, simprocAttr, go_sem, Nat.le_refl, Int.toNat_natCast, Int.toNat_zero, Int.toNat_one, str_eq, sz_bA, tl_bA, encI_len, ↓ix_enc, decide_true, beq_self_eq_true, Bool.not_true, Bool.not_false, Tryd.results3, ap_bA, ap_sp, List.length_append, List.size_toArray, List.length_cons, List.length_nil, Nat.zero_add, Int.cast_ofNat_Int, encC_len]
    with_reducible refine CallOk.of c1 rfl ?_
    simp (implicitDefEqProofs := false) (disch := omega) only [go_sem, simprocAttr, go_sem, Nat.le_refl, Int.toNat_natCast, Int.toNat_zero, Int.toNat_one, str_eq, sz_bA, tl_bA, encI_len, ↓ix_enc, decide_true, beq_self_eq_true, Bool.not_true, Bool.not_false, Tryd.results3, ap_bA, ap_sp, List.length_append, List.size_toArray, List.length_cons, List.length_nil, Nat.zero_add, Int.cast_ofNat_Int, encC_len]
    with_reducible refine CallOk.of c4 rfl ?_
    simp (implicitDefEqProofs := false) (disch := omega) only [go_sem, simprocAttr, go_sem, Nat.le_refl, Int.toNat_natCast, Int.toNat_zero, Int.toNat_one, str_eq, sz_bA, tl_bA, encI_len, ↓ix_enc, decide_true, beq_self_eq_true, Bool.not_true, Bool.not_false, Tryd.results3, ap_bA, ap_sp, List.length_append, List.size_toArray, List.length_cons, List.length_nil, Nat.zero_add, Int.cast_ofNat_Int, encC_len]
    with_reducible refine CallOk.of c0 rfl ?_
    simp (implicitDefEqProofs := false) (disch := omega) only [go_sem, simprocAttr, go_sem, Nat.le_refl, Int.toNat_natCast, Int.toNat_zero, Int.toNat_one, str_eq, sz_bA, tl_bA, encI_len, ↓ix_enc, decide_true, beq_self_eq_true, Bool.not_true, Bool.not_false, Tryd.results3, ap_bA, ap_sp, List.length_append, List.size_toArray, List.length_cons, List.length_nil, Nat.zero_add, Int.cast_ofNat_Int, encC_len]
  | true =>
  rw [hg] at c4
  have hlen := line_len hs hfit
  have c5 := rline_ok c (by omega) (by omega) hfit (by omega)
  have c6 := asks_ok c.word
  have hpg := parse_gaps gs hg hfit (by omega)
  obtain ⟨r, ha, hr, hsk, hnm⟩ := goodC_iff hg
  have hbl := bl_len (gs := gs) (e := endC c) (i := 0) (n := 0) (l := lineC c)
  have htl : (tailC c).length ≤ 2 := by unfold tailC; split <;> simp
  have c7 := parse_cmd (bl gs (endC c) 0 0 (lineC c) ++ tailC c) (by rw [List.length_append]; omega)
  rw [hpg] at c7
  have c8 := conv_ok c
  have c9 := same_self c (by omega) (by omega)
  obtain ⟨w, ns, ms, rt⟩ := c
  simp only at h1 h2 hfit g1 g2 g3 g4 g5 hfw c6 ha hr hsk hnm
  rw [ha] at c6
  unfold askP at c6
  unfold resP at c7
  unfold cmP at *
  simp only at *
  have hend : endC ⟨w, ns, ms, rt⟩ = if r = true then (lineC ⟨w, ns, ms, rt⟩).length - rt.length else (lineC ⟨w, ns, ms, rt⟩).length := by
    unfold endC
    simp only
    rw [ha]
    cases r <;> rfl
  have hrl : r = true → rt.length ≤ (lineC ⟨w, ns, ms, rt⟩).length := fun k => by
    unfold lineC restC
    simp only
    rw [ha, k, jT_app]
    simp only [jT_cons, List.length_append, List.length_cons]
    omega
  generalize hS : lineC ⟨w, ns, ms, rt⟩ = S at *
  generalize he : endC ⟨w, ns, ms, rt⟩ = e at *
  generalize ht : tailC ⟨w, ns, ms, rt⟩ = tl at *
  obtain ⟨T, hT⟩ : ∃ T, [] ++ bl gs e 0 0 (S.drop 0) = T := ⟨_, rfl⟩
  rw [List.nil_append, List.drop_zero] at hT
  rw [hT] at hbl c7 hpg
  refine Ok.of_pwp (by kernel_rfl) Tryd.func3 rfl (by kernel_rfl) (by kernel_rfl) ?_
  simp (implicitDefEqProofs := false) (disch := omega) only [go_sem, simprocAttr, go_sem, Nat.le_refl, Int.toNat_natCast, Int.toNat_zero, Int.toNat_one, str_eq, sz_bA, tl_bA, encI_len, ↓ix_enc, decide_true, beq_self_eq_true, Bool.not_true, Bool.not_false, Tryd.results3, ap_bA, ap_sp, List.length_append, List.size_toArray, List.length_cons, List.length_nil, Nat.zero_add, Int.cast_ofNat_Int, encC_len]
  with_reducible refine CallOk.of c0 rfl ?_
  simp (implicitDefEqProofs := false) (disch := omega) only [go_sem, simprocAttr, go_sem, Nat.le_refl, Int.toNat_natCast, Int.toNat_zero, Int.toNat_one, str_eq, sz_bA, tl_bA, encI_len, ↓ix_enc, decide_true, beq_self_eq_true, Bool.not_true, Bool.not_false, Tryd.results3, ap_bA, ap_sp, List.length_append, List.size_toArray, List.length_cons, List.length_nil, Nat.zero_add, Int.cast_ofNat_Int, encC_len]
  with_reducible refine CallOk.of c1 rfl ?_
  simp (implicitDefEqProofs := false) (disch := omega) only [go_sem, simprocAttr, go_sem, Nat.le_refl, Int.toNat_natCast, Int.toNat_zero, Int.toNat_one, str_eq, sz_bA, tl_bA, encI_len, ↓ix_enc, decide_true, beq_self_eq_true, Bool.not_true, Bool.not_false, Tryd.results3, ap_bA, ap_sp, List.length_append, List.size_toArray, List.length_cons, List.length_nil, Nat.zero_add, Int.cast_ofNat_Int, encC_len]
  with_reducible refine CallOk.of c4 rfl ?_
  simp (implicitDefEqProofs := false) (disch := omega) only [go_sem, simprocAttr, go_sem, Nat.le_refl, Int.toNat_natCast, Int.toNat_zero, Int.toNat_one, str_eq, sz_bA, tl_bA, encI_len, ↓ix_enc, decide_true, beq_self_eq_true, Bool.not_true, Bool.not_false, Tryd.results3, ap_bA, ap_sp, List.length_append, List.size_toArray, List.length_cons, List.length_nil, Nat.zero_add, Int.cast_ofNat_Int, encC_len]
  with_reducible refine CallOk.of c5 rfl ?_
  simp (implicitDefEqProofs := false) (disch := omega) only [go_sem, simprocAttr, go_sem, Nat.le_refl, Int.toNat_natCast, Int.toNat_zero, Int.toNat_one, str_eq, sz_bA, tl_bA, encI_len, ↓ix_enc, decide_true, beq_self_eq_true, Bool.not_true, Bool.not_false, Tryd.results3, ap_bA, ap_sp, List.length_append, List.size_toArray, List.length_cons, List.length_nil, Nat.zero_add, Int.cast_ofNat_Int, encC_len]
  with_reducible refine CallOk.of c6 rfl ?_
  cases r with
  | true =>
    simp (implicitDefEqProofs := false) (disch := omega) only [go_sem, simprocAttr, go_sem, Nat.le_refl, Int.toNat_natCast, Int.toNat_zero, Int.toNat_one, str_eq, sz_bA, tl_bA, encI_len, ↓ix_enc, decide_true, beq_self_eq_true, Bool.not_true, Bool.not_false, Tryd.results3, ap_bA, ap_sp, List.length_append, List.size_toArray, List.length_cons, List.length_nil, Nat.zero_add, Int.cast_ofNat_Int, encC_len]
    have heI : (e : Int) = (S.length : Int) - (rt.length : Int) := by
      have := hrl rfl
      rw [if_pos rfl] at hend
      omega
    refine p_loop (ι := { p : Nat × Nat × List UInt8 // p.1 ≤ S.length ∧ p.2.1 ≤ p.1 ∧ p.2.2 ++ bl gs e p.1 p.2.1 (S.drop p.1) = T })
      (fun p => ⟨[(12, vI p.1.1), (8, vI e), (7, vI p.1.2.1), (6, vS (bA p.1.2.2)), (5, vS (bA S)), (2, .ptr 0 0), (1, .sl (encC gs))], [(0, .box 25 [vS (bA w), .sl (encB ns), .sl (encI ms), vS (bA rt)])], [], 1, 0⟩) (fun p => S.length - p.1.1) ⟨(0, 0, []), Nat.zero_le _, Nat.le_refl _, hT⟩ ?_ ?_
    · refine ⟨?_, ?_, ?_, ?_, ?_, ?_, ?_⟩ <;> simp only [go_sem, simprocAttr, decide_eq_true_eq, Int.natCast_zero, heI, lit0] <;> try first | omega | ((repeat' (first | exact And.intro rfl (by omega) | (refine And.intro ?_ ?_))) <;> first | rfl | omega | (congr 3; omega) | (congr 2; omega))
    · rintro ⟨⟨i, n, o⟩, k1, k2, k3⟩
      simp only at k1 k2 k3 ⊢
      have hol := congrArg List.length k3
      rw [List.length_append] at hol
      by_cases hi : i < S.length
      · have hone := bA_one hi
        have hi1 : ((i : Int) + 1).toNat = i + 1 := by omega
        have eb : bt (bA S) i = ((S.getD i 0).toNat : Int) := rfl
        have eb0 : i = 0 → bt (bA S) 0 = ((S.getD i 0).toNat : Int) := fun h => by rw [h]; rfl
        rw [bl_get hi] at k3
        have hb32 : ((S.getD i 0).toNat : Int) = 32 ↔ S.getD i 0 = 32 := by rw [← UInt8.toNat_inj]; exact ⟨fun h => by have e : (32 : UInt8).toNat = 32 := rfl; omega, fun h => by have e : (32 : UInt8).toNat = 32 := rfl; omega⟩
        generalize S.getD i 0 = b at *
        by_cases q1 : i < e
        · by_cases q2 : b = 32
          · have q3 := hb32.2 q2
            rw [if_pos (.inl ⟨q1, q2⟩)] at k3
            by_cases hn : n < gs.length
            · have hr5 := hgr _ (show gs.getD n 0 ∈ gs by rw [List.getD_eq_getElem?_getD, List.getElem?_eq_getElem hn]; exact List.getElem_mem hn)
              have hq5 : 0 ≤ (gs.getD n 0).tmod 5 ∧ (gs.getD n 0).tmod 5 < 5 := by rw [Int.tmod_eq_emod_of_nonneg hr5.1]; omega
              have hgs : gapS gs n = gapQ ((gs.getD n 0).tmod 5) := if_pos hn
              rw [hgs] at k3
              generalize hq : (gs.getD n 0).tmod 5 = q at *
              have hqc : q = 0 ∨ q = 1 ∨ q = 2 ∨ q = 3 ∨ q = 4 := by omega
              rcases hqc with rfl | rfl | rfl | rfl | rfl
              · simp (implicitDefEqProofs := false) (disch := omega) only [go_sem, simprocAttr, go_sem, Nat.le_refl, Int.toNat_natCast, Int.toNat_zero, Int.toNat_one, str_eq, sz_bA, tl_bA, encI_len, ↓ix_enc, decide_true, beq_self_eq_true, Bool.not_true, Bool.not_false, Tryd.results3, ap_bA, ap_sp, List.length_append, List.size_toArray, List.length_cons, List.length_nil, Nat.zero_add, Int.cast_ofNat_Int, encC_len, hq, lit0, lit1, lit2, lit3, lit4, hi1, hone, eb, q3]
                (repeat (refine And.intro (by first | omega | (simp only [sz_bA, List.length_append, List.length_cons, List.length_nil]; omega)) ?_))
                refine ⟨⟨(i + 1, n + 1, o ++ [] ++ [b]), hi, by simp only; omega, by rw [← k3]; simp [gapQ]⟩, by simp only; omega, ?_⟩
                refine ⟨?_, ?_, ?_, ?_, ?_, ?_, ?_⟩ <;> simp only [go_sem, simprocAttr, decide_eq_true_eq, Int.natCast_add, Int.natCast_one, List.append_nil, ap_bA] <;> try first | omega | ((repeat' (first | exact And.intro rfl (by omega) | (refine And.intro ?_ ?_))) <;> first | rfl | omega | (congr 3; omega) | (congr 2; omega))
              · simp (implicitDefEqProofs := false) (disch := omega) only [go_sem, simprocAttr, go_sem, Nat.le_refl, Int.toNat_natCast, Int.toNat_zero, Int.toNat_one, str_eq, sz_bA, tl_bA, encI_len, ↓ix_enc, decide_true, beq_self_eq_true, Bool.not_true, Bool.not_false, Tryd.results3, ap_bA, ap_sp, List.length_append, List.size_toArray, List.length_cons, List.length_nil, Nat.zero_add, Int.cast_ofNat_Int, encC_len, hq, lit0, lit1, lit2, lit3, lit4, hi1, hone, eb, q3]
                (repeat (refine And.intro (by first | omega | (simp only [sz_bA, List.length_append, List.length_cons, List.length_nil]; omega)) ?_))
                refine ⟨⟨(i + 1, n + 1, o ++ [32] ++ [b]), hi, by simp only; omega, by rw [← k3]; simp [gapQ]⟩, by simp only; omega, ?_⟩
                refine ⟨?_, ?_, ?_, ?_, ?_, ?_, ?_⟩ <;> simp only [go_sem, simprocAttr, decide_eq_true_eq, Int.natCast_add, Int.natCast_one, List.append_nil, ap_bA] <;> try first | omega | ((repeat' (first | exact And.intro rfl (by omega) | (refine And.intro ?_ ?_))) <;> first | rfl | omega | (congr 3; omega) | (congr 2; omega))
              · simp (implicitDefEqProofs := false) (disch := omega) only [go_sem, simprocAttr, go_sem, Nat.le_refl, Int.toNat_natCast, Int.toNat_zero, Int.toNat_one, str_eq, sz_bA, tl_bA, encI_len, ↓ix_enc, decide_true, beq_self_eq_true, Bool.not_true, Bool.not_false, Tryd.results3, ap_bA, ap_sp, List.length_append, List.size_toArray, List.length_cons, List.length_nil, Nat.zero_add, Int.cast_ofNat_Int, encC_len, hq, lit0, lit1, lit2, lit3, lit4, hi1, hone, eb, q3]
                (repeat (refine And.intro (by first | omega | (simp only [sz_bA, List.length_append, List.length_cons, List.length_nil]; omega)) ?_))
                refine ⟨⟨(i + 1, n + 1, o ++ [9] ++ [b]), hi, by simp only; omega, by rw [← k3]; simp [gapQ]⟩, by simp only; omega, ?_⟩
                refine ⟨?_, ?_, ?_, ?_, ?_, ?_, ?_⟩ <;> simp only [go_sem, simprocAttr, decide_eq_true_eq, Int.natCast_add, Int.natCast_one, List.append_nil, ap_bA] <;> try first | omega | ((repeat' (first | exact And.intro rfl (by omega) | (refine And.intro ?_ ?_))) <;> first | rfl | omega | (congr 3; omega) | (congr 2; omega))
              · simp (implicitDefEqProofs := false) (disch := omega) only [go_sem, simprocAttr, go_sem, Nat.le_refl, Int.toNat_natCast, Int.toNat_zero, Int.toNat_one, str_eq, sz_bA, tl_bA, encI_len, ↓ix_enc, decide_true, beq_self_eq_true, Bool.not_true, Bool.not_false, Tryd.results3, ap_bA, ap_sp, List.length_append, List.size_toArray, List.length_cons, List.length_nil, Nat.zero_add, Int.cast_ofNat_Int, encC_len, hq, lit0, lit1, lit2, lit3, lit4, hi1, hone, eb, q3]
                (repeat (refine And.intro (by first | omega | (simp only [sz_bA, List.length_append, List.length_cons, List.length_nil]; omega)) ?_))
                refine ⟨⟨(i + 1, n + 1, o ++ [10, 13] ++ [b]), hi, by simp only; omega, by rw [← k3]; simp [gapQ]⟩, by simp only; omega, ?_⟩
                refine ⟨?_, ?_, ?_, ?_, ?_, ?_, ?_⟩ <;> simp only [go_sem, simprocAttr, decide_eq_true_eq, Int.natCast_add, Int.natCast_one, List.append_nil, ap_bA] <;> try first | omega | ((repeat' (first | exact And.intro rfl (by omega) | (refine And.intro ?_ ?_))) <;> first | rfl | omega | (congr 3; omega) | (congr 2; omega))
              · simp (implicitDefEqProofs := false) (disch := omega) only [go_sem, simprocAttr, go_sem, Nat.le_refl, Int.toNat_natCast, Int.toNat_zero, Int.toNat_one, str_eq, sz_bA, tl_bA, encI_len, ↓ix_enc, decide_true, beq_self_eq_true, Bool.not_true, Bool.not_false, Tryd.results3, ap_bA, ap_sp, List.length_append, List.size_toArray, List.length_cons, List.length_nil, Nat.zero_add, Int.cast_ofNat_Int, encC_len, hq, lit0, lit1, lit2, lit3, lit4, hi1, hone, eb, q3]
                (repeat (refine And.intro (by first | omega | (simp only [sz_bA, List.length_append, List.length_cons, List.length_nil]; omega)) ?_))
                refine ⟨⟨(i + 1, n + 1, o ++ [32, 32] ++ [b]), hi, by simp only; omega, by rw [← k3]; simp [gapQ]⟩, by simp only; omega, ?_⟩
                refine ⟨?_, ?_, ?_, ?_, ?_, ?_, ?_⟩ <;> simp only [go_sem, simprocAttr, decide_eq_true_eq, Int.natCast_add, Int.natCast_one, List.append_nil, ap_bA] <;> try first | omega | ((repeat' (first | exact And.intro rfl (by omega) | (refine And.intro ?_ ?_))) <;> first | rfl | omega | (congr 3; omega) | (congr 2; omega))
            · have hgs : gapS gs n = [] := if_neg hn
              rw [hgs] at k3
              simp (implicitDefEqProofs := false) (disch := omega) only [go_sem, simprocAttr, go_sem, Nat.le_refl, Int.toNat_natCast, Int.toNat_zero, Int.toNat_one, str_eq, sz_bA, tl_bA, encI_len, ↓ix_enc, decide_true, beq_self_eq_true, Bool.not_true, Bool.not_false, Tryd.results3, ap_bA, ap_sp, List.length_append, List.size_toArray, List.length_cons, List.length_nil, Nat.zero_add, Int.cast_ofNat_Int, encC_len, lit0, lit1, lit2, lit3, lit4, hi1, hone, eb, q3]
              (repeat (refine And.intro (by first | omega | (simp only [sz_bA, List.length_append, List.length_cons, List.length_nil]; omega)) ?_))
              refine ⟨⟨(i + 1, n + 1, o ++ [b]), hi, by simp only; omega, by rw [← k3]; simp⟩, by simp only; omega, ?_⟩
              refine ⟨?_, ?_, ?_, ?_, ?_, ?_, ?_⟩ <;> simp only [go_sem, simprocAttr, decide_eq_true_eq, Int.natCast_add, Int.natCast_one, ap_bA] <;> try first | omega | ((repeat' (first | exact And.intro rfl (by omega) | (refine And.intro ?_ ?_))) <;> first | rfl | omega | (congr 3; omega) | (congr 2; omega))
          · have q3 := mt hb32.1 q2
            by_cases q4 : i = 0
            · subst q4
              have hone : (bA S).extract 0 1 = bA [b] := hone
              have eb0' := eb0 rfl
              rw [if_pos (.inr rfl)] at k3
              by_cases hn : n < gs.length
              · have hr5 := hgr _ (show gs.getD n 0 ∈ gs by rw [List.getD_eq_getElem?_getD, List.getElem?_eq_getElem hn]; exact List.getElem_mem hn)
                have hq5 : 0 ≤ (gs.getD n 0).tmod 5 ∧ (gs.getD n 0).tmod 5 < 5 := by rw [Int.tmod_eq_emod_of_nonneg hr5.1]; omega
                have hgs : gapS gs n = gapQ ((gs.getD n 0).tmod 5) := if_pos hn
                rw [hgs] at k3
                generalize hq : (gs.getD n 0).tmod 5 = q at *
                have hqc : q = 0 ∨ q = 1 ∨ q = 2 ∨ q = 3 ∨ q = 4 := by omega
                rcases hqc with rfl | rfl | rfl | rfl | rfl
                · simp (implicitDefEqProofs := false) (disch := omega) only [go_sem, simprocAttr, go_sem, Nat.le_refl, Int.toNat_natCast, Int.toNat_zero, Int.toNat_one, str_eq, sz_bA, tl_bA, encI_len, ↓ix_enc, decide_true, beq_self_eq_true, Bool.not_true, Bool.not_false, Tryd.results3, ap_bA, ap_sp, List.length_append, List.size_toArray, List.length_cons, List.length_nil, Nat.zero_add, Int.cast_ofNat_Int, encC_len, hq, lit0, lit1, lit2, lit3, lit4, hi1, hone, eb0', q3, Int.natCast_zero]
                  (repeat (refine And.intro (by first | omega | (simp only [sz_bA, List.length_append, List.length_cons, List.length_nil]; omega)) ?_))
                  refine ⟨⟨(0 + 1, n + 1, o ++ [] ++ [b]), hi, by simp only; omega, by rw [← k3]; simp [gapQ]⟩, by simp only; omega, ?_⟩
                  refine ⟨?_, ?_, ?_, ?_, ?_, ?_, ?_⟩ <;> simp only [go_sem, simprocAttr, decide_eq_true_eq, Int.natCast_add, Int.natCast_one, Nat.zero_add, Int.natCast_zero, List.append_nil, ap_bA] <;> try first | omega | ((repeat' (first | exact And.intro rfl (by omega) | (refine And.intro ?_ ?_))) <;> first | rfl | omega | (congr 3; omega) | (congr 2; omega))
                · simp (implicitDefEqProofs := false) (disch := omega) only [go_sem, simprocAttr, go_sem, Nat.le_refl, Int.toNat_natCast, Int.toNat_zero, Int.toNat_one, str_eq, sz_bA, tl_bA, encI_len, ↓ix_enc, decide_true, beq_self_eq_true, Bool.not_true, Bool.not_false, Tryd.results3, ap_bA, ap_sp, List.length_append, List.size_toArray, List.length_cons, List.length_nil, Nat.zero_add, Int.cast_ofNat_Int, encC_len, hq, lit0, lit1, lit2, lit3, lit4, hi1, hone, eb0', q3, Int.natCast_zero]
                  (repeat (refine And.intro (by first | omega | (simp only [sz_bA, List.length_append, List.length_cons, List.length_nil]; omega)) ?_))
                  refine ⟨⟨(0 + 1, n + 1, o ++ [32] ++ [b]), hi, by simp only; omega, by rw [← k3]; simp [gapQ]⟩, by simp only; omega, ?_⟩
                  refine ⟨?_, ?_, ?_, ?_, ?_, ?_, ?_⟩ <;> simp only [go_sem, simprocAttr, decide_eq_true_eq, Int.natCast_add, Int.natCast_one, Nat.zero_add, Int.natCast_zero, List.append_nil, ap_bA] <;> try first | omega | ((repeat' (first | exact And.intro rfl (by omega) | (refine And.intro ?_ ?_))) <;> first | rfl | omega | (congr 3; omega) | (congr 2; omega))
                · simp (implicitDefEqProofs := false) (disch := omega) only [go_sem, simprocAttr, go_sem, Nat.le_refl, Int.toNat_natCast, Int.toNat_zero, Int.toNat_one, str_eq, sz_bA, tl_bA, encI_len, ↓ix_enc, decide_true, beq_self_eq_true, Bool.not_true, Bool.not_false, Tryd.results3, ap_bA, ap_sp, List.length_append, List.size_toArray, List.length_cons, List.length_nil, Nat.zero_add, Int.cast_ofNat_Int, encC_len, hq, lit0, lit1, lit2, lit3, lit4, hi1, hone, eb0', q3, Int.natCast_zero]
                  (repeat (refine And.intro (by first | omega | (simp only [sz_bA, List.length_append, List.length_cons, List.length_nil]; omega)) ?_))
                  refine ⟨⟨(0 + 1, n + 1, o ++ [9] ++ [b]), hi, by simp only; omega, by rw [← k3]; simp [gapQ]⟩, by simp only; omega, ?_⟩
                  refine ⟨?_, ?_, ?_, ?_, ?_, ?_, ?_⟩ <;> simp only [go_sem, simprocAttr, decide_eq_true_eq, Int.natCast_add, Int.natCast_one, Nat.zero_add, Int.natCast_zero, List.append_nil, ap_bA] <;> try first | omega | ((repeat' (first | exact And.intro rfl (by omega) | (refine And.intro ?_ ?_))) <;> first | rfl | omega | (congr 3; omega) | (congr 2; omega))
                · simp (implicitDefEqProofs := false) (disch := omega) only [go_sem, simprocAttr, go_sem, Nat.le_refl, Int.toNat_natCast, Int.toNat_zero, Int.toNat_one, str_eq, sz_bA, tl_bA, encI_len, ↓ix_enc, decide_true, beq_self_eq_true, Bool.not_true, Bool.not_false, Tryd.results3, ap_bA, ap_sp, List.length_append, List.size_toArray, List.length_cons, List.length_nil, Nat.zero_add, Int.cast_ofNat_Int, encC_len, hq, lit0, lit1, lit2, lit3, lit4, hi1, hone, eb0', q3, Int.natCast_zero]
                  (repeat (refine And.intro (by first | omega | (simp only [sz_bA, List.length_append, List.length_cons, List.length_nil]; omega)) ?_))
                  refine ⟨⟨(0 + 1, n + 1, o ++ [10, 13] ++ [b]), hi, by simp only; omega, by rw [← k3]; simp [gapQ]⟩, by simp only; omega, ?_⟩
                  refine ⟨?_, ?_, ?_, ?_, ?_, ?_, ?_⟩ <;> simp only [go_sem, simprocAttr, decide_eq_true_eq, Int.natCast_add, Int.natCast_one, Nat.zero_add, Int.natCast_zero, List.append_nil, ap_bA] <;> try first | omega | ((repeat' (first | exact And.intro rfl (by omega) | (refine And.intro ?_ ?_))) <;> first | rfl | omega | (congr 3; omega) | (congr 2; omega))
                · simp (implicitDefEqProofs := false) (disch := omega) only [go_sem, simprocAttr, go_sem, Nat.le_refl, Int.toNat_natCast, Int.toNat_zero, Int.toNat_one, str_eq, sz_bA, tl_bA, encI_len, ↓ix_enc, decide_true, beq_self_eq_true, Bool.not_true, Bool.not_false, Tryd.results3, ap_bA, ap_sp, List.length_append, List.size_toArray, List.length_cons, List.length_nil, Nat.zero_add, Int.cast_ofNat_Int, encC_len, hq, lit0, lit1, lit2, lit3, lit4, hi1, hone, eb0', q3, Int.natCast_zero]
                  (repeat (refine And.intro (by first | omega | (simp only [sz_bA, List.length_append, List.length_cons, List.length_nil]; omega)) ?_))
                  refine ⟨⟨(0 + 1, n + 1, o ++ [32, 32] ++ [b]), hi, by simp only; omega, by rw [← k3]; simp [gapQ]⟩, by simp only; omega, ?_⟩
                  refine ⟨?_, ?_, ?_, ?_, ?_, ?_, ?_⟩ <;> simp only [go_sem, simprocAttr, decide_eq_true_eq, Int.natCast_add, Int.natCast_one, Nat.zero_add, Int.natCast_zero, List.append_nil, ap_bA] <;> try first | omega | ((repeat' (first | exact And.intro rfl (by omega) | (refine And.intro ?_ ?_))) <;> first | rfl | omega | (congr 3; omega) | (congr 2; omega))
              · have hgs : gapS gs n = [] := if_neg hn
                rw [hgs] at k3
                simp (implicitDefEqProofs := false) (disch := omega) only [go_sem, simprocAttr, go_sem, Nat.le_refl, Int.toNat_natCast, Int.toNat_zero, Int.toNat_one, str_eq, sz_bA, tl_bA, encI_len, ↓ix_enc, decide_true, beq_self_eq_true, Bool.not_true, Bool.not_false, Tryd.results3, ap_bA, ap_sp, List.length_append, List.size_toArray, List.length_cons, List.length_nil, Nat.zero_add, Int.cast_ofNat_Int, encC_len, lit0, lit1, lit2, lit3, lit4, hi1, hone, eb0', q3, Int.natCast_zero]
                (repeat (refine And.intro (by first | omega | (simp only [sz_bA, List.length_append, List.length_cons, List.length_nil]; omega)) ?_))
                refine ⟨⟨(0 + 1, n + 1, o ++ [b]), hi, by simp only; omega, by rw [← k3]; simp⟩, by simp only; omega, ?_⟩
                refine ⟨?_, ?_, ?_, ?_, ?_, ?_, ?_⟩ <;> simp only [go_sem, simprocAttr, decide_eq_true_eq, Int.natCast_add, Int.natCast_one, Nat.zero_add, Int.natCast_zero, ap_bA] <;> try first | omega | ((repeat' (first | exact And.intro rfl (by omega) | (refine And.intro ?_ ?_))) <;> first | rfl | omega | (congr 3; omega) | (congr 2; omega))
            · rw [if_neg (by rintro (⟨_, h⟩ | h); exact q2 h; exact q4 h)] at k3
              simp (implicitDefEqProofs := false) (disch := omega) only [go_sem, simprocAttr, go_sem, Nat.le_refl, Int.toNat_natCast, Int.toNat_zero, Int.toNat_one, str_eq, sz_bA, tl_bA, encI_len, ↓ix_enc, decide_true, beq_self_eq_true, Bool.not_true, Bool.not_false, Tryd.results3, ap_bA, ap_sp, List.length_append, List.size_toArray, List.length_cons, List.length_nil, Nat.zero_add, Int.cast_ofNat_Int, encC_len, lit0, hi1, hone, eb, q3]
              (repeat (refine And.intro (by first | omega | (simp only [sz_bA, List.length_append, List.length_cons, List.length_nil]; omega)) ?_))
              refine ⟨⟨(i + 1, n, o ++ [b]), hi, by simp only; omega, by rw [← k3]; simp⟩, by simp only; omega, ?_⟩
              refine ⟨?_, ?_, ?_, ?_, ?_, ?_, ?_⟩ <;> simp only [go_sem, simprocAttr, decide_eq_true_eq, Int.natCast_add, Int.natCast_one, ap_bA] <;> try first | omega | ((repeat' (first | exact And.intro rfl (by omega) | (refine And.intro ?_ ?_))) <;> first | rfl | omega | (congr 3; omega) | (congr 2; omega))
        · by_cases q4 : i = 0
          · subst q4
            have hone : (bA S).extract 0 1 = bA [b] := hone
            rw [if_pos (.inr rfl)] at k3
            by_cases hn : n < gs.length
            · have hr5 := hgr _ (show gs.getD n 0 ∈ gs by rw [List.getD_eq_getElem?_getD, List.getElem?_eq_getElem hn]; exact List.getElem_mem hn)
              have hq5 : 0 ≤ (gs.getD n 0).tmod 5 ∧ (gs.getD n 0).tmod 5 < 5 := by rw [Int.tmod_eq_emod_of_nonneg hr5.1]; omega
              have hgs : gapS gs n = gapQ ((gs.getD n 0).tmod 5) := if_pos hn
              rw [hgs] at k3
              generalize hq : (gs.getD n 0).tmod 5 = q at *
              have hqc : q = 0 ∨ q = 1 ∨ q = 2 ∨ q = 3 ∨ q = 4 := by omega
              rcases hqc with rfl | rfl | rfl | rfl | rfl
              · simp (implicitDefEqProofs := false) (disch := omega) only [go_sem, simprocAttr, go_sem, Nat.le_refl, Int.toNat_natCast, Int.toNat_zero, Int.toNat_one, str_eq, sz_bA, tl_bA, encI_len, ↓ix_enc, decide_true, beq_self_eq_true, Bool.not_true, Bool.not_false, Tryd.results3, ap_bA, ap_sp, List.length_append, List.size_toArray, List.length_cons, List.length_nil, Nat.zero_add, Int.cast_ofNat_Int, encC_len, hq, lit0, lit1, lit2, lit3, lit4, hi1, hone, Int.natCast_zero]
                (repeat (refine And.intro (by first | omega | (simp only [sz_bA, List.length_append, List.length_cons, List.length_nil]; omega)) ?_))
                refine ⟨⟨(0 + 1, n + 1, o ++ [] ++ [b]), hi, by simp only; omega, by rw [← k3]; simp [gapQ]⟩, by simp only; omega, ?_⟩
                refine ⟨?_, ?_, ?_, ?_, ?_, ?_, ?_⟩ <;> simp only [go_sem, simprocAttr, decide_eq_true_eq, Int.natCast_add, Int.natCast_one, Nat.zero_add, Int.natCast_zero, List.append_nil, ap_bA] <;> try first | omega | ((repeat' (first | exact And.intro rfl (by omega) | (refine And.intro ?_ ?_))) <;> first | rfl | omega | (congr 3; omega) | (congr 2; omega))
              · simp (implicitDefEqProofs := false) (disch := omega) only [go_sem, simprocAttr, go_sem, Nat.le_refl, Int.toNat_natCast, Int.toNat_zero, Int.toNat_one, str_eq, sz_bA, tl_bA, encI_len, ↓ix_enc, decide_true, beq_self_eq_true, Bool.not_true, Bool.not_false, Tryd.results3, ap_bA, ap_sp, List.length_append, List.size_toArray, List.length_cons, List.length_nil, Nat.zero_add, Int.cast_ofNat_Int, encC_len, hq, lit0, lit1, lit2, lit3, lit4, hi1, hone, Int.natCast_zero]
                (repeat (refine And.intro (by first | omega | (simp only [sz_bA, List.length_append, List.length_cons, List.length_nil]; omega)) ?_))
                refine ⟨⟨(0 + 1, n + 1, o ++ [32] ++ [b]), hi, by simp only; omega, by rw [← k3]; simp [gapQ]⟩, by simp only; omega, ?_⟩
                refine ⟨?_, ?_, ?_, ?_, ?_, ?_, ?_⟩ <;> simp only [go_sem, simprocAttr, decide_eq_true_eq, Int.natCast_add, Int.natCast_one, Nat.zero_add, Int.natCast_zero, List.append_nil, ap_bA] <;> try first | omega | ((repeat' (first | exact And.intro rfl (by omega) | (refine And.intro ?_ ?_))) <;> first | rfl | omega | (congr 3; omega) | (congr 2; omega))
              · simp (implicitDefEqProofs := false) (disch := omega) only [go_sem, simprocAttr, go_sem, Nat.le_refl, Int.toNat_natCast, Int.toNat_zero, Int.toNat_one, str_eq, sz_bA, tl_bA, encI_len, ↓ix_enc, decide_true, beq_self_eq_true, Bool.not_true, Bool.not_false, Tryd.results3, ap_bA, ap_sp, List.length_append, List.size_toArray, List.length_cons, List.length_nil, Nat.zero_add, Int.cast_ofNat_Int, encC_len, hq, lit0, lit1, lit2, lit3, lit4, hi1, hone, Int.natCast_zero]
                (repeat (refine And.intro (by first | omega | (simp only [sz_bA, List.length_append, List.length_cons, List.length_nil]; omega)) ?_))
                refine ⟨⟨(0 + 1, n + 1, o ++ [9] ++ [b]), hi, by simp only; omega, by rw [← k3]; simp [gapQ]⟩, by simp only; omega, ?_⟩
                refine ⟨?_, ?_, ?_, ?_, ?_, ?_, ?_⟩ <;> simp only [go_sem, simprocAttr, decide_eq_true_eq, Int.natCast_add, Int.natCast_one, Nat.zero_add, Int.natCast_zero, List.append_nil, ap_bA] <;> try first | omega | ((repeat' (first | exact And.intro rfl (by omega) | (refine And.intro ?_ ?_))) <;> first | rfl | omega | (congr 3; omega) | (congr 2; omega))
              · simp (implicitDefEqProofs := false) (disch := omega) only [go_sem, simprocAttr, go_sem, Nat.le_refl, Int.toNat_natCast, Int.toNat_zero, Int.toNat_one, str_eq, sz_bA, tl_bA, encI_len, ↓ix_enc, decide_true, beq_self_eq_true, Bool.not_true, Bool.not_false, Tryd.results3, ap_bA, ap_sp, List.length_append, List.size_toArray, List.length_cons, List.length_nil, Nat.zero_add, Int.cast_ofNat_Int, encC_len, hq, lit0, lit1, lit2, lit3, lit4, hi1, hone, Int.natCast_zero]
                (repeat (refine And.intro (by first | omega | (simp only [sz_bA, List.length_append, List.length_cons, List.length_nil]; omega)) ?_))
                refine ⟨⟨(0 + 1, n + 1, o ++ [10, 13] ++ [b]), hi, by simp only; omega, by rw [← k3]; simp [gapQ]⟩, by simp only; omega, ?_⟩
                refine ⟨?_, ?_, ?_, ?_, ?_, ?_, ?_⟩ <;> simp only [go_sem, simprocAttr, decide_eq_true_eq, Int.natCast_add, Int.natCast_one, Nat.zero_add, Int.natCast_zero, List.append_nil, ap_bA] <;> try first | omega | ((repeat' (first | exact And.intro rfl (by omega) | (refine And.intro ?_ ?_))) <;> first | rfl | omega | (congr 3; omega) | (congr 2; omega))
              · simp (implicitDefEqProofs := false) (disch := omega) only [go_sem, simprocAttr, go_sem, Nat.le_refl, Int.toNat_natCast, Int.toNat_zero, Int.toNat_one, str_eq, sz_bA, tl_bA, encI_len, ↓ix_enc, decide_true, beq_self_eq_true, Bool.not_true, Bool.not_false, Tryd.results3, ap_bA, ap_sp, List.length_append, List.size_toArray, List.length_cons, List.length_nil, Nat.zero_add, Int.cast_ofNat_Int, encC_len, hq, lit0, lit1, lit2, lit3, lit4, hi1, hone, Int.natCast_zero]
                (repeat (refine And.intro (by first | omega | (simp only [sz_bA, List.length_append, List.length_cons, List.length_nil]; omega)) ?_))
                refine ⟨⟨(0 + 1, n + 1, o ++ [32, 32] ++ [b]), hi, by simp only; omega, by rw [← k3]; simp [gapQ]⟩, by simp only; omega, ?_⟩
                refine ⟨?_, ?_, ?_, ?_, ?_, ?_, ?_⟩ <;> simp only [go_sem, simprocAttr, decide_eq_true_eq, Int.natCast_add, Int.natCast_one, Nat.zero_add, Int.natCast_zero, List.append_nil, ap_bA] <;> try first | omega | ((repeat' (first | exact And.intro rfl (by omega) | (refine And.intro ?_ ?_))) <;> first | rfl | omega | (congr 3; omega) | (congr 2; omega))
            · have hgs : gapS gs n = [] := if_neg hn
              rw [hgs] at k3
              simp (implicitDefEqProofs := false) (disch := omega) only [go_sem, simprocAttr, go_sem, Nat.le_refl, Int.toNat_natCast, Int.toNat_zero, Int.toNat_one, str_eq, sz_bA, tl_bA, encI_len, ↓ix_enc, decide_true, beq_self_eq_true, Bool.not_true, Bool.not_false, Tryd.results3, ap_bA, ap_sp, List.length_append, List.size_toArray, List.length_cons, List.length_nil, Nat.zero_add, Int.cast_ofNat_Int, encC_len, lit0, lit1, lit2, lit3, lit4, hi1, hone, Int.natCast_zero]
              (repeat (refine And.intro (by first | omega | (simp only [sz_bA, List.length_append, List.length_cons, List.length_nil]; omega)) ?_))
              refine ⟨⟨(0 + 1, n + 1, o ++ [b]), hi, by simp only; omega, by rw [← k3]; simp⟩, by simp only; omega, ?_⟩
              refine ⟨?_, ?_, ?_, ?_, ?_, ?_, ?_⟩ <;> simp only [go_sem, simprocAttr, decide_eq_true_eq, Int.natCast_add, Int.natCast_one, Nat.zero_add, Int.natCast_zero, ap_bA] <;> try first | omega | ((repeat' (first | exact And.intro rfl (by omega) | (refine And.intro ?_ ?_))) <;> first | rfl | omega | (congr 3; omega) | (congr 2; omega))
          · rw [if_neg (by rintro (⟨h, _⟩ | h); exact q1 h; exact q4 h)] at k3
            simp (implicitDefEqProofs := false) (disch := omega) only [go_sem, simprocAttr, go_sem, Nat.le_refl, Int.toNat_natCast, Int.toNat_zero, Int.toNat_one, str_eq, sz_bA, tl_bA, encI_len, ↓ix_enc, decide_true, beq_self_eq_true, Bool.not_true, Bool.not_false, Tryd.results3, ap_bA, ap_sp, List.length_append, List.size_toArray, List.length_cons, List.length_nil, Nat.zero_add, Int.cast_ofNat_Int, encC_len, lit0, hi1, hone]
            (repeat (refine And.intro (by first | omega | (simp only [sz_bA, List.length_append, List.length_cons, List.length_nil]; omega)) ?_))
            refine ⟨⟨(i + 1, n, o ++ [b]), hi, by simp only; omega, by rw [← k3]; simp⟩, by simp only; omega, ?_⟩
            refine ⟨?_, ?_, ?_, ?_, ?_, ?_, ?_⟩ <;> simp only [go_sem, simprocAttr, decide_eq_true_eq, Int.natCast_add, Int.natCast_one, ap_bA] <;> try first | omega | ((repeat' (first | exact And.intro rfl (by omega) | (refine And.intro ?_ ?_))) <;> first | rfl | omega | (congr 3; omega) | (congr 2; omega))
      · have hi' : i = S.length := by omega
        subst hi'
        rw [List.drop_length, bl, List.append_nil] at k3
        subst k3
        have el : (⟨#[32, 10]⟩ : ByteArray) = bA [32, 10] := rfl
        by_cases hrt : rt = []
        · have htl2 : tl = [32, 10] := by rw [← ht]; exact if_pos hrt
          have hrd : decide (rt = []) = true := decide_eq_true hrt
          have hrl0 : rt.length = 0 := by rw [hrt]; rfl
          rw [htl2] at c7
          simp (implicitDefEqProofs := false) (disch := omega) only [go_sem, simprocAttr, go_sem, Nat.le_refl, Int.toNat_natCast, Int.toNat_zero, Int.toNat_one, str_eq, sz_bA, tl_bA, encI_len, ↓ix_enc, decide_true, beq_self_eq_true, Bool.not_true, Bool.not_false, Tryd.results3, ap_bA, ap_sp, List.length_append, List.size_toArray, List.length_cons, List.length_nil, Nat.zero_add, Int.cast_ofNat_Int, encC_len, hrd, el]
          (repeat (refine And.intro (by first | omega | (simp only [sz_bA, List.length_append, List.length_cons, List.length_nil]; omega)) ?_))
          with_reducible refine CallOk.of c7 rfl ?_
          simp (implicitDefEqProofs := false) (disch := omega) only [go_sem, simprocAttr, go_sem, Nat.le_refl, Int.toNat_natCast, Int.toNat_zero, Int.toNat_one, str_eq, sz_bA, tl_bA, encI_len, ↓ix_enc, decide_true, beq_self_eq_true, Bool.not_true, Bool.not_false, Tryd.results3, ap_bA, ap_sp, List.length_append, List.size_toArray, List.length_cons, List.length_nil, Nat.zero_add, Int.cast_ofNat_Int, encC_len, hrd, el]
          with_reducible refine CallOk.of c8 rfl ?_
          simp (implicitDefEqProofs := false) (disch := omega) only [go_sem, simprocAttr, go_sem, Nat.le_refl, Int.toNat_natCast, Int.toNat_zero, Int.toNat_one, str_eq, sz_bA, tl_bA, encI_len, ↓ix_enc, decide_true, beq_self_eq_true, Bool.not_true, Bool.not_false, Tryd.results3, ap_bA, ap_sp, List.length_append, List.size_toArray, List.length_cons, List.length_nil, Nat.zero_add, Int.cast_ofNat_Int, encC_len, hrd, el]
          with_reducible refine CallOk.of c9 rfl ?_
          simp (implicitDefEqProofs := false) (disch := omega) only [go_sem, simprocAttr, go_sem, Nat.le_refl, Int.toNat_natCast, Int.toNat_zero, Int.toNat_one, str_eq, sz_bA, tl_bA, encI_len, ↓ix_enc, decide_true, beq_self_eq_true, Bool.not_true, Bool.not_false, Tryd.results3, ap_bA, ap_sp, List.length_append, List.size_toArray, List.length_cons, List.length_nil, Nat.zero_add, Int.cast_ofNat_Int, encC_len, hrd, el]
        · have htl2 : tl = [] := by rw [← ht]; exact if_neg hrt
          have hrd : decide (rt = []) = false := decide_eq_false hrt
          have hrl0 : 0 < rt.length := List.length_pos_iff.2 hrt
          rw [htl2, List.append_nil] at c7
          simp (implicitDefEqProofs := false) (disch := omega) only [go_sem, simprocAttr, go_sem, Nat.le_refl, Int.toNat_natCast, Int.toNat_zero, Int.toNat_one, str_eq, sz_bA, tl_bA, encI_len, ↓ix_enc, decide_true, beq_self_eq_true, Bool.not_true, Bool.not_false, Tryd.results3, ap_bA, ap_sp, List.length_append, List.size_toArray, List.length_cons, List.length_nil, Nat.zero_add, Int.cast_ofNat_Int, encC_len, hrd, el]
          (repeat (refine And.intro (by first | omega | (simp only [sz_bA, List.length_append, List.length_cons, List.length_nil]; omega)) ?_))
          with_reducible refine CallOk.of c7 rfl ?_
          simp (implicitDefEqProofs := false) (disch := omega) only [go_sem, simprocAttr, go_sem, Nat.le_refl, Int.toNat_natCast, Int.toNat_zero, Int.toNat_one, str_eq, sz_bA, tl_bA, encI_len, ↓ix_enc, decide_true, beq_self_eq_true, Bool.not_true, Bool.not_false, Tryd.results3, ap_bA, ap_sp, List.length_append, List.size_toArray, List.length_cons, List.length_nil, Nat.zero_add, Int.cast_ofNat_Int, encC_len, hrd, el]
          with_reducible refine CallOk.of c8 rfl ?_
          simp (implicitDefEqProofs := false) (disch := omega) only [go_sem, simprocAttr, go_sem, Nat.le_refl, Int.toNat_natCast, Int.toNat_zero, Int.toNat_one, str_eq, sz_bA, tl_bA, encI_len, ↓ix_enc, decide_true, beq_self_eq_true, Bool.not_true, Bool.not_false, Tryd.results3, ap_bA, ap_sp, List.length_append, List.size_toArray, List.length_cons, List.length_nil, Nat.zero_add, Int.cast_ofNat_Int, encC_len, hrd, el]
          with_reducible refine CallOk.of c9 rfl ?_
          simp (implicitDefEqProofs := false) (disch := omega) only [go_sem, simprocAttr, go_sem, Nat.le_refl, Int.toNat_natCast, Int.toNat_zero, Int.toNat_one, str_eq, sz_bA, tl_bA, encI_len, ↓ix_enc, decide_true, beq_self_eq_true, Bool.not_true, Bool.not_false, Tryd.results3, ap_bA, ap_sp, List.length_append, List.size_toArray, List.length_cons, List.length_nil, Nat.zero_add, Int.cast_ofNat_Int, encC_len, hrd, el]
  | false =>
    simp (implicitDefEqProofs := false) (disch := omega) only [go_sem, simprocAttr, go_sem, Nat.le_refl, Int.toNat_natCast, Int.toNat_zero, Int.toNat_one, str_eq, sz_bA, tl_bA, encI_len, ↓ix_enc, decide_true, beq_self_eq_true, Bool.not_true, Bool.not_false, Tryd.results3, ap_bA, ap_sp, List.length_append, List.size_toArray, List.length_cons, List.length_nil, Nat.zero_add, Int.cast_ofNat_Int, encC_len]
    have heI : (e : Int) = (S.length : Int) := by
      rw [if_neg (by decide)] at hend
      omega
    refine p_loop (ι := { p : Nat × Nat × List UInt8 // p.1 ≤ S.length ∧ p.2.1 ≤ p.1 ∧ p.2.2 ++ bl gs e p.1 p.2.1 (S.drop p.1) = T })
      (fun p => ⟨[(12, vI p.1.1), (8, vI e), (7, vI p.1.2.1), (6, vS (bA p.1.2.2)), (5, vS (bA S)), (2, .ptr 0 0), (1, .sl (encC gs))], [(0, .box 25 [vS (bA w), .sl (encB ns), .sl (encI ms), vS (bA rt)])], [], 1, 0⟩) (fun p => S.length - p.1.1) ⟨(0, 0, []), Nat.zero_le _, Nat.le_refl _, hT⟩ ?_ ?_
    · refine ⟨?_, ?_, ?_, ?_, ?_, ?_, ?_⟩ <;> simp only [go_sem, simprocAttr, decide_eq_true_eq, Int.natCast_zero, heI, lit0] <;> try first | omega | ((repeat' (first | exact And.intro rfl (by omega) | (refine And.intro ?_ ?_))) <;> first | rfl | omega | (congr 3; omega) | (congr 2; omega))
    · rintro ⟨⟨i, n, o⟩, k1, k2, k3⟩
      simp only at k1 k2 k3 ⊢
      have hol := congrArg List.length k3
      rw [List.length_append] at hol
      by_cases hi : i < S.length
      · have hone := bA_one hi
        have hi1 : ((i : Int) + 1).toNat = i + 1 := by omega
        have eb : bt (bA S) i = ((S.getD i 0).toNat : Int) := rfl
        have eb0 : i = 0 → bt (bA S) 0 = ((S.getD i 0).toNat : Int) := fun h => by rw [h]; rfl
        rw [bl_get hi] at k3
        have hb32 : ((S.getD i 0).toNat : Int) = 32 ↔ S.getD i 0 = 32 := by rw [← UInt8.toNat_inj]; exact ⟨fun h => by have e : (32 : UInt8).toNat = 32 := rfl; omega, fun h => by have e : (32 : UInt8).toNat = 32 := rfl; omega⟩
        generalize S.getD i 0 = b at *
        by_cases q1 : i < e
        · by_cases q2 : b = 32
          · have q3 := hb32.2 q2
            rw [if_pos (.inl ⟨q1, q2⟩)] at k3
            by_cases hn : n < gs.length
            · have hr5 := hgr _ (show gs.getD n 0 ∈ gs by rw [List.getD_eq_getElem?_getD, List.getElem?_eq_getElem hn]; exact List.getElem_mem hn)
              have hq5 : 0 ≤ (gs.getD n 0).tmod 5 ∧ (gs.getD n 0).tmod 5 < 5 := by rw [Int.tmod_eq_emod_of_nonneg hr5.1]; omega
              have hgs : gapS gs n = gapQ ((gs.getD n 0).tmod 5) := if_pos hn
              rw [hgs] at k3
              generalize hq : (gs.getD n 0).tmod 5 = q at *
              have hqc : q = 0 ∨ q = 1 ∨ q = 2 ∨ q = 3 ∨ q = 4 := by omega
              rcases hqc with rfl | rfl | rfl | rfl | rfl
              · simp (implicitDefEqProofs := false) (disch := omega) only [go_sem, simprocAttr, go_sem, Nat.le_refl, Int.toNat_natCast, Int.toNat_zero, Int.toNat_one, str_eq, sz_bA, tl_bA, encI_len, ↓ix_enc, decide_true, beq_self_eq_true, Bool.not_true, Bool.not_false, Tryd.results3, ap_bA, ap_sp, List.length_append, List.size_toArray, List.length_cons, List.length_nil, Nat.zero_add, Int.cast_ofNat_Int, encC_len, hq, lit0, lit1, lit2, lit3, lit4, hi1, hone, eb, q3]
                (repeat (refine And.intro (by first | omega | (simp only [sz_bA, List.length_append, List.length_cons, List.length_nil]; omega)) ?_))
                refine ⟨⟨(i + 1, n + 1, o ++ [] ++ [b]), hi, by simp only; omega, by rw [← k3]; simp [gapQ]⟩, by simp only; omega, ?_⟩
                refine ⟨?_, ?_, ?_, ?_, ?_, ?_, ?_⟩ <;> simp only [go_sem, simprocAttr, decide_eq_true_eq, Int.natCast_add, Int.natCast_one, List.append_nil, ap_bA] <;> try first | omega | ((repeat' (first | exact And.intro rfl (by omega) | (refine And.intro ?_ ?_))) <;> first | rfl | omega | (congr 3; omega) | (congr 2; omega))
              · simp (implicitDefEqProofs := false) (disch := omega) only [go_sem, simprocAttr, go_sem, Nat.le_refl, Int.toNat_natCast, Int.toNat_zero, Int.toNat_one, str_eq, sz_bA, tl_bA, encI_len, ↓ix_enc, decide_true, beq_self_eq_true, Bool.not_true, Bool.not_false, Tryd.results3, ap_bA, ap_sp, List.length_append, List.size_toArray, List.length_cons, List.length_nil, Nat.zero_add, Int.cast_ofNat_Int, encC_len, hq, lit0, lit1, lit2, lit3, lit4, hi1, hone, eb, q3]
                (repeat (refine And.intro (by first | omega | (simp only [sz_bA, List.length_append, List.length_cons, List.length_nil]; omega)) ?_))
                refine ⟨⟨(i + 1, n + 1, o ++ [32] ++ [b]), hi, by simp only; omega, by rw [← k3]; simp [gapQ]⟩, by simp only; omega, ?_⟩
                refine ⟨?_, ?_, ?_, ?_, ?_, ?_, ?_⟩ <;> simp only [go_sem, simprocAttr, decide_eq_true_eq, Int.natCast_add, Int.natCast_one, List.append_nil, ap_bA] <;> try first | omega | ((repeat' (first | exact And.intro rfl (by omega) | (refine And.intro ?_ ?_))) <;> first | rfl | omega | (congr 3; omega) | (congr 2; omega))
              · simp (implicitDefEqProofs := false) (disch := omega) only [go_sem, simprocAttr, go_sem, Nat.le_refl, Int.toNat_natCast, Int.toNat_zero, Int.toNat_one, str_eq, sz_bA, tl_bA, encI_len, ↓ix_enc, decide_true, beq_self_eq_true, Bool.not_true, Bool.not_false, Tryd.results3, ap_bA, ap_sp, List.length_append, List.size_toArray, List.length_cons, List.length_nil, Nat.zero_add, Int.cast_ofNat_Int, encC_len, hq, lit0, lit1, lit2, lit3, lit4, hi1, hone, eb, q3]
                (repeat (refine And.intro (by first | omega | (simp only [sz_bA, List.length_append, List.length_cons, List.length_nil]; omega)) ?_))
                refine ⟨⟨(i + 1, n + 1, o ++ [9] ++ [b]), hi, by simp only; omega, by rw [← k3]; simp [gapQ]⟩, by simp only; omega, ?_⟩
                refine ⟨?_, ?_, ?_, ?_, ?_, ?_, ?_⟩ <;> simp only [go_sem, simprocAttr, decide_eq_true_eq, Int.natCast_add, Int.natCast_one, List.append_nil, ap_bA] <;> try first | omega | ((repeat' (first | exact And.intro rfl (by omega) | (refine And.intro ?_ ?_))) <;> first | rfl | omega | (congr 3; omega) | (congr 2; omega))
              · simp (implicitDefEqProofs := false) (disch := omega) only [go_sem, simprocAttr, go_sem, Nat.le_refl, Int.toNat_natCast, Int.toNat_zero, Int.toNat_one, str_eq, sz_bA, tl_bA, encI_len, ↓ix_enc, decide_true, beq_self_eq_true, Bool.not_true, Bool.not_false, Tryd.results3, ap_bA, ap_sp, List.length_append, List.size_toArray, List.length_cons, List.length_nil, Nat.zero_add, Int.cast_ofNat_Int, encC_len, hq, lit0, lit1, lit2, lit3, lit4, hi1, hone, eb, q3]
                (repeat (refine And.intro (by first | omega | (simp only [sz_bA, List.length_append, List.length_cons, List.length_nil]; omega)) ?_))
                refine ⟨⟨(i + 1, n + 1, o ++ [10, 13] ++ [b]), hi, by simp only; omega, by rw [← k3]; simp [gapQ]⟩, by simp only; omega, ?_⟩
                refine ⟨?_, ?_, ?_, ?_, ?_, ?_, ?_⟩ <;> simp only [go_sem, simprocAttr, decide_eq_true_eq, Int.natCast_add, Int.natCast_one, List.append_nil, ap_bA] <;> try first | omega | ((repeat' (first | exact And.intro rfl (by omega) | (refine And.intro ?_ ?_))) <;> first | rfl | omega | (congr 3; omega) | (congr 2; omega))
              · simp (implicitDefEqProofs := false) (disch := omega) only [go_sem, simprocAttr, go_sem, Nat.le_refl, Int.toNat_natCast, Int.toNat_zero, Int.toNat_one, str_eq, sz_bA, tl_bA, encI_len, ↓ix_enc, decide_true, beq_self_eq_true, Bool.not_true, Bool.not_false, Tryd.results3, ap_bA, ap_sp, List.length_append, List.size_toArray, List.length_cons, List.length_nil, Nat.zero_add, Int.cast_ofNat_Int, encC_len, hq, lit0, lit1, lit2, lit3, lit4, hi1, hone, eb, q3]
                (repeat (refine And.intro (by first | omega | (simp only [sz_bA, List.length_append, List.length_cons, List.length_nil]; omega)) ?_))
                refine ⟨⟨(i + 1, n + 1, o ++ [32, 32] ++ [b]), hi, by simp only; omega, by rw [← k3]; simp [gapQ]⟩, by simp only; omega, ?_⟩
                refine ⟨?_, ?_, ?_, ?_, ?_, ?_, ?_⟩ <;> simp only [go_sem, simprocAttr, decide_eq_true_eq, Int.natCast_add, Int.natCast_one, List.append_nil, ap_bA] <;> try first | omega | ((repeat' (first | exact And.intro rfl (by omega) | (refine And.intro ?_ ?_))) <;> first | rfl | omega | (congr 3; omega) | (congr 2; omega))
            · have hgs : gapS gs n = [] := if_neg hn
              rw [hgs] at k3
              simp (implicitDefEqProofs := false) (disch := omega) only [go_sem, simprocAttr, go_sem, Nat.le_refl, Int.toNat_natCast, Int.toNat_zero, Int.toNat_one, str_eq, sz_bA, tl_bA, encI_len, ↓ix_enc, decide_true, beq_self_eq_true, Bool.not_true, Bool.not_false, Tryd.results3, ap_bA, ap_sp, List.length_append, List.size_toArray, List.length_cons, List.length_nil, Nat.zero_add, Int.cast_ofNat_Int, encC_len, lit0, lit1, lit2, lit3, lit4, hi1, hone, eb, q3]
              (repeat (refine And.intro (by first | omega | (simp only [sz_bA, List.length_append, List.length_cons, List.length_nil]; omega)) ?_))
              refine ⟨⟨(i + 1, n + 1, o ++ [b]), hi, by simp only; omega, by rw [← k3]; simp⟩, by simp only; omega, ?_⟩
              refine ⟨?_, ?_, ?_, ?_, ?_, ?_, ?_⟩ <;> simp only [go_sem, simprocAttr, decide_eq_true_eq, Int.natCast_add, Int.natCast_one, ap_bA] <;> try first | omega | ((repeat' (first | exact And.intro rfl (by omega) | (refine And.intro ?_ ?_))) <;> first | rfl | omega | (congr 3; omega) | (congr 2; omega))
          · have q3 := mt hb32.1 q2
            by_cases q4 : i = 0
            · subst q4
              have hone : (bA S).extract 0 1 = bA [b] := hone
              have eb0' := eb0 rfl
              rw [if_pos (.inr rfl)] at k3
              by_cases hn : n < gs.length
              · have hr5 := hgr _ (show gs.getD n 0 ∈ gs by rw [List.getD_eq_getElem?_getD, List.getElem?_eq_getElem hn]; exact List.getElem_mem hn)
                have hq5 : 0 ≤ (gs.getD n 0).tmod 5 ∧ (gs.getD n 0).tmod 5 < 5 := by rw [Int.tmod_eq_emod_of_nonneg hr5.1]; omega
                have hgs : gapS gs n = gapQ ((gs.getD n 0).tmod 5) := if_pos hn
                rw [hgs] at k3
                generalize hq : (gs.getD n 0).tmod 5 = q at *
                have hqc : q = 0 ∨ q = 1 ∨ q = 2 ∨ q = 3 ∨ q = 4 := by omega
                rcases hqc with rfl | rfl | rfl | rfl | rfl
                · simp (implicitDefEqProofs := false) (disch := omega) only [go_sem, simprocAttr, go_sem, Nat.le_refl, Int.toNat_natCast, Int.toNat_zero, Int.toNat_one, str_eq, sz_bA, tl_bA, encI_len, ↓ix_enc, decide_true, beq_self_eq_true, Bool.not_true, Bool.not_false, Tryd.results3, ap_bA, ap_sp, List.length_append, List.size_toArray, List.length_cons, List.length_nil, Nat.zero_add, Int.cast_ofNat_Int, encC_len, hq, lit0, lit1, lit2, lit3, lit4, hi1, hone, eb0', q3, Int.natCast_zero]
                  (repeat (refine And.intro (by first | omega | (simp only [sz_bA, List.length_append, List.length_cons, List.length_nil]; omega)) ?_))
                  refine ⟨⟨(0 + 1, n + 1, o ++ [] ++ [b]), hi, by simp only; omega, by rw [← k3]; simp [gapQ]⟩, by simp only; omega, ?_⟩
                  refine ⟨?_, ?_, ?_, ?_, ?_, ?_, ?_⟩ <;> simp only [go_sem, simprocAttr, decide_eq_true_eq, Int.natCast_add, Int.natCast_one, Nat.zero_add, Int.natCast_zero, List.append_nil, ap_bA] <;> try first | omega | ((repeat' (first | exact And.intro rfl (by omega) | (refine And.intro ?_ ?_))) <;> first | rfl | omega | (congr 3; omega) | (congr 2; omega))
                · simp (implicitDefEqProofs := false) (disch := omega) only [go_sem, simprocAttr, go_sem, Nat.le_refl, Int.toNat_natCast, Int.toNat_zero, Int.toNat_one, str_eq, sz_bA, tl_bA, encI_len, ↓ix_enc, decide_true, beq_self_eq_true, Bool.not_true, Bool.not_false, Tryd.results3, ap_bA, ap_sp, List.length_append, List.size_toArray, List.length_cons, List.length_nil, Nat.zero_add, Int.cast_ofNat_Int, encC_len, hq, lit0, lit1, lit2, lit3, lit4, hi1, hone, eb0', q3, Int.natCast_zero]
                  (repeat (refine And.intro (by first | omega | (simp only [sz_bA, List.length_append, List.length_cons, List.length_nil]; omega)) ?_))
                  refine ⟨⟨(0 + 1, n + 1, o ++ [32] ++ [b]), hi, by simp only; omega, by rw [← k3]; simp [gapQ]⟩, by simp only; omega, ?_⟩
                  refine ⟨?_, ?_, ?_, ?_, ?_, ?_, ?_⟩ <;> simp only [go_sem, simprocAttr, decide_eq_true_eq, Int.natCast_add, Int.natCast_one, Nat.zero_add, Int.natCast_zero, List.append_nil, ap_bA] <;> try first | omega | ((repeat' (first | exact And.intro rfl (by omega) | (refine And.intro ?_ ?_))) <;> first | rfl | omega | (congr 3; omega) | (congr 2; omega))
                · simp (implicitDefEqProofs := false) (disch := omega) only [go_sem, simprocAttr, go_sem, Nat.le_refl, Int.toNat_natCast, Int.toNat_zero, Int.toNat_one, str_eq, sz_bA, tl_bA, encI_len, ↓ix_enc, decide_true, beq_self_eq_true, Bool.not_true, Bool.not_false, Tryd.results3, ap_bA, ap_sp, List.length_append, List.size_toArray, List.length_cons, List.length_nil, Nat.zero_add, Int.cast_ofNat_Int, encC_len, hq, lit0, lit1, lit2, lit3, lit4, hi1, hone, eb0', q3, Int.natCast_zero]
                  (repeat (refine And.intro (by first | omega | (simp only [sz_bA, List.length_append, List.length_cons, List.length_nil]; omega)) ?_))
                  refine ⟨⟨(0 + 1, n + 1, o ++ [9] ++ [b]), hi, by simp only; omega, by rw [← k3]; simp [gapQ]⟩, by simp only; omega, ?_⟩
                  refine ⟨?_, ?_, ?_, ?_, ?_, ?_, ?_⟩ <;> simp only [go_sem, simprocAttr, decide_eq_true_eq, Int.natCast_add, Int.natCast_one, Nat.zero_add, Int.natCast_zero, List.append_nil, ap_bA] <;> try first | omega | ((repeat' (first | exact And.intro rfl (by omega) | (refine And.intro ?_ ?_))) <;> first | rfl | omega | (congr 3; omega) | (congr 2; omega))
                · simp (implicitDefEqProofs := false) (disch := omega) only [go_sem, simprocAttr, go_sem, Nat.le_refl, Int.toNat_natCast, Int.toNat_zero, Int.toNat_one, str_eq, sz_bA, tl_bA, encI_len, ↓ix_enc, decide_true, beq_self_eq_true, Bool.not_true, Bool.not_false, Tryd.results3, ap_bA, ap_sp, List.length_append, List.size_toArray, List.length_cons, List.length_nil, Nat.zero_add, Int.cast_ofNat_Int, encC_len, hq, lit0, lit1, lit2, lit3, lit4, hi1, hone, eb0', q3, Int.natCast_zero]
                  (repeat (refine And.intro (by first | omega | (simp only [sz_bA, List.length_append, List.length_cons, List.length_nil]; omega)) ?_))
                  refine ⟨⟨(0 + 1, n + 1, o ++ [10, 13] ++ [b]), hi, by simp only; omega, by rw [← k3]; simp [gapQ]⟩, by simp only; omega, ?_⟩
                  refine ⟨?_, ?_, ?_, ?_, ?_, ?_, ?_⟩ <;> simp only [go_sem, simprocAttr, decide_eq_true_eq, Int.natCast_add, Int.natCast_one, Nat.zero_add, Int.natCast_zero, List.append_nil, ap_bA] <;> try first | omega | ((repeat' (first | exact And.intro rfl (by omega) | (refine And.intro ?_ ?_))) <;> first | rfl | omega | (congr 3; omega) | (congr 2; omega))
                · simp (implicitDefEqProofs := false) (disch := omega) only [go_sem, simprocAttr, go_sem, Nat.le_refl, Int.toNat_natCast, Int.toNat_zero, Int.toNat_one, str_eq, sz_bA, tl_bA, encI_len, ↓ix_enc, decide_true, beq_self_eq_true, Bool.not_true, Bool.not_false, Tryd.results3, ap_bA, ap_sp, List.length_append, List.size_toArray, List.length_cons, List.length_nil, Nat.zero_add, Int.cast_ofNat_Int, encC_len, hq, lit0, lit1, lit2, lit3, lit4, hi1, hone, eb0', q3, Int.natCast_zero]
                  (repeat (refine And.intro (by first | omega | (simp only [sz_bA, List.length_append, List.length_cons, List.length_nil]; omega)) ?_))
                  refine ⟨⟨(0 + 1, n + 1, o ++ [32, 32] ++ [b]), hi, by simp only; omega, by rw [← k3]; simp [gapQ]⟩, by simp only; omega, ?_⟩
                  refine ⟨?_, ?_, ?_, ?_, ?_, ?_, ?_⟩ <;> simp only [go_sem, simprocAttr, decide_eq_true_eq, Int.natCast_add, Int.natCast_one, Nat.zero_add, Int.natCast_zero, List.append_nil, ap_bA] <;> try first | omega | ((repeat' (first | exact And.intro rfl (by omega) | (refine And.intro ?_ ?_))) <;> first | rfl | omega | (congr 3; omega) | (congr 2; omega))
              · have hgs : gapS gs n = [] := if_neg hn
                rw [hgs] at k3
                simp (implicitDefEqProofs := false) (disch := omega) only [go_sem, simprocAttr, go_sem, Nat.le_refl, Int.toNat_natCast, Int.toNat_zero, Int.toNat_one, str_eq, sz_bA, tl_bA, encI_len, ↓ix_enc, decide_true, beq_self_eq_true, Bool.not_true, Bool.not_false, Tryd.results3, ap_bA, ap_sp, List.length_append, List.size_toArray, List.length_cons, List.length_nil, Nat.zero_add, Int.cast_ofNat_Int, encC_len, lit0, lit1, lit2, lit3, lit4, hi1, hone, eb0', q3, Int.natCast_zero]
                (repeat (refine And.intro (by first | omega | (simp only [sz_bA, List.length_append, List.length_cons, List.length_nil]; omega)) ?_))
                refine ⟨⟨(0 + 1, n + 1, o ++ [b]), hi, by simp only; omega, by rw [← k3]; simp⟩, by simp only; omega, ?_⟩
                refine ⟨?_, ?_, ?_, ?_, ?_, ?_, ?_⟩ <;> simp only [go_sem, simprocAttr, decide_eq_true_eq, Int.natCast_add, Int.natCast_one, Nat.zero_add, Int.natCast_zero, ap_bA] <;> try first | omega | ((repeat' (first | exact And.intro rfl (by omega) | (refine And.intro ?_ ?_))) <;> first | rfl | omega | (congr 3; omega) | (congr 2; omega))
            · rw [if_neg (by rintro (⟨_, h⟩ | h); exact q2 h; exact q4 h)] at k3
              simp (implicitDefEqProofs := false) (disch := omega) only [go_sem, simprocAttr, go_sem, Nat.le_refl, Int.toNat_natCast, Int.toNat_zero, Int.toNat_one, str_eq, sz_bA, tl_bA, encI_len, ↓ix_enc, decide_true, beq_self_eq_true, Bool.not_true, Bool.not_false, Tryd.results3, ap_bA, ap_sp, List.length_append, List.size_toArray, List.length_cons, List.length_nil, Nat.zero_add, Int.cast_ofNat_Int, encC_len, lit0, hi1, hone, eb, q3]
              (repeat (refine And.intro (by first | omega | (simp only [sz_bA, List.length_append, List.length_cons, List.length_nil]; omega)) ?_))
              refine ⟨⟨(i + 1, n, o ++ [b]), hi, by simp only; omega, by rw [← k3]; simp⟩, by simp only; omega, ?_⟩
              refine ⟨?_, ?_, ?_, ?_, ?_, ?_, ?_⟩ <;> simp only [go_sem, simprocAttr, decide_eq_true_eq, Int.natCast_add, Int.natCast_one, ap_bA] <;> try first | omega | ((repeat' (first | exact And.intro rfl (by omega) | (refine And.intro ?_ ?_))) <;> first | rfl | omega | (congr 3; omega) | (congr 2; omega))
        · exfalso; omega
      · have hi' : i = S.length := by omega
        subst hi'
        rw [List.drop_length, bl, List.append_nil] at k3
        subst k3
        have el : (⟨#[32, 10]⟩ : ByteArray) = bA [32, 10] := rfl
        by_cases hrt : rt = []
        · have htl2 : tl = [32, 10] := by rw [← ht]; exact if_pos hrt
          have hrd : decide (rt = []) = true := decide_eq_true hrt
          have hrl0 : rt.length = 0 := by rw [hrt]; rfl
          rw [htl2] at c7
          simp (implicitDefEqProofs := false) (disch := omega) only [go_sem, simprocAttr, go_sem, Nat.le_refl, Int.toNat_natCast, Int.toNat_zero, Int.toNat_one, str_eq, sz_bA, tl_bA, encI_len, ↓ix_enc, decide_true, beq_self_eq_true, Bool.not_true, Bool.not_false, Tryd.results3, ap_bA, ap_sp, List.length_append, List.size_toArray, List.length_cons, List.length_nil, Nat.zero_add, Int.cast_ofNat_Int, encC_len, hrd, el]
          (repeat (refine And.intro (by first | omega | (simp only [sz_bA, List.length_append, List.length_cons, List.length_nil]; omega)) ?_))
          with_reducible refine CallOk.of c7 rfl ?_
          simp (implicitDefEqProofs := false) (disch := omega) only [go_sem, simprocAttr, go_sem, Nat.le_refl, Int.toNat_natCast, Int.toNat_zero, Int.toNat_one, str_eq, sz_bA, tl_bA, encI_len, ↓ix_enc, decide_true, beq_self_eq_true, Bool.not_true, Bool.not_false, Tryd.results3, ap_bA, ap_sp, List.length_append, List.size_toArray, List.length_cons, List.length_nil, Nat.zero_add, Int.cast_ofNat_Int, encC_len, hrd, el]
          with_reducible refine CallOk.of c8 rfl ?_
          simp (implicitDefEqProofs := false) (disch := omega) only [go_sem, simprocAttr, go_sem, Nat.le_refl, Int.toNat_natCast, Int.toNat_zero, Int.toNat_one, str_eq, sz_bA, tl_bA, encI_len, ↓ix_enc, decide_true, beq_self_eq_true, Bool.not_true, Bool.not_false, Tryd.results3, ap_bA, ap_sp, List.length_append, List.size_toArray, List.length_cons, List.length_nil, Nat.zero_add, Int.cast_ofNat_Int, encC_len, hrd, el]
          with_reducible refine CallOk.of c9 rfl ?_
          simp (implicitDefEqProofs := false) (disch := omega) only [go_sem, simprocAttr, go_sem, Nat.le_refl, Int.toNat_natCast, Int.toNat_zero, Int.toNat_one, str_eq, sz_bA, tl_bA, encI_len, ↓ix_enc, decide_true, beq_self_eq_true, Bool.not_true, Bool.not_false, Tryd.results3, ap_bA, ap_sp, List.length_append, List.size_toArray, List.length_cons, List.length_nil, Nat.zero_add, Int.cast_ofNat_Int, encC_len, hrd, el]
        · exact absurd (hr.resolve_left (by decide)) hrt
end Go.Proofs.YtegehnojbfedlaaDoor
