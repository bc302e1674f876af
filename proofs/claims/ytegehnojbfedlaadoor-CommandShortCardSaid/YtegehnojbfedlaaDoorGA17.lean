import Derived.Test.YtegehnojbfedlaaDoorGA16
/-
  Chapter 25: the law Short.
-/
open Go Go.Proofs Go.Pw Go.RowKit
namespace Go.Proofs.YtegehnojbfedlaaDoor
set_option maxRecDepth 4000
set_option linter.unusedVariables false
set_option linter.unusedSimpArgs false
/-- A line that lacks something. -/
theorem parse_part {w : List UInt8} {ns : List (List UInt8)} {ms : List Int} {a b : Nat} {r : Bool} (ha : asks w = some (a, b, r)) (hn : ∀ x ∈ ns, nameL x = true) (hm : ∀ n ∈ ms, fits n)
    (hk : (ns.length < a ∧ ms = []) ∨ (ns.length = a ∧ ms.length < b)) (hS : (w ++ jT (ns ++ ms.map tOf)).length ≤ 20000) :
    parseC (w ++ jT (ns ++ ms.map tOf)) = .error ((w ++ jT (ns ++ ms.map tOf)).length, 1) := by
  have hw := word_nb ha
  have hnG : ∀ x ∈ ns.map (fun x => (([32] : List UInt8), x)), okG x ∧ nameL x.2 = true := fun x hx => by
    obtain ⟨y, hy, rfl⟩ := List.mem_map.1 hx
    exact ⟨⟨by simp, blk_sp, name_nb (hn y hy)⟩, hn y hy⟩
  have hmG : ∀ x ∈ ms.map (fun x => (([32] : List UInt8), x)), x.1 ≠ [] ∧ blk x.1 ∧ fits x.2 := fun x hx => by
    obtain ⟨y, hy, rfl⟩ := List.mem_map.1 hx
    exact ⟨by simp, blk_sp, hm y hy⟩
  have e : jT (ns ++ ms.map tOf) = catG (ns.map fun x => ([32], x)) ++ (catG ((ms.map fun x => (([32] : List UInt8), x)).map fun x => (x.1, tOf x.2)) ++ []) := by
    rw [jT_app, jT_cat ns, jT_cat (ms.map tOf), List.map_map, List.map_map, List.append_nil]
    rfl
  have e2 : endB (catG ((ms.map fun x => (([32] : List UInt8), x)).map fun x => (x.1, tOf x.2)) ++ []) := catG_end (fun y hy => by
      obtain ⟨z, hz, rfl⟩ := List.mem_map.1 hy
      have := hmG z hz
      exact ⟨this.1, this.2.1, text_nb _⟩) (.inl rfl)
  have e1 := catG_end (fun y hy => (hnG y hy).1) e2
  rw [← e] at e1
  have hs := seg_wrd (g := []) (p := w) (fun b hb => by cases hb) hw e1
  rw [List.nil_append] at hs
  unfold parseC
  rw [if_neg (by omega), hs.1, hs.2, if_neg hw.1, ha]
  simp only
  generalize hSS : w ++ jT (ns ++ ms.map tOf) = S at *
  unfold pAll
  rcases hk with ⟨h1, rfl⟩ | ⟨h1, h2⟩
  · have p1 := pNames_cat (S := S) (k := (a - ns.length - 1) + 1) hnG e2
    rw [List.length_map, show ns.length + ((a - ns.length - 1) + 1) = a by omega] at p1
    rw [e, p1]
    simp only [List.map_nil, List.append_nil]
    have : catG [] = [] := rfl
    rw [this, names_nil]
    rfl
  · have p1 := pNames_cat (S := S) (k := 0) hnG e2
    have p2 := pNums_cat (S := S) (k := (b - ms.length - 1) + 1) hmG (M := []) (.inl rfl)
    rw [List.length_map, Nat.add_zero, h1] at p1
    rw [List.length_map, show ms.length + ((b - ms.length - 1) + 1) = b by omega, nums_nil] at p2
    rw [e, p1]
    simp only [pNames, preN, List.append_nil]
    rw [List.append_nil] at p2
    rw [p2]
    rfl
/-- A line with all that is asked, and what may follow. -/
theorem parse_full {w : List UInt8} {ns : List (List UInt8)} {ms : List Int} {r : Bool} (ha : asks w = some (ns.length, ms.length, r)) (hn : ∀ x ∈ ns, nameL x = true) (hm : ∀ n ∈ ms, fits n)
    (t : List UInt8) (ht : endB t) (hS : (w ++ jT (ns ++ ms.map tOf) ++ t).length ≤ 20000) :
    parseC (w ++ jT (ns ++ ms.map tOf) ++ t) = pRest (w ++ jT (ns ++ ms.map tOf) ++ t) r w ns ms t := by
  have hw := word_nb ha
  have hnG : ∀ x ∈ ns.map (fun x => (([32] : List UInt8), x)), okG x ∧ nameL x.2 = true := fun x hx => by
    obtain ⟨y, hy, rfl⟩ := List.mem_map.1 hx
    exact ⟨⟨by simp, blk_sp, name_nb (hn y hy)⟩, hn y hy⟩
  have hmG : ∀ x ∈ ms.map (fun x => (([32] : List UInt8), x)), x.1 ≠ [] ∧ blk x.1 ∧ fits x.2 := fun x hx => by
    obtain ⟨y, hy, rfl⟩ := List.mem_map.1 hx
    exact ⟨by simp, blk_sp, hm y hy⟩
  have e : w ++ jT (ns ++ ms.map tOf) ++ t = w ++ (catG (ns.map fun x => ([32], x)) ++ (catG ((ms.map fun x => (([32] : List UInt8), x)).map fun x => (x.1, tOf x.2)) ++ t)) := by
    rw [jT_app, jT_cat ns, jT_cat (ms.map tOf), List.map_map, List.map_map]
    simp [Function.comp_def]
  have e2 : endB (catG ((ms.map fun x => (([32] : List UInt8), x)).map fun x => (x.1, tOf x.2)) ++ t) := catG_end (fun y hy => by
      obtain ⟨z, hz, rfl⟩ := List.mem_map.1 hy
      have := hmG z hz
      exact ⟨this.1, this.2.1, text_nb _⟩) ht
  have e1 := catG_end (fun y hy => (hnG y hy).1) e2
  have hs := seg_wrd (g := []) (p := w) (fun b hb => by cases hb) hw e1
  rw [List.nil_append, ← e] at hs
  unfold parseC
  rw [if_neg (by omega), hs.1, hs.2, if_neg hw.1, ha]
  simp only
  generalize hSS : w ++ jT (ns ++ ms.map tOf) ++ t = S at *
  unfold pAll
  have p1 := pNames_cat (S := S) (k := 0) hnG e2
  have p2 := pNums_cat (S := S) (k := 0) hmG ht
  rw [List.length_map, Nat.add_zero] at p1 p2
  rw [p1]
  simp only [pNames, preN, List.append_nil]
  rw [p2]
  simp only [pNums, preN, List.append_nil, List.map_map]
  have m1 : List.map ((fun x : Gp => x.2) ∘ fun x => (([32] : List UInt8), x)) ns = ns := by rw [Function.comp_def]; exact List.map_id' ns
  have m2 : List.map ((fun x : List UInt8 × Int => x.2) ∘ fun x => (([32] : List UInt8), x)) ms = ms := by rw [Function.comp_def]; exact List.map_id' ms
  rw [m1, m2]
/-- The first so many pieces, as a line. -/
def accS (w : List UInt8) (l : List (List UInt8)) : Nat → List UInt8
  | 0 => []
  | j + 1 => w ++ jT (l.take j)
theorem accS_succ {w : List UInt8} {l : List (List UInt8)} {j : Nat} (h : j < l.length) : accS w l (j + 2) = accS w l (j + 1) ++ [32] ++ l.getD j [] := by
  have e : l.take (j + 1) = l.take j ++ [l.getD j []] := by
    rw [List.take_succ_eq_append_getElem h, List.getD_eq_getElem?_getD, List.getElem?_eq_getElem h]; rfl
  show w ++ jT (l.take (j + 1)) = w ++ jT (l.take j) ++ [32] ++ _
  rw [e, jT_app, jT_cons, jT_nil]
  simp
theorem accS_le (w : List UInt8) (l : List (List UInt8)) (j : Nat) : (accS w l j).length ≤ (w ++ jT l).length := by
  cases j with
  | zero => exact Nat.zero_le _
  | succ j =>
    have e := jT_app (l.take j) (l.drop j)
    rw [List.take_append_drop] at e
    unfold accS
    rw [e]
    simp only [List.length_append]
    omega
set_option maxHeartbeats 8000000 in
theorem short_law (c : Cm) (cut : Int) (hc : CmOk c) (hcut : 0 ≤ cut ∧ cut ≤ 255) : Ok Tryd.prog 5 [.agg (cellsC c), .val (.int .u8 cut)] (vB true) := by
  obtain ⟨h1, h2, hfit⟩ := hc
  have c0 := awake_ok
  have c1 := small_ok c h1 h2
  show Ok Tryd.prog 5 [cmP c, .val (.int .u8 cut)] (vB true)
  cases hs : smallC c with
  | false =>
    rw [hs] at c1
    unfold cmP at *
    refine Ok.of_pwp (by kernel_rfl) Tryd.func5 rfl (by kernel_rfl) (by kernel_rfl) ?_
    simp (implicitDefEqProofs := false) (disch := omega) only [go_sem, simprocAttr, go_sem, Nat.le_refl, Int.toNat_natCast, Int.toNat_zero, Int.toNat_one, str_eq, sz_bA, tl_bA, encI_len, ↓ix_enc, decide_true, beq_self_eq_true, Bool.not_true, Bool.not_false, Tryd.results5, Delta.val, sliceLike, ap_sp, List.length_append, List.size_toArray, List.length_cons, List.length_nil, Nat.zero_add, Int.cast_ofNat_Int]
    with_reducible refine CallOk.of c0 rfl ?_
    simp (implicitDefEqProofs := false) (disch := omega) only [go_sem, simprocAttr, go_sem, Nat.le_refl, Int.toNat_natCast, Int.toNat_zero, Int.toNat_one, str_eq, sz_bA, tl_bA, encI_len, ↓ix_enc, decide_true, beq_self_eq_true, Bool.not_true, Bool.not_false, Tryd.results5, Delta.val, sliceLike, ap_sp, List.length_append, List.size_toArray, List.length_cons, List.length_nil, Nat.zero_add, Int.cast_ofNat_Int]
    with_reducible refine CallOk.of c1 rfl ?_
    simp (implicitDefEqProofs := false) (disch := omega) only [go_sem, simprocAttr, go_sem, Nat.le_refl, Int.toNat_natCast, Int.toNat_zero, Int.toNat_one, str_eq, sz_bA, tl_bA, encI_len, ↓ix_enc, decide_true, beq_self_eq_true, Bool.not_true, Bool.not_false, Tryd.results5, Delta.val, sliceLike, ap_sp, List.length_append, List.size_toArray, List.length_cons, List.length_nil, Nat.zero_add, Int.cast_ofNat_Int]
    with_reducible refine CallOk.of c0 rfl ?_
    simp (implicitDefEqProofs := false) (disch := omega) only [go_sem, simprocAttr, go_sem, Nat.le_refl, Int.toNat_natCast, Int.toNat_zero, Int.toNat_one, str_eq, sz_bA, tl_bA, encI_len, ↓ix_enc, decide_true, beq_self_eq_true, Bool.not_true, Bool.not_false, Tryd.results5, Delta.val, sliceLike, ap_sp, List.length_append, List.size_toArray, List.length_cons, List.length_nil, Nat.zero_add, Int.cast_ofNat_Int]
  | true =>
  rw [hs] at c1
  obtain ⟨g1, g2, g3, g4, g5⟩ := (smallC_iff c).1 hs
  have hfw : fewB c.names := fun s h => by have := g1 s h; omega
  have c4 := rgood_ok c (by omega) (by omega) (by omega) hfw
  cases hg : goodC c with
  | false =>
    rw [hg] at c4
    unfold cmP at *
    refine Ok.of_pwp (by kernel_rfl) Tryd.func5 rfl (by kernel_rfl) (by kernel_rfl) ?_
    simp (implicitDefEqProofs := false) (disch := omega) only [go_sem, simprocAttr, go_sem, Nat.le_refl, Int.toNat_natCast, Int.toNat_zero, Int.toNat_one, str_eq, sz_bA, tl_bA, encI_len, ↓ix_enc, decide_true, beq_self_eq_true, Bool.not_true, Bool.not_false, Tryd.results5, Delta.val, sliceLike, ap_sp, List.length_append, List.size_toArray, List.length_cons, List.length_nil, Nat.zero_add, Int.cast_ofNat_Int]
    with_reducible refine CallOk.of c0 rfl ?_
    simp (implicitDefEqProofs := false) (disch := omega) only [go_sem, simprocAttr, go_sem, Nat.le_refl, Int.toNat_natCast, Int.toNat_zero, Int.toNat_one, str_eq, sz_bA, tl_bA, encI_len, ↓ix_enc, decide_true, beq_self_eq_true, Bool.not_true, Bool.not_false, Tryd.results5, Delta.val, sliceLike, ap_sp, List.length_append, List.size_toArray, List.length_cons, List.length_nil, Nat.zero_add, Int.cast_ofNat_Int]
    with_reducible refine CallOk.of c1 rfl ?_
    simp (implicitDefEqProofs := false) (disch := omega) only [go_sem, simprocAttr, go_sem, Nat.le_refl, Int.toNat_natCast, Int.toNat_zero, Int.toNat_one, str_eq, sz_bA, tl_bA, encI_len, ↓ix_enc, decide_true, beq_self_eq_true, Bool.not_true, Bool.not_false, Tryd.results5, Delta.val, sliceLike, ap_sp, List.length_append, List.size_toArray, List.length_cons, List.length_nil, Nat.zero_add, Int.cast_ofNat_Int]
    with_reducible refine CallOk.of c4 rfl ?_
    simp (implicitDefEqProofs := false) (disch := omega) only [go_sem, simprocAttr, go_sem, Nat.le_refl, Int.toNat_natCast, Int.toNat_zero, Int.toNat_one, str_eq, sz_bA, tl_bA, encI_len, ↓ix_enc, decide_true, beq_self_eq_true, Bool.not_true, Bool.not_false, Tryd.results5, Delta.val, sliceLike, ap_sp, List.length_append, List.size_toArray, List.length_cons, List.length_nil, Nat.zero_add, Int.cast_ofNat_Int]
    with_reducible refine CallOk.of c0 rfl ?_
    simp (implicitDefEqProofs := false) (disch := omega) only [go_sem, simprocAttr, go_sem, Nat.le_refl, Int.toNat_natCast, Int.toNat_zero, Int.toNat_one, str_eq, sz_bA, tl_bA, encI_len, ↓ix_enc, decide_true, beq_self_eq_true, Bool.not_true, Bool.not_false, Tryd.results5, Delta.val, sliceLike, ap_sp, List.length_append, List.size_toArray, List.length_cons, List.length_nil, Nat.zero_add, Int.cast_ofNat_Int]
  | true =>
  rw [hg] at c4
  have hlen := line_len hs hfit
  obtain ⟨w, ns, ms, rt⟩ := c
  simp only at h1 h2 hfit g1 g2 g3 g4 g5 hfw
  obtain ⟨r, ha, hr, hsk, hnm⟩ := goodC_iff hg
  simp only at ha hr hsk hnm
  obtain ⟨pcs, hps⟩ : ∃ pcs, ns ++ ms.map tOf = pcs := ⟨_, rfl⟩
  have hpl : pcs.length = ns.length + ms.length := by rw [← hps, List.length_append, List.length_map]
  have hlen2 : (w ++ jT pcs).length ≤ 1000 := by
    have e : lineC ⟨w, ns, ms, rt⟩ = w ++ jT pcs ++ jT (restC ⟨w, ns, ms, rt⟩) := by unfold lineC; rw [jT_app, ← hps]; simp
    rw [e, List.length_append] at hlen
    omega
  rw [List.length_append] at hlen2
  obtain ⟨m', hm', hm2⟩ : ∃ m' : Nat, cut.tmod (1 + (ns.length : Int) + (ms.length : Int)) = (m' : Int) ∧ m' ≤ pcs.length := by
    have e := Int.tmod_eq_emod_of_nonneg (b := 1 + (ns.length : Int) + (ms.length : Int)) hcut.1
    have b1 := Int.emod_nonneg cut (b := 1 + (ns.length : Int) + (ms.length : Int)) (by omega)
    have b2 := Int.emod_lt_of_pos cut (b := 1 + (ns.length : Int) + (ms.length : Int)) (by omega)
    exact ⟨(cut.tmod (1 + (ns.length : Int) + (ms.length : Int))).toNat, by omega, by omega⟩
  obtain ⟨mk, hmk, hmk1, hmk2⟩ : ∃ mk : Nat, 1 + (m' : Int) = (mk : Int) ∧ mk = m' + 1 ∧ mk ≤ pcs.length + 1 := ⟨m' + 1, by omega, rfl, by omega⟩
  unfold cmP at *
  simp only at *
  refine Ok.of_pwp (by kernel_rfl) Tryd.func5 rfl (by kernel_rfl) (by kernel_rfl) ?_
  simp (implicitDefEqProofs := false) (disch := omega) only [go_sem, simprocAttr, go_sem, Nat.le_refl, Int.toNat_natCast, Int.toNat_zero, Int.toNat_one, str_eq, sz_bA, tl_bA, encI_len, ↓ix_enc, decide_true, beq_self_eq_true, Bool.not_true, Bool.not_false, Tryd.results5, Delta.val, sliceLike, ap_sp, List.length_append, List.size_toArray, List.length_cons, List.length_nil, Nat.zero_add, Int.cast_ofNat_Int]
  with_reducible refine CallOk.of c0 rfl ?_
  simp (implicitDefEqProofs := false) (disch := omega) only [go_sem, simprocAttr, go_sem, Nat.le_refl, Int.toNat_natCast, Int.toNat_zero, Int.toNat_one, str_eq, sz_bA, tl_bA, encI_len, ↓ix_enc, decide_true, beq_self_eq_true, Bool.not_true, Bool.not_false, Tryd.results5, Delta.val, sliceLike, ap_sp, List.length_append, List.size_toArray, List.length_cons, List.length_nil, Nat.zero_add, Int.cast_ofNat_Int]
  with_reducible refine CallOk.of c1 rfl ?_
  simp (implicitDefEqProofs := false) (disch := omega) only [go_sem, simprocAttr, go_sem, Nat.le_refl, Int.toNat_natCast, Int.toNat_zero, Int.toNat_one, str_eq, sz_bA, tl_bA, encI_len, ↓ix_enc, decide_true, beq_self_eq_true, Bool.not_true, Bool.not_false, Tryd.results5, Delta.val, sliceLike, ap_sp, List.length_append, List.size_toArray, List.length_cons, List.length_nil, Nat.zero_add, Int.cast_ofNat_Int]
  with_reducible refine CallOk.of c4 rfl ?_
  cases ns with
  | nil =>
    rw [encB_nil]
    have hT : cut.tmod (1 + (ms.length : Int)) = (m' : Int) := by simpa using hm'
    have hpl' : pcs.length = ms.length := by simpa using hpl
    simp (implicitDefEqProofs := false) (disch := omega) only [go_sem, simprocAttr, go_sem, Nat.le_refl, Int.toNat_natCast, Int.toNat_zero, Int.toNat_one, str_eq, sz_bA, tl_bA, encI_len, ↓ix_enc, decide_true, beq_self_eq_true, Bool.not_true, Bool.not_false, Tryd.results5, Delta.val, sliceLike, ap_sp, List.length_append, List.size_toArray, List.length_cons, List.length_nil, Nat.zero_add, Int.cast_ofNat_Int, hT, hmk]
    have gq : fewB (w :: []) := fun s h => by rcases List.mem_cons.1 h with rfl | h; omega; have := g1 s h; omega
    refine p_loop (ι := { i : Nat // i ≤ mk }) (fun p => ⟨[(50, vI p.1), (49, vI mk), (7, vI mk), (6, vS (bA (accS w pcs p.1))), (5, .sl (encB (w :: []))), (2, .ptr 0 0)], [(0, .box 25 [vS (bA w), .sl (encB []), .sl (encI ms), vS (bA rt)])], [], 1, 0⟩) (fun p => mk - p.1) ⟨0, Nat.zero_le _⟩ ?_ ?_
    · have e0 : bA (accS w pcs 0) = ⟨#[]⟩ := rfl
      refine ⟨?_, ?_, ?_, ?_, ?_, ?_, ?_⟩ <;> simp only [go_sem, simprocAttr, decide_eq_true_eq, Int.natCast_zero, encB_cons, encB_nil, e0, hmk] <;> try first | omega | ((repeat' (first | exact And.intro rfl (by omega) | (refine And.intro ?_ ?_))) <;> first | rfl | omega | (congr 3; omega) | (congr 2; omega))
    · rintro ⟨i, hi⟩
      simp only
      have hal := accS_le w pcs i
      have hal2 := accS_le w pcs (i + 1)
      rw [List.length_append] at hal hal2
      by_cases hl : i < mk
      · by_cases h0 : i = 0
        · subst h0
          have e1 : bA (accS w pcs 0) ++ bA w = bA (accS w pcs 1) := by rw [ap_bA]; simp [accS, jT_nil]
          have hix : ∀ K : PV → Prop, ixP 1 0 K (.sl (encB (w :: ([] : List (List UInt8))))) = K (.fp [vS (bA w)]) := fun K => ix_B (by decide) (by simp only [List.length_cons]; omega)
          simp (implicitDefEqProofs := false) (disch := omega) only [go_sem, simprocAttr, go_sem, Nat.le_refl, Int.toNat_natCast, Int.toNat_zero, Int.toNat_one, str_eq, sz_bA, tl_bA, encI_len, ↓ix_enc, decide_true, beq_self_eq_true, Bool.not_true, Bool.not_false, Tryd.results5, Delta.val, sliceLike, ap_sp, List.length_append, List.size_toArray, List.length_cons, List.length_nil, Nat.zero_add, Int.cast_ofNat_Int, ↓hix, e1]
          (repeat (refine And.intro (by omega) ?_))
          refine ⟨⟨0 + 1, hl⟩, by simp only; omega, ?_⟩
          refine ⟨?_, ?_, ?_, ?_, ?_, ?_, ?_⟩ <;> simp only [go_sem, simprocAttr, decide_eq_true_eq, Nat.zero_add, Int.natCast_one] <;> try first | omega | ((repeat' (first | exact And.intro rfl (by omega) | (refine And.intro ?_ ?_))) <;> first | rfl | omega | (congr 3; omega) | (congr 2; omega))
        · obtain ⟨j, rfl⟩ : ∃ j, i = j + 1 := ⟨i - 1, by omega⟩
          have hst := accS_succ (w := w) (l := pcs) (j := j) (by omega)
          have hsl := congrArg List.length hst
          simp only [List.length_append, List.length_cons, List.length_nil] at hsl
          have hal3 : (accS w pcs (j + 2)).length ≤ w.length + (jT pcs).length := hal2
          by_cases hn : j < ([] : List (List UInt8)).length
          · exact absurd hn (Nat.not_lt_zero _)
          · have hf := getD_fits hfit (j - ([] : List (List UInt8)).length)
            have c2 := of_rep (ms.getD (j - ([] : List (List UInt8)).length) 0) hf
            have c3 := rtextB_ok (ms.getD (j - ([] : List (List UInt8)).length) 0) hf
            have eg : tOf (ms.getD (j - ([] : List (List UInt8)).length) 0) = pcs.getD j [] := by
              rw [← hps, List.getD_eq_getElem?_getD, List.getD_eq_getElem?_getD, List.getElem?_append_right (by omega), List.getElem?_map, List.getElem?_eq_getElem (by omega)]; rfl
            rw [eg] at c3
            have ei : (((j + 1 : Nat) : Int) - 1).toNat = j - ([] : List (List UInt8)).length := by simp only [List.length_nil]; omega
            have e1 : bA (accS w pcs (j + 1) ++ [32]) ++ bA (pcs.getD j []) = bA (accS w pcs (j + 1 + 1)) := by rw [ap_bA, hst]
            simp (implicitDefEqProofs := false) (disch := omega) only [go_sem, simprocAttr, go_sem, Nat.le_refl, Int.toNat_natCast, Int.toNat_zero, Int.toNat_one, str_eq, sz_bA, tl_bA, encI_len, ↓ix_enc, decide_true, beq_self_eq_true, Bool.not_true, Bool.not_false, Tryd.results5, Delta.val, sliceLike, ap_sp, List.length_append, List.size_toArray, List.length_cons, List.length_nil, Nat.zero_add, Int.cast_ofNat_Int, e1, ei]
            (repeat (refine And.intro (by omega) ?_))
            with_reducible refine CallOk.of c2 rfl ?_
            simp (implicitDefEqProofs := false) (disch := omega) only [go_sem, simprocAttr, go_sem, Nat.le_refl, Int.toNat_natCast, Int.toNat_zero, Int.toNat_one, str_eq, sz_bA, tl_bA, encI_len, ↓ix_enc, decide_true, beq_self_eq_true, Bool.not_true, Bool.not_false, Tryd.results5, Delta.val, sliceLike, ap_sp, List.length_append, List.size_toArray, List.length_cons, List.length_nil, Nat.zero_add, Int.cast_ofNat_Int, e1, ei]
            with_reducible refine CallOk.of c3 rfl ?_
            simp (implicitDefEqProofs := false) (disch := omega) only [go_sem, simprocAttr, go_sem, Nat.le_refl, Int.toNat_natCast, Int.toNat_zero, Int.toNat_one, str_eq, sz_bA, tl_bA, encI_len, ↓ix_enc, decide_true, beq_self_eq_true, Bool.not_true, Bool.not_false, Tryd.results5, Delta.val, sliceLike, ap_sp, List.length_append, List.size_toArray, List.length_cons, List.length_nil, Nat.zero_add, Int.cast_ofNat_Int, e1, ei]
            (repeat (refine And.intro (by omega) ?_))
            refine ⟨⟨j + 1 + 1, hl⟩, by simp only; omega, ?_⟩
            refine ⟨?_, ?_, ?_, ?_, ?_, ?_, ?_⟩ <;> simp only [go_sem, simprocAttr, decide_eq_true_eq, Int.natCast_add, Int.natCast_one] <;> try first | omega | ((repeat' (first | exact And.intro rfl (by omega) | (refine And.intro ?_ ?_))) <;> first | rfl | omega | (congr 3; omega) | (congr 2; omega))
      · have hi' : i = mk := by omega
        subst hi'
        have eacc : accS w pcs (m' + 1) = w ++ jT (pcs.take m') := rfl
        rw [hmk1, eacc]
        have htk : (w ++ jT (pcs.take m')).length ≤ 1000 := by
          have := accS_le w pcs (m' + 1)
          rw [eacc] at this
          simp only [List.length_append] at this ⊢
          omega
        by_cases hfull : m' = pcs.length
        · rw [hfull, List.take_length]
          have p1 := parse_full (r := r) ha hnm hfit [] (.inl rfl) (by rw [hps, List.append_nil, List.length_append]; omega)
          have p2 := parse_full (r := r) ha hnm hfit [32, 109, 111, 114, 101] (.inr ⟨32, _, rfl, by decide⟩) (by rw [hps, List.length_append, List.length_append]; simp; omega)
          rw [hps] at p1 p2
          rw [List.append_nil] at p1
          have c5 := parse_cmd (w ++ jT pcs) (by rw [List.length_append]; omega)
          have c6 := parse_cmd (w ++ jT pcs ++ [32, 109, 111, 114, 101]) (by rw [List.length_append, List.length_append]; simp; omega)
          have c7 := asks_ok w
          rw [p1] at c5
          rw [p2] at c6
          rw [ha] at c7
          unfold askP at c7
          unfold pRest resP cmP at c5
          rw [if_neg (fun h => h.2 rfl)] at c5
          unfold pRest resP cmP at c6
          have hmore : skp [32, 109, 111, 114, 101] = [109, 111, 114, 101] := rfl
          rw [hmore] at c6
          have hpos : (ps (w ++ jT pcs ++ [32, 109, 111, 114, 101]) [109, 111, 114, 101] : Int) = ((w ++ jT pcs).length : Int) + 1 := by
            unfold ps
            rw [List.length_append]
            simp only [List.length_cons, List.length_nil]
            omega
          simp only at c5 c7
          have e9 : (⟨#[32, 109, 111, 114, 101]⟩ : ByteArray) = bA [32, 109, 111, 114, 101] := rfl
          cases r with
          | true =>
            rw [if_neg (fun h => by cases h.1)] at c6
            simp only at c6
            try rw [hpos] at c6
            simp (implicitDefEqProofs := false) (disch := omega) only [go_sem, simprocAttr, go_sem, Nat.le_refl, Int.toNat_natCast, Int.toNat_zero, Int.toNat_one, str_eq, sz_bA, tl_bA, encI_len, ↓ix_enc, decide_true, beq_self_eq_true, Bool.not_true, Bool.not_false, Tryd.results5, Delta.val, sliceLike, ap_sp, List.length_append, List.size_toArray, List.length_cons, List.length_nil, Nat.zero_add, Int.cast_ofNat_Int, e9, ap_bA]
            with_reducible refine CallOk.of c5 rfl ?_
            simp (implicitDefEqProofs := false) (disch := omega) only [go_sem, simprocAttr, go_sem, Nat.le_refl, Int.toNat_natCast, Int.toNat_zero, Int.toNat_one, str_eq, sz_bA, tl_bA, encI_len, ↓ix_enc, decide_true, beq_self_eq_true, Bool.not_true, Bool.not_false, Tryd.results5, Delta.val, sliceLike, ap_sp, List.length_append, List.size_toArray, List.length_cons, List.length_nil, Nat.zero_add, Int.cast_ofNat_Int, e9, ap_bA]
            with_reducible refine CallOk.of c7 rfl ?_
            simp (implicitDefEqProofs := false) (disch := omega) only [go_sem, simprocAttr, go_sem, Nat.le_refl, Int.toNat_natCast, Int.toNat_zero, Int.toNat_one, str_eq, sz_bA, tl_bA, encI_len, ↓ix_enc, decide_true, beq_self_eq_true, Bool.not_true, Bool.not_false, Tryd.results5, Delta.val, sliceLike, ap_sp, List.length_append, List.size_toArray, List.length_cons, List.length_nil, Nat.zero_add, Int.cast_ofNat_Int, e9, ap_bA]
            with_reducible refine CallOk.of c6 rfl ?_
            simp (implicitDefEqProofs := false) (disch := omega) only [go_sem, simprocAttr, go_sem, Nat.le_refl, Int.toNat_natCast, Int.toNat_zero, Int.toNat_one, str_eq, sz_bA, tl_bA, encI_len, ↓ix_enc, decide_true, beq_self_eq_true, Bool.not_true, Bool.not_false, Tryd.results5, Delta.val, sliceLike, ap_sp, List.length_append, List.size_toArray, List.length_cons, List.length_nil, Nat.zero_add, Int.cast_ofNat_Int, e9, ap_bA]
            first | done | omega
          | false =>
            rw [if_pos ⟨rfl, by decide⟩] at c6
            simp only at c6
            try rw [hpos] at c6
            simp (implicitDefEqProofs := false) (disch := omega) only [go_sem, simprocAttr, go_sem, Nat.le_refl, Int.toNat_natCast, Int.toNat_zero, Int.toNat_one, str_eq, sz_bA, tl_bA, encI_len, ↓ix_enc, decide_true, beq_self_eq_true, Bool.not_true, Bool.not_false, Tryd.results5, Delta.val, sliceLike, ap_sp, List.length_append, List.size_toArray, List.length_cons, List.length_nil, Nat.zero_add, Int.cast_ofNat_Int, e9, ap_bA]
            with_reducible refine CallOk.of c5 rfl ?_
            simp (implicitDefEqProofs := false) (disch := omega) only [go_sem, simprocAttr, go_sem, Nat.le_refl, Int.toNat_natCast, Int.toNat_zero, Int.toNat_one, str_eq, sz_bA, tl_bA, encI_len, ↓ix_enc, decide_true, beq_self_eq_true, Bool.not_true, Bool.not_false, Tryd.results5, Delta.val, sliceLike, ap_sp, List.length_append, List.size_toArray, List.length_cons, List.length_nil, Nat.zero_add, Int.cast_ofNat_Int, e9, ap_bA]
            with_reducible refine CallOk.of c7 rfl ?_
            simp (implicitDefEqProofs := false) (disch := omega) only [go_sem, simprocAttr, go_sem, Nat.le_refl, Int.toNat_natCast, Int.toNat_zero, Int.toNat_one, str_eq, sz_bA, tl_bA, encI_len, ↓ix_enc, decide_true, beq_self_eq_true, Bool.not_true, Bool.not_false, Tryd.results5, Delta.val, sliceLike, ap_sp, List.length_append, List.size_toArray, List.length_cons, List.length_nil, Nat.zero_add, Int.cast_ofNat_Int, e9, ap_bA]
            with_reducible refine CallOk.of c6 rfl ?_
            simp (implicitDefEqProofs := false) (disch := omega) only [go_sem, simprocAttr, go_sem, Nat.le_refl, Int.toNat_natCast, Int.toNat_zero, Int.toNat_one, str_eq, sz_bA, tl_bA, encI_len, ↓ix_enc, decide_true, beq_self_eq_true, Bool.not_true, Bool.not_false, Tryd.results5, Delta.val, sliceLike, ap_sp, List.length_append, List.size_toArray, List.length_cons, List.length_nil, Nat.zero_add, Int.cast_ofNat_Int, e9, ap_bA]
            first | done | omega
        · have c5 := parse_cmd (w ++ jT (pcs.take m')) (by omega)
          have hpart : parseC (w ++ jT (pcs.take m')) = .error ((w ++ jT (pcs.take m')).length, 1) := by
            by_cases hm : m' < ([] : List (List UInt8)).length ∨ m' = ([] : List (List UInt8)).length
            · have et : pcs.take m' = ([] : List (List UInt8)).take m' ++ ([] : List Int).map tOf := by rw [← hps, List.take_append_of_le_length (by omega)]; simp
              rw [et]
              refine parse_part ha (fun x hx => hnm x (List.mem_of_mem_take hx)) (fun n hn => by cases hn) ?_ ?_
              · rcases hm with hm | hm
                · exact .inl ⟨by rw [List.length_take]; omega, rfl⟩
                · exact .inr ⟨by rw [List.length_take]; omega, by simp only [List.length_nil]; omega⟩
              · rw [← et]; omega
            · have et : pcs.take m' = ([] : List (List UInt8)) ++ (ms.take (m' - ([] : List (List UInt8)).length)).map tOf := by rw [← hps, List.take_append, List.take_of_length_le (by omega), List.map_take]
              rw [et]
              refine parse_part ha hnm (fun n hn => hfit n (List.mem_of_mem_take hn)) (.inr ⟨rfl, by rw [List.length_take]; omega⟩) ?_
              · rw [← et]; omega
          rw [hpart] at c5
          unfold resP at c5
          simp only at c5
          simp (implicitDefEqProofs := false) (disch := omega) only [go_sem, simprocAttr, go_sem, Nat.le_refl, Int.toNat_natCast, Int.toNat_zero, Int.toNat_one, str_eq, sz_bA, tl_bA, encI_len, ↓ix_enc, decide_true, beq_self_eq_true, Bool.not_true, Bool.not_false, Tryd.results5, Delta.val, sliceLike, ap_sp, List.length_append, List.size_toArray, List.length_cons, List.length_nil, Nat.zero_add, Int.cast_ofNat_Int]
          with_reducible refine CallOk.of c5 rfl ?_
          simp (implicitDefEqProofs := false) (disch := omega) only [go_sem, simprocAttr, go_sem, Nat.le_refl, Int.toNat_natCast, Int.toNat_zero, Int.toNat_one, str_eq, sz_bA, tl_bA, encI_len, ↓ix_enc, decide_true, beq_self_eq_true, Bool.not_true, Bool.not_false, Tryd.results5, Delta.val, sliceLike, ap_sp, List.length_append, List.size_toArray, List.length_cons, List.length_nil, Nat.zero_add, Int.cast_ofNat_Int]
  | cons n0 nr =>
    rw [encB_cons]
    have hT : cut.tmod (1 + ((nr.length + 1 : Nat) : Int) + (ms.length : Int)) = (m' : Int) := hm'
    have hpl' : pcs.length = nr.length + 1 + ms.length := hpl
    have g3' : nr.length + 1 ≤ 5 := g3
    simp (implicitDefEqProofs := false) (disch := omega) only [go_sem, simprocAttr, go_sem, Nat.le_refl, Int.toNat_natCast, Int.toNat_zero, Int.toNat_one, str_eq, sz_bA, tl_bA, encI_len, ↓ix_enc, decide_true, beq_self_eq_true, Bool.not_true, Bool.not_false, Tryd.results5, Delta.val, sliceLike, ap_sp, List.length_append, List.size_toArray, List.length_cons, List.length_nil, Nat.zero_add, Int.cast_ofNat_Int, hT, hmk]
    have gq : fewB (w :: (n0 :: nr)) := fun s h => by rcases List.mem_cons.1 h with rfl | h; omega; have := g1 s h; omega
    refine p_loop (ι := { i : Nat // i ≤ mk }) (fun p => ⟨[(50, vI p.1), (49, vI mk), (7, vI mk), (6, vS (bA (accS w pcs p.1))), (5, .sl (encB (w :: (n0 :: nr)))), (2, .ptr 0 0)], [(0, .box 25 [vS (bA w), .sl (encB (n0 :: nr)), .sl (encI ms), vS (bA rt)])], [], 1, 0⟩) (fun p => mk - p.1) ⟨0, Nat.zero_le _⟩ ?_ ?_
    · have e0 : bA (accS w pcs 0) = ⟨#[]⟩ := rfl
      refine ⟨?_, ?_, ?_, ?_, ?_, ?_, ?_⟩ <;> simp only [go_sem, simprocAttr, decide_eq_true_eq, Int.natCast_zero, encB_cons, encB_nil, e0, hmk] <;> try first | omega | ((repeat' (first | exact And.intro rfl (by omega) | (refine And.intro ?_ ?_))) <;> first | rfl | omega | (congr 3; omega) | (congr 2; omega))
    · rintro ⟨i, hi⟩
      simp only
      have hal := accS_le w pcs i
      have hal2 := accS_le w pcs (i + 1)
      rw [List.length_append] at hal hal2
      by_cases hl : i < mk
      · by_cases h0 : i = 0
        · subst h0
          have e1 : bA (accS w pcs 0) ++ bA w = bA (accS w pcs 1) := by rw [ap_bA]; simp [accS, jT_nil]
          have hix : ∀ K : PV → Prop, ixP 1 0 K (.sl (encB (w :: (n0 :: nr)))) = K (.fp [vS (bA w)]) := fun K => ix_B (by decide) (by simp only [List.length_cons]; omega)
          simp (implicitDefEqProofs := false) (disch := omega) only [go_sem, simprocAttr, go_sem, Nat.le_refl, Int.toNat_natCast, Int.toNat_zero, Int.toNat_one, str_eq, sz_bA, tl_bA, encI_len, ↓ix_enc, decide_true, beq_self_eq_true, Bool.not_true, Bool.not_false, Tryd.results5, Delta.val, sliceLike, ap_sp, List.length_append, List.size_toArray, List.length_cons, List.length_nil, Nat.zero_add, Int.cast_ofNat_Int, ↓hix, e1]
          (repeat (refine And.intro (by omega) ?_))
          refine ⟨⟨0 + 1, hl⟩, by simp only; omega, ?_⟩
          refine ⟨?_, ?_, ?_, ?_, ?_, ?_, ?_⟩ <;> simp only [go_sem, simprocAttr, decide_eq_true_eq, Nat.zero_add, Int.natCast_one] <;> try first | omega | ((repeat' (first | exact And.intro rfl (by omega) | (refine And.intro ?_ ?_))) <;> first | rfl | omega | (congr 3; omega) | (congr 2; omega))
        · obtain ⟨j, rfl⟩ : ∃ j, i = j + 1 := ⟨i - 1, by omega⟩
          have hst := accS_succ (w := w) (l := pcs) (j := j) (by omega)
          have hsl := congrArg List.length hst
          simp only [List.length_append, List.length_cons, List.length_nil] at hsl
          have hal3 : (accS w pcs (j + 2)).length ≤ w.length + (jT pcs).length := hal2
          by_cases hn : j < (n0 :: nr).length
          · have hix : ∀ K : PV → Prop, ixP 1 ((j + 1 : Nat) : Int) K (.sl (encB (w :: n0 :: nr))) = K (.fp [vS (bA ((w :: (n0 :: nr)).getD (j + 1) []))]) := fun K => by
              have := ix_B (a := w :: (n0 :: nr)) (i := ((j + 1 : Nat) : Int)) (K := K) (by omega) (by simp only [List.length_cons] at hn ⊢; omega)
              rwa [Int.toNat_natCast] at this
            have eg : (w :: (n0 :: nr)).getD (j + 1) [] = pcs.getD j [] := by rw [List.getD_cons_succ, ← hps, List.getD_eq_getElem?_getD, List.getD_eq_getElem?_getD, List.getElem?_append_left hn]
            have e1 : bA (accS w pcs (j + 1) ++ [32]) ++ bA (pcs.getD j []) = bA (accS w pcs (j + 1 + 1)) := by rw [ap_bA, hst]
            rw [eg] at hix
            simp (implicitDefEqProofs := false) (disch := omega) only [go_sem, simprocAttr, go_sem, Nat.le_refl, Int.toNat_natCast, Int.toNat_zero, Int.toNat_one, str_eq, sz_bA, tl_bA, encI_len, ↓ix_enc, decide_true, beq_self_eq_true, Bool.not_true, Bool.not_false, Tryd.results5, Delta.val, sliceLike, ap_sp, List.length_append, List.size_toArray, List.length_cons, List.length_nil, Nat.zero_add, Int.cast_ofNat_Int, ↓hix, e1]
            (repeat (refine And.intro (by omega) ?_))
            refine ⟨⟨j + 1 + 1, hl⟩, by simp only; omega, ?_⟩
            refine ⟨?_, ?_, ?_, ?_, ?_, ?_, ?_⟩ <;> simp only [go_sem, simprocAttr, decide_eq_true_eq, Int.natCast_add, Int.natCast_one] <;> try first | omega | ((repeat' (first | exact And.intro rfl (by omega) | (refine And.intro ?_ ?_))) <;> first | rfl | omega | (congr 3; omega) | (congr 2; omega))
          · have hf := getD_fits hfit (j - (n0 :: nr).length)
            have c2 := of_rep (ms.getD (j - (n0 :: nr).length) 0) hf
            have c3 := rtextB_ok (ms.getD (j - (n0 :: nr).length) 0) hf
            have eg : tOf (ms.getD (j - (n0 :: nr).length) 0) = pcs.getD j [] := by
              rw [← hps, List.getD_eq_getElem?_getD, List.getD_eq_getElem?_getD, List.getElem?_append_right (by omega), List.getElem?_map, List.getElem?_eq_getElem (by omega)]; rfl
            rw [eg] at c3
            have ei : (((j + 1 : Nat) : Int) - ((nr.length + 1 + 1 : Nat) : Int)).toNat = j - (n0 :: nr).length := by simp only [List.length_cons]; omega
            have e1 : bA (accS w pcs (j + 1) ++ [32]) ++ bA (pcs.getD j []) = bA (accS w pcs (j + 1 + 1)) := by rw [ap_bA, hst]
            simp (implicitDefEqProofs := false) (disch := omega) only [go_sem, simprocAttr, go_sem, Nat.le_refl, Int.toNat_natCast, Int.toNat_zero, Int.toNat_one, str_eq, sz_bA, tl_bA, encI_len, ↓ix_enc, decide_true, beq_self_eq_true, Bool.not_true, Bool.not_false, Tryd.results5, Delta.val, sliceLike, ap_sp, List.length_append, List.size_toArray, List.length_cons, List.length_nil, Nat.zero_add, Int.cast_ofNat_Int, e1, ei]
            (repeat (refine And.intro (by omega) ?_))
            with_reducible refine CallOk.of c2 rfl ?_
            simp (implicitDefEqProofs := false) (disch := omega) only [go_sem, simprocAttr, go_sem, Nat.le_refl, Int.toNat_natCast, Int.toNat_zero, Int.toNat_one, str_eq, sz_bA, tl_bA, encI_len, ↓ix_enc, decide_true, beq_self_eq_true, Bool.not_true, Bool.not_false, Tryd.results5, Delta.val, sliceLike, ap_sp, List.length_append, List.size_toArray, List.length_cons, List.length_nil, Nat.zero_add, Int.cast_ofNat_Int, e1, ei]
            with_reducible refine CallOk.of c3 rfl ?_
            simp (implicitDefEqProofs := false) (disch := omega) only [go_sem, simprocAttr, go_sem, Nat.le_refl, Int.toNat_natCast, Int.toNat_zero, Int.toNat_one, str_eq, sz_bA, tl_bA, encI_len, ↓ix_enc, decide_true, beq_self_eq_true, Bool.not_true, Bool.not_false, Tryd.results5, Delta.val, sliceLike, ap_sp, List.length_append, List.size_toArray, List.length_cons, List.length_nil, Nat.zero_add, Int.cast_ofNat_Int, e1, ei]
            (repeat (refine And.intro (by omega) ?_))
            refine ⟨⟨j + 1 + 1, hl⟩, by simp only; omega, ?_⟩
            refine ⟨?_, ?_, ?_, ?_, ?_, ?_, ?_⟩ <;> simp only [go_sem, simprocAttr, decide_eq_true_eq, Int.natCast_add, Int.natCast_one] <;> try first | omega | ((repeat' (first | exact And.intro rfl (by omega) | (refine And.intro ?_ ?_))) <;> first | rfl | omega | (congr 3; omega) | (congr 2; omega))
      · have hi' : i = mk := by omega
        subst hi'
        have eacc : accS w pcs (m' + 1) = w ++ jT (pcs.take m') := rfl
        rw [hmk1, eacc]
        have htk : (w ++ jT (pcs.take m')).length ≤ 1000 := by
          have := accS_le w pcs (m' + 1)
          rw [eacc] at this
          simp only [List.length_append] at this ⊢
          omega
        by_cases hfull : m' = pcs.length
        · rw [hfull, List.take_length]
          have p1 := parse_full (r := r) ha hnm hfit [] (.inl rfl) (by rw [hps, List.append_nil, List.length_append]; omega)
          have p2 := parse_full (r := r) ha hnm hfit [32, 109, 111, 114, 101] (.inr ⟨32, _, rfl, by decide⟩) (by rw [hps, List.length_append, List.length_append]; simp; omega)
          rw [hps] at p1 p2
          rw [List.append_nil] at p1
          have c5 := parse_cmd (w ++ jT pcs) (by rw [List.length_append]; omega)
          have c6 := parse_cmd (w ++ jT pcs ++ [32, 109, 111, 114, 101]) (by rw [List.length_append, List.length_append]; simp; omega)
          have c7 := asks_ok w
          rw [p1] at c5
          rw [p2] at c6
          rw [ha] at c7
          unfold askP at c7
          unfold pRest resP cmP at c5
          rw [if_neg (fun h => h.2 rfl)] at c5
          unfold pRest resP cmP at c6
          have hmore : skp [32, 109, 111, 114, 101] = [109, 111, 114, 101] := rfl
          rw [hmore] at c6
          have hpos : (ps (w ++ jT pcs ++ [32, 109, 111, 114, 101]) [109, 111, 114, 101] : Int) = ((w ++ jT pcs).length : Int) + 1 := by
            unfold ps
            rw [List.length_append]
            simp only [List.length_cons, List.length_nil]
            omega
          simp only at c5 c7
          have e9 : (⟨#[32, 109, 111, 114, 101]⟩ : ByteArray) = bA [32, 109, 111, 114, 101] := rfl
          cases r with
          | true =>
            rw [if_neg (fun h => by cases h.1)] at c6
            simp only at c6
            try rw [hpos] at c6
            simp (implicitDefEqProofs := false) (disch := omega) only [go_sem, simprocAttr, go_sem, Nat.le_refl, Int.toNat_natCast, Int.toNat_zero, Int.toNat_one, str_eq, sz_bA, tl_bA, encI_len, ↓ix_enc, decide_true, beq_self_eq_true, Bool.not_true, Bool.not_false, Tryd.results5, Delta.val, sliceLike, ap_sp, List.length_append, List.size_toArray, List.length_cons, List.length_nil, Nat.zero_add, Int.cast_ofNat_Int, e9, ap_bA]
            with_reducible refine CallOk.of c5 rfl ?_
            simp (implicitDefEqProofs := false) (disch := omega) only [go_sem, simprocAttr, go_sem, Nat.le_refl, Int.toNat_natCast, Int.toNat_zero, Int.toNat_one, str_eq, sz_bA, tl_bA, encI_len, ↓ix_enc, decide_true, beq_self_eq_true, Bool.not_true, Bool.not_false, Tryd.results5, Delta.val, sliceLike, ap_sp, List.length_append, List.size_toArray, List.length_cons, List.length_nil, Nat.zero_add, Int.cast_ofNat_Int, e9, ap_bA]
            with_reducible refine CallOk.of c7 rfl ?_
            simp (implicitDefEqProofs := false) (disch := omega) only [go_sem, simprocAttr, go_sem, Nat.le_refl, Int.toNat_natCast, Int.toNat_zero, Int.toNat_one, str_eq, sz_bA, tl_bA, encI_len, ↓ix_enc, decide_true, beq_self_eq_true, Bool.not_true, Bool.not_false, Tryd.results5, Delta.val, sliceLike, ap_sp, List.length_append, List.size_toArray, List.length_cons, List.length_nil, Nat.zero_add, Int.cast_ofNat_Int, e9, ap_bA]
            with_reducible refine CallOk.of c6 rfl ?_
            simp (implicitDefEqProofs := false) (disch := omega) only [go_sem, simprocAttr, go_sem, Nat.le_refl, Int.toNat_natCast, Int.toNat_zero, Int.toNat_one, str_eq, sz_bA, tl_bA, encI_len, ↓ix_enc, decide_true, beq_self_eq_true, Bool.not_true, Bool.not_false, Tryd.results5, Delta.val, sliceLike, ap_sp, List.length_append, List.size_toArray, List.length_cons, List.length_nil, Nat.zero_add, Int.cast_ofNat_Int, e9, ap_bA]
            first | done | omega
          | false =>
            rw [if_pos ⟨rfl, by decide⟩] at c6
            simp only at c6
            try rw [hpos] at c6
            simp (implicitDefEqProofs := false) (disch := omega) only [go_sem, simprocAttr, go_sem, Nat.le_refl, Int.toNat_natCast, Int.toNat_zero, Int.toNat_one, str_eq, sz_bA, tl_bA, encI_len, ↓ix_enc, decide_true, beq_self_eq_true, Bool.not_true, Bool.not_false, Tryd.results5, Delta.val, sliceLike, ap_sp, List.length_append, List.size_toArray, List.length_cons, List.length_nil, Nat.zero_add, Int.cast_ofNat_Int, e9, ap_bA]
            with_reducible refine CallOk.of c5 rfl ?_
            simp (implicitDefEqProofs := false) (disch := omega) only [go_sem, simprocAttr, go_sem, Nat.le_refl, Int.toNat_natCast, Int.toNat_zero, Int.toNat_one, str_eq, sz_bA, tl_bA, encI_len, ↓ix_enc, decide_true, beq_self_eq_true, Bool.not_true, Bool.not_false, Tryd.results5, Delta.val, sliceLike, ap_sp, List.length_append, List.size_toArray, List.length_cons, List.length_nil, Nat.zero_add, Int.cast_ofNat_Int, e9, ap_bA]
            with_reducible refine CallOk.of c7 rfl ?_
            simp (implicitDefEqProofs := false) (disch := omega) only [go_sem, simprocAttr, go_sem, Nat.le_refl, Int.toNat_natCast, Int.toNat_zero, Int.toNat_one, str_eq, sz_bA, tl_bA, encI_len, ↓ix_enc, decide_true, beq_self_eq_true, Bool.not_true, Bool.not_false, Tryd.results5, Delta.val, sliceLike, ap_sp, List.length_append, List.size_toArray, List.length_cons, List.length_nil, Nat.zero_add, Int.cast_ofNat_Int, e9, ap_bA]
            with_reducible refine CallOk.of c6 rfl ?_
            simp (implicitDefEqProofs := false) (disch := omega) only [go_sem, simprocAttr, go_sem, Nat.le_refl, Int.toNat_natCast, Int.toNat_zero, Int.toNat_one, str_eq, sz_bA, tl_bA, encI_len, ↓ix_enc, decide_true, beq_self_eq_true, Bool.not_true, Bool.not_false, Tryd.results5, Delta.val, sliceLike, ap_sp, List.length_append, List.size_toArray, List.length_cons, List.length_nil, Nat.zero_add, Int.cast_ofNat_Int, e9, ap_bA]
            first | done | omega
        · have c5 := parse_cmd (w ++ jT (pcs.take m')) (by omega)
          have hpart : parseC (w ++ jT (pcs.take m')) = .error ((w ++ jT (pcs.take m')).length, 1) := by
            by_cases hm : m' < (n0 :: nr).length ∨ m' = (n0 :: nr).length
            · have et : pcs.take m' = (n0 :: nr).take m' ++ ([] : List Int).map tOf := by rw [← hps, List.take_append_of_le_length (by omega)]; simp
              rw [et]
              refine parse_part ha (fun x hx => hnm x (List.mem_of_mem_take hx)) (fun n hn => by cases hn) ?_ ?_
              · rcases hm with hm | hm
                · exact .inl ⟨by rw [List.length_take]; omega, rfl⟩
                · exact .inr ⟨by rw [List.length_take]; omega, by simp only [List.length_nil]; omega⟩
              · rw [← et]; omega
            · have et : pcs.take m' = (n0 :: nr) ++ (ms.take (m' - (n0 :: nr).length)).map tOf := by rw [← hps, List.take_append, List.take_of_length_le (by omega), List.map_take]
              rw [et]
              refine parse_part ha hnm (fun n hn => hfit n (List.mem_of_mem_take hn)) (.inr ⟨rfl, by rw [List.length_take]; omega⟩) ?_
              · rw [← et]; omega
          rw [hpart] at c5
          unfold resP at c5
          simp only at c5
          simp (implicitDefEqProofs := false) (disch := omega) only [go_sem, simprocAttr, go_sem, Nat.le_refl, Int.toNat_natCast, Int.toNat_zero, Int.toNat_one, str_eq, sz_bA, tl_bA, encI_len, ↓ix_enc, decide_true, beq_self_eq_true, Bool.not_true, Bool.not_false, Tryd.results5, Delta.val, sliceLike, ap_sp, List.length_append, List.size_toArray, List.length_cons, List.length_nil, Nat.zero_add, Int.cast_ofNat_Int]
          with_reducible refine CallOk.of c5 rfl ?_
          simp (implicitDefEqProofs := false) (disch := omega) only [go_sem, simprocAttr, go_sem, Nat.le_refl, Int.toNat_natCast, Int.toNat_zero, Int.toNat_one, str_eq, sz_bA, tl_bA, encI_len, ↓ix_enc, decide_true, beq_self_eq_true, Bool.not_true, Bool.not_false, Tryd.results5, Delta.val, sliceLike, ap_sp, List.length_append, List.size_toArray, List.length_cons, List.length_nil, Nat.zero_add, Int.cast_ofNat_Int]
end Go.Proofs.YtegehnojbfedlaaDoor
