/-
  Contracts and plain laws on the way to the statement; each says its own conditions.
-/
import Derived.Test.YtegehnojbfedlaaDoorGA13
import Derived.Test.YtegehnojbfedlaaDoorGA4
import Derived.ChangeSlices
import Derived.ChangeArms
import Derived.OpenShut
section
/-
  Chapter 25: the same; awake; the law Parses.
-/
open Go Go.Proofs Go.Pw Go.RowKit
namespace Go.Proofs.YtegehnojbfedlaaDoor
set_option maxRecDepth 4000
set_option linter.unusedVariables false
set_option linter.unusedSimpArgs false
theorem conv_ok (c : Cm) : Ok Tryd.prog 16 [cmP c] (cmP c) := by
  unfold cmP
  refine Ok.of_pwp (by kernel_rfl) Tryd.func16 rfl (by kernel_rfl) (by kernel_rfl) ?_
  simp (implicitDefEqProofs := false) (disch := omega) only [go_sem, simprocAttr, go_sem, Nat.le_refl, Int.toNat_natCast, Int.toNat_zero, Int.toNat_one, str_eq, sz_bA, tl_bA, encI_len, ↓ix_enc, decide_true, Tryd.results16]
  try rfl
set_option maxHeartbeats 4000000 in
theorem same_self (c : Cm) (h1 : c.names.length ≤ 1000000) (h2 : c.nums.length ≤ 1000000) : Ok Tryd.prog 15 [cmP c, cmP c] (vB true) := by
  obtain ⟨w, ns, ms, rt⟩ := c
  simp only at h1 h2
  unfold cmP
  refine Ok.of_pwp (by kernel_rfl) Tryd.func15 rfl (by kernel_rfl) (by kernel_rfl) ?_
  simp (implicitDefEqProofs := false) (disch := omega) only [go_sem, simprocAttr, go_sem, Nat.le_refl, Int.toNat_natCast, Int.toNat_zero, Int.toNat_one, str_eq, sz_bA, tl_bA, encI_len, ↓ix_enc, decide_true, Tryd.results15]
  refine p_loop (ι := { i : Nat // i ≤ ns.length }) (fun p => ⟨[(40, vI p.1), (39, vI ns.length), (3, .ptr 1 0), (2, .ptr 0 0)], [(1, .box 25 [vS (bA w), .sl (encB ns), .sl (encI ms), vS (bA rt)]), (0, .box 25 [vS (bA w), .sl (encB ns), .sl (encI ms), vS (bA rt)])], [], 2, 0⟩) (fun p => ns.length - p.1) ⟨0, Nat.zero_le _⟩ ?_ ?_
  · refine ⟨?_, ?_, ?_, ?_, ?_, ?_, ?_⟩ <;> simp only [go_sem, simprocAttr, decide_eq_true_eq, Int.natCast_zero] <;> try first | omega | ((repeat' (first | exact And.intro rfl (by omega) | (refine And.intro ?_ ?_))) <;> first | rfl | omega | (congr 3; omega) | (congr 2; omega))
  · rintro ⟨i, hi⟩
    simp only
    by_cases hl : i < ns.length
    · simp (implicitDefEqProofs := false) (disch := omega) only [go_sem, simprocAttr, go_sem, Nat.le_refl, Int.toNat_natCast, Int.toNat_zero, Int.toNat_one, str_eq, sz_bA, tl_bA, encI_len, ↓ix_enc, decide_true, Tryd.results15]
      refine ⟨⟨i + 1, hl⟩, by simp only; omega, ?_⟩
      refine ⟨?_, ?_, ?_, ?_, ?_, ?_, ?_⟩ <;> simp only [go_sem, simprocAttr, decide_eq_true_eq, Int.natCast_add, Int.natCast_one] <;> try first | omega | ((repeat' (first | exact And.intro rfl (by omega) | (refine And.intro ?_ ?_))) <;> first | rfl | omega | (congr 3; omega) | (congr 2; omega))
    · simp (implicitDefEqProofs := false) (disch := omega) only [go_sem, simprocAttr, go_sem, Nat.le_refl, Int.toNat_natCast, Int.toNat_zero, Int.toNat_one, str_eq, sz_bA, tl_bA, encI_len, ↓ix_enc, decide_true, Tryd.results15]
      refine p_loop (ι := { i : Nat // i ≤ ms.length }) (fun p => ⟨[(58, vI p.1), (57, vI ms.length), (3, .ptr 1 0), (2, .ptr 0 0)], [(1, .box 25 [vS (bA w), .sl (encB ns), .sl (encI ms), vS (bA rt)]), (0, .box 25 [vS (bA w), .sl (encB ns), .sl (encI ms), vS (bA rt)])], [], 2, 0⟩) (fun p => ms.length - p.1) ⟨0, Nat.zero_le _⟩ ?_ ?_
      · refine ⟨?_, ?_, ?_, ?_, ?_, ?_, ?_⟩ <;> simp only [go_sem, simprocAttr, decide_eq_true_eq, Int.natCast_zero] <;> try first | omega | ((repeat' (first | exact And.intro rfl (by omega) | (refine And.intro ?_ ?_))) <;> first | rfl | omega | (congr 3; omega) | (congr 2; omega))
      · rintro ⟨j, hj⟩
        simp only
        by_cases hk : j < ms.length
        · simp (implicitDefEqProofs := false) (disch := omega) only [go_sem, simprocAttr, go_sem, Nat.le_refl, Int.toNat_natCast, Int.toNat_zero, Int.toNat_one, str_eq, sz_bA, tl_bA, encI_len, ↓ix_enc, decide_true, Tryd.results15]
          refine ⟨⟨j + 1, hk⟩, by simp only; omega, ?_⟩
          refine ⟨?_, ?_, ?_, ?_, ?_, ?_, ?_⟩ <;> simp only [go_sem, simprocAttr, decide_eq_true_eq, Int.natCast_add, Int.natCast_one] <;> try first | omega | ((repeat' (first | exact And.intro rfl (by omega) | (refine And.intro ?_ ?_))) <;> first | rfl | omega | (congr 3; omega) | (congr 2; omega))
        · simp (implicitDefEqProofs := false) (disch := omega) only [go_sem, simprocAttr, go_sem, Nat.le_refl, Int.toNat_natCast, Int.toNat_zero, Int.toNat_one, str_eq, sz_bA, tl_bA, encI_len, ↓ix_enc, decide_true, Tryd.results15]
theorem nil_cm : cmP ⟨[], [], [], []⟩ = .agg [vS (bA []), .sl [], .sl [], vS (bA [])] := rfl
theorem awake_parse : parseC [99, 104, 101, 99, 107, 32, 120, 32, 97, 32, 49, 48, 48] = .ok ⟨[99, 104, 101, 99, 107], [[120], [97]], [100], []⟩ := by kernel_rfl
theorem skp_idem (l : List UInt8) : skp (skp l) = skp l := by
  cases h : skp l with
  | nil => rfl
  | cons b r =>
    apply skp_cons.2
    unfold skp at h
    have := List.head?_dropWhile_not isb l
    rw [h] at this
    simpa using this
theorem pNames_good {S : List UInt8} : ∀ {k : Nat} {L : List UInt8} {q : List (List UInt8) × List UInt8}, pNames S k L = .ok q → q.1.length = k ∧ q.1.all nameL = true ∧ q.2 <:+ L ∧ ∀ x ∈ q.1, x.length ≤ L.length
  | 0, L, q, h => by
    cases h
    exact ⟨rfl, rfl, List.suffix_refl _, fun x hx => by cases hx⟩
  | k + 1, L, q, h => by
    rw [pNames] at h
    split at h
    · rename_i hn
      cases hp : pNames S k (rst L) with
      | error e => rw [hp] at h; cases h
      | ok q' =>
        rw [hp] at h
        cases h
        have ih := pNames_good hp
        have hr := (rst_suf L).length_le
        refine ⟨by simp [ih.1], by simp [hn, ih.2.1], ih.2.2.1.trans (rst_suf L), fun x hx => ?_⟩
        rcases List.mem_cons.1 hx with rfl | hx
        · exact wrd_len L
        · have := ih.2.2.2 x hx; omega
    · cases h
theorem pNums_good {S : List UInt8} : ∀ {k : Nat} {L : List UInt8} {q : List Int × List UInt8}, pNums S k L = .ok q → q.1.length = k ∧ q.2 <:+ L
  | 0, L, q, h => by
    cases h
    exact ⟨rfl, List.suffix_refl _⟩
  | k + 1, L, q, h => by
    rw [pNums] at h
    split at h
    · cases hp : pNums S k (rst L) with
      | error e => rw [hp] at h; cases h
      | ok q' =>
        rw [hp] at h
        cases h
        have ih := pNums_good hp
        exact ⟨by simp [ih.1], ih.2.trans (rst_suf L)⟩
    · cases h
theorem parse_good {S : List UInt8} {c : Cm} (h : parseC S = .ok c) : goodC c = true ∧ c.names.length ≤ 3 ∧ c.nums.length ≤ 3 ∧ c.rest.length ≤ S.length ∧ ∀ x ∈ c.names, x.length ≤ S.length := by
  unfold parseC at h
  split at h
  · cases h
  split at h
  · cases h
  split at h
  · cases h
  · rename_i a b r ha
    have hab := asks_le ha
    unfold pAll at h
    split at h
    · cases h
    · rename_i ns M hn
      split at h
      · cases h
      · rename_i ms Q hm
        have g1 := pNames_good hn
        have g2 := pNums_good hm
        have hr := (rst_suf S).length_le
        have hM := g1.2.2.1.length_le
        have hQ := g2.2.length_le
        have hsk := (skp_suf Q).length_le
        unfold pRest at h
        split at h
        · cases h
        · rename_i hrr
          cases h
          simp only at g1 g2
          refine ⟨?_, by simp only; omega, by simp only; omega, by simp only; simp only at hM hQ; omega, fun x hx => by have := g1.2.2.2 x hx; omega⟩
          unfold goodC
          simp only
          rw [ha]
          simp only [g1.1, g2.1, g1.2.1, skp_idem, decide_true, Bool.true_and, Bool.and_true, Bool.or_eq_true, decide_eq_true_eq]
          cases r with
          | true => exact .inl rfl
          | false => exact .inr (by apply Decidable.byContradiction; intro k; exact hrr ⟨rfl, k⟩)
theorem pNames_err {S : List UInt8} : ∀ {k : Nat} {L : List UInt8} {e : Nat × Int}, pNames S k L = .error e → e.2 ≠ 0
  | 0, L, e, h => by cases h
  | k + 1, L, e, h => by
    rw [pNames] at h
    split at h
    · cases hp : pNames S k (rst L) with
      | error e => rw [hp] at h; cases h; exact pNames_err hp
      | ok q' => rw [hp] at h; cases h
    · cases h; show (1 : Int) ≠ 0; decide
theorem pNums_err {S : List UInt8} : ∀ {k : Nat} {L : List UInt8} {e : Nat × Int}, pNums S k L = .error e → e.2 ≠ 0
  | 0, L, e, h => by cases h
  | k + 1, L, e, h => by
    rw [pNums] at h
    split at h
    · cases hp : pNums S k (rst L) with
      | error e => rw [hp] at h; cases h; exact pNums_err hp
      | ok q' => rw [hp] at h; cases h
    · rename_i hn
      cases h; exact hn
theorem parse_err {S : List UInt8} {p : Nat} {e : Int} (h : parseC S = .error (p, e)) : e ≠ 0 := by
  unfold parseC at h
  split at h
  · cases h; decide
  split at h
  · cases h; decide
  split at h
  · cases h; decide
  · unfold pAll at h
    split at h
    · rename_i e' hn
      cases h
      exact pNames_err hn
    · split at h
      · rename_i e' hn
        cases h
        exact pNums_err hn
      · unfold pRest at h
        split at h
        · cases h; decide
        · cases h
theorem awake_ok : Ok Tryd.prog 9 [] (vB true) := by
  have c0 := parse_cmd [99, 104, 101, 99, 107, 32, 120, 32, 97, 32, 49, 48, 48] (by decide)
  rw [awake_parse] at c0
  unfold resP cmP at c0
  simp only at c0
  have c0' : Ok Tryd.prog 14 [vS ⟨#[99, 104, 101, 99, 107, 32, 120, 32, 97, 32, 49, 48, 48]⟩] _ := c0
  have hix : ∀ K : PV → Prop, ixP 1 0 K (.sl (encI [100])) = K (.fp [vI 100]) := fun K => ix_enc (a := [100]) (by decide) (by decide)
  refine Ok.of_pwp (by kernel_rfl) Tryd.func9 rfl (by kernel_rfl) (by kernel_rfl) ?_
  simp (implicitDefEqProofs := false) (disch := omega) only [go_sem, simprocAttr, go_sem, Nat.le_refl, Int.toNat_natCast, Int.toNat_zero, Int.toNat_one, str_eq, sz_bA, tl_bA, encI_len, ↓ix_enc, decide_true, ↓hix, Tryd.results9, List.length_cons, List.length_nil, Nat.zero_add, List.getD_cons_zero, Nat.reduceAdd, Int.cast_ofNat_Int]
  with_reducible refine CallOk.of c0' rfl ?_
  simp (implicitDefEqProofs := false) (disch := omega) only [go_sem, simprocAttr, go_sem, Nat.le_refl, Int.toNat_natCast, Int.toNat_zero, Int.toNat_one, str_eq, sz_bA, tl_bA, encI_len, ↓ix_enc, decide_true, ↓hix, Tryd.results9, List.length_cons, List.length_nil, Nat.zero_add, List.getD_cons_zero, Nat.reduceAdd, Int.cast_ofNat_Int]
theorem parses_ok (s : ByteArray) (hz : s.size ≤ 140737488351232) : Ok Tryd.prog 7 [vS s] (vB true) := by
  have c0 := awake_ok
  rw [← bA_self s] at hz ⊢
  generalize s.data.toList = S at *
  rw [sz_bA] at hz
  refine Ok.of_pwp (by kernel_rfl) Tryd.func7 rfl (by kernel_rfl) (by kernel_rfl) ?_
  by_cases hs : 1000 < S.length
  · simp (implicitDefEqProofs := false) (disch := omega) only [go_sem, simprocAttr, go_sem, Nat.le_refl, Int.toNat_natCast, Int.toNat_zero, Int.toNat_one, str_eq, sz_bA, tl_bA, encI_len, ↓ix_enc, decide_true, Tryd.results7]
    with_reducible refine CallOk.of c0 rfl ?_
    simp (implicitDefEqProofs := false) (disch := omega) only [go_sem, simprocAttr, go_sem, Nat.le_refl, Int.toNat_natCast, Int.toNat_zero, Int.toNat_one, str_eq, sz_bA, tl_bA, encI_len, ↓ix_enc, decide_true, Tryd.results7]
    with_reducible refine CallOk.of c0 rfl ?_
    simp (implicitDefEqProofs := false) (disch := omega) only [go_sem, simprocAttr, go_sem, Nat.le_refl, Int.toNat_natCast, Int.toNat_zero, Int.toNat_one, str_eq, sz_bA, tl_bA, encI_len, ↓ix_enc, decide_true, Tryd.results7]
  have c1 := parse_cmd S (by omega)
  have c2 := parse_ref S (by omega)
  simp (implicitDefEqProofs := false) (disch := omega) only [go_sem, simprocAttr, go_sem, Nat.le_refl, Int.toNat_natCast, Int.toNat_zero, Int.toNat_one, str_eq, sz_bA, tl_bA, encI_len, ↓ix_enc, decide_true, Tryd.results7]
  with_reducible refine CallOk.of c0 rfl ?_
  simp (implicitDefEqProofs := false) (disch := omega) only [go_sem, simprocAttr, go_sem, Nat.le_refl, Int.toNat_natCast, Int.toNat_zero, Int.toNat_one, str_eq, sz_bA, tl_bA, encI_len, ↓ix_enc, decide_true, Tryd.results7]
  with_reducible refine CallOk.of c1 rfl ?_
  cases hp : parseC S with
  | ok c =>
    have hg := parse_good hp
    have c3 := good_ok c (by omega) (by omega) (fun x hx => by have := hg.2.2.2.2 x hx; omega)
    rw [hg.1] at c3
    have c4 := same_self c (by omega) (by omega)
    have c5 := conv_ok c
    rw [hp] at c2
    unfold resP cmP at *
    simp only at c2 c3 c4 c5 ⊢
    simp (implicitDefEqProofs := false) (disch := omega) only [go_sem, simprocAttr, go_sem, Nat.le_refl, Int.toNat_natCast, Int.toNat_zero, Int.toNat_one, str_eq, sz_bA, tl_bA, encI_len, ↓ix_enc, decide_true, Tryd.results7]
    with_reducible refine CallOk.of c2 rfl ?_
    simp (implicitDefEqProofs := false) (disch := omega) only [go_sem, simprocAttr, go_sem, Nat.le_refl, Int.toNat_natCast, Int.toNat_zero, Int.toNat_one, str_eq, sz_bA, tl_bA, encI_len, ↓ix_enc, decide_true, Tryd.results7]
    with_reducible refine CallOk.of c5 rfl ?_
    simp (implicitDefEqProofs := false) (disch := omega) only [go_sem, simprocAttr, go_sem, Nat.le_refl, Int.toNat_natCast, Int.toNat_zero, Int.toNat_one, str_eq, sz_bA, tl_bA, encI_len, ↓ix_enc, decide_true, Tryd.results7]
    with_reducible refine CallOk.of c4 rfl ?_
    simp (implicitDefEqProofs := false) (disch := omega) only [go_sem, simprocAttr, go_sem, Nat.le_refl, Int.toNat_natCast, Int.toNat_zero, Int.toNat_one, str_eq, sz_bA, tl_bA, encI_len, ↓ix_enc, decide_true, Tryd.results7]
    with_reducible refine CallOk.of c3 rfl ?_
    simp (implicitDefEqProofs := false) (disch := omega) only [go_sem, simprocAttr, go_sem, Nat.le_refl, Int.toNat_natCast, Int.toNat_zero, Int.toNat_one, str_eq, sz_bA, tl_bA, encI_len, ↓ix_enc, decide_true, Tryd.results7]
  | error e =>
    obtain ⟨p, e⟩ := e
    have c4 := same_self ⟨[], [], [], []⟩ (by decide) (by decide)
    have c5 := conv_ok ⟨[], [], [], []⟩
    have he : e ≠ 0 := parse_err hp
    rw [hp] at c2
    rw [nil_cm] at c4 c5
    unfold resP at *
    simp only at c2 c4 c5 ⊢
    simp (implicitDefEqProofs := false) (disch := omega) only [go_sem, simprocAttr, go_sem, Nat.le_refl, Int.toNat_natCast, Int.toNat_zero, Int.toNat_one, str_eq, sz_bA, tl_bA, encI_len, ↓ix_enc, decide_true, Tryd.results7, he]
    with_reducible refine CallOk.of c2 rfl ?_
    simp (implicitDefEqProofs := false) (disch := omega) only [go_sem, simprocAttr, go_sem, Nat.le_refl, Int.toNat_natCast, Int.toNat_zero, Int.toNat_one, str_eq, sz_bA, tl_bA, encI_len, ↓ix_enc, decide_true, Tryd.results7, he]
    with_reducible refine CallOk.of c5 rfl ?_
    simp (implicitDefEqProofs := false) (disch := omega) only [go_sem, simprocAttr, go_sem, Nat.le_refl, Int.toNat_natCast, Int.toNat_zero, Int.toNat_one, str_eq, sz_bA, tl_bA, encI_len, ↓ix_enc, decide_true, Tryd.results7, he]
    with_reducible refine CallOk.of c4 rfl ?_
    simp (implicitDefEqProofs := false) (disch := omega) only [go_sem, simprocAttr, go_sem, Nat.le_refl, Int.toNat_natCast, Int.toNat_zero, Int.toNat_one, str_eq, sz_bA, tl_bA, encI_len, ↓ix_enc, decide_true, Tryd.results7, he]
end Go.Proofs.YtegehnojbfedlaaDoor

end
section
/-
  How a law's arguments read: numbers, truths, texts, slices and structs of such.
-/
namespace Go.Pw
open Go Go.RowKit
set_option linter.unusedVariables false
set_option linter.unusedSimpArgs false
/-- Cells read as these. -/
def CellsRep (w : World) (cs : List Value) (ps : List PV) : Prop := cs.length = ps.length ∧ ∀ (i : Nat) (c : Value) (p : PV), cs[i]? = some c → ps[i]? = some p → RepF (memCells w) c p
section
variable {H : Type} {en : TypeId × Value → H} {P : Program} {w : World} {base : Nat} {spare : Nat → Bool} {held : Bool}
/-- What lies in memory at a type reads as a datum. -/
def Rd {H : Type} (en : TypeId × Value → H) (P : Program) (w : World) (base : Nat) (spare : Nat → Bool) (held : Bool) (t : TypeId) {α : Type} (e : α → List PV) (ok : α → Prop) : Prop :=
  ∀ (fuel : Nat) (cs : List Value) (x : DataW H × List MemPlace), DataW.trod en P w base spare held fuel t cs = some x → ∃ a, ok a ∧ CellsRep w cs (e a)
theorem CellsRep.one {c : Value} {p : PV} (h : RepF (memCells w) c p) : CellsRep w [c] [p] :=
  ⟨rfl, fun i c' p' h1 h2 => by
    cases i with
    | zero => simp at h1 h2; subst h1 h2; exact h
    | succ i => simp at h1⟩
theorem Rd.int {t : TypeId} {k : IntKind} (ht : P.underlying t = some (.int k)) : Rd en P w base spare held t (fun n : Int => [.val (.int k n)]) (fun n => (Lit.int k n).wf = true) := fun fuel cs x h => by
  obtain ⟨n, rfl, _, hw⟩ := DataW.trod_int ht h
  exact ⟨n, hw, .one (.val rfl)⟩
theorem Rd.string {t : TypeId} (ht : P.underlying t = some .string) : Rd en P w base spare held t (fun s : ByteArray => [vS s]) (fun s => s.size ≤ maxLen) := fun fuel cs x h => by
  obtain ⟨n, rfl, _, hw⟩ := DataW.trod_string ht h
  exact ⟨n, hw, .one (.val rfl)⟩
theorem Rd.map {t : TypeId} {α β : Type} {e : α → List PV} {ok : α → Prop} {e' : β → List PV} {ok' : β → Prop} (h : Rd en P w base spare held t e ok) (g : α → β) (he : ∀ a, e a = e' (g a)) (hk : ∀ a, ok a → ok' (g a)) : Rd en P w base spare held t e' ok' := fun fuel cs x hx => by
  obtain ⟨a, h1, h2⟩ := h fuel cs x hx
  exact ⟨g a, hk a h1, by rw [← he]; exact h2⟩
theorem list_of {α : Type} {p : Nat → α → Prop} : ∀ (n : Nat), (∀ i, i < n → ∃ a, p i a) → ∃ l : List α, l.length = n ∧ ∀ (i : Nat) (a : α), l[i]? = some a → p i a
  | 0, _ => ⟨[], rfl, fun i a h => by simp at h⟩
  | n + 1, h => by
    obtain ⟨l, h1, h2⟩ := list_of n (fun i hi => h i (by omega))
    obtain ⟨a, ha⟩ := h n (by omega)
    refine ⟨l ++ [a], by simp [h1], fun i b hb => ?_⟩
    by_cases hi : i < n
    · rw [List.getElem?_append_left (by omega)] at hb
      exact h2 i b hb
    · have : i = n := by
        have := (List.getElem?_eq_some_iff.1 hb).1
        simp at this
        omega
      subst this
      rw [List.getElem?_append_right (by omega), h1] at hb
      simp at hb
      subst hb
      exact ha
theorem cells?_get {a : Addr} {n : Nat} {cs : List Value} (h : w.cells? base a n = some cs) : cs.length = n ∧ ∀ j, j < n → w.cell? (a.add j) = cs[j]? := by
  unfold World.cells? at h
  split at h
  · have h1 := mapM_some_length h
    refine ⟨by simpa using h1, fun j hj => ?_⟩
    exact mapM_some_get h j j (by simp [hj])
  · cases h
theorem spot_none {a : Addr} {v : Value} (h : w.cell? a = some v) : a.spot = none := by
  unfold World.cell? at h
  split at h
  · split at h
    · cases h
    · rename_i hn
      cases hs : a.spot with
      | none => rfl
      | some x => rw [hs] at hn; simp at hn
  · cases h
theorem Rd.slice {t e : TypeId} {α : Type} {en' : α → List PV} {ok : α → Prop} {sz : Nat} (ht : P.underlying t = some (.slice e)) (hc : P.cellsOf e = sz) (h0 : 0 < sz) (hl : ∀ a, (en' a).length = sz) (h : Rd en P w base spare held e en' ok) :
    Rd en P w base spare held t (fun l : List α => [.sl (l.map en')]) (fun l => l.length ≤ maxLen ∧ ∀ a ∈ l, ok a) := fun fuel cs x hx => by
  rcases DataW.trod_slice ht hx with ⟨rfl, _⟩ | ⟨a, len, cap, elems, rest, n, _, rfl, _, _, hlc, hm, hlen, hel, _, _⟩
  · exact ⟨[], ⟨Nat.zero_le _, fun a ha => by cases ha⟩, .one (.sl (sz := 1) (fun _ _ => .nilIface) rfl (Nat.le_refl _) (by simp) (by simp) (by simp))⟩
  · have each : ∀ i, i < len → ∃ b : α, ok b ∧ ∃ ci, w.cells? base (a.add (i * sz)) sz = some ci ∧ CellsRep w ci (en' b) := fun i hi => by
      have h1 := hel i hi
      rw [hc] at h1
      have h2 : elems[i]? = some elems[i] := List.getElem?_eq_getElem (by omega)
      rw [h2, Option.bind_eq_some_iff] at h1
      obtain ⟨ci, h3, h4⟩ := h1
      obtain ⟨b, hb1, hb2⟩ := h n ci _ h4
      exact ⟨b, hb1, ci, h3, hb2⟩
    obtain ⟨l, l1, l2⟩ := list_of len each
    refine ⟨l, ⟨by omega, fun b hb => ?_⟩, .one ?_⟩
    · obtain ⟨i, hi⟩ := List.mem_iff_getElem?.1 hb
      exact (l2 i b hi).1
    · have spot : 0 < len → a = ⟨a.block, a.off, none⟩ := fun hp => by
        obtain ⟨b, _, ci, h3, h4⟩ := each 0 hp
        obtain ⟨g1, g2⟩ := cells?_get h3
        have h5 := g2 0 h0
        have h6 : ci[0]? = some (ci[0]'(by omega)) := List.getElem?_eq_getElem (by omega)
        rw [h6] at h5
        have e0 : (a.add (0 * sz)).add 0 = a := by simp [Addr.add]
        rw [e0] at h5
        have := spot_none h5
        cases a; simp at this; subst this; rfl
      refine .sl (sz := sz) (fun i j => (w.cell? ⟨a.block, a.off + (i * sz + j), none⟩).getD undef) (by simp [l1]) hlc (fun x hx => ?_) (fun hp => ⟨a.block, a.off, congrArg some (spot hp), fun i j hi hj => ?_⟩) (fun i j x p hx hp => ?_)
      · obtain ⟨b, _, rfl⟩ := List.mem_map.1 hx
        exact hl b
      · obtain ⟨b, _, ci, h3, h4⟩ := each i hi
        obtain ⟨g1, g2⟩ := cells?_get h3
        have h5 := g2 j hj
        have h6 : ci[j]? = some (ci[j]'(by omega)) := List.getElem?_eq_getElem (by omega)
        rw [h6, spot (by omega), Addr.add_lit, Addr.add_lit, Nat.add_assoc] at h5
        show w.cell? _ = _
        rw [h5]; rfl
      · rw [List.getElem?_map] at hx
        cases hli : l[i]? with
        | none => rw [hli] at hx; cases hx
        | some b =>
          rw [hli] at hx
          obtain rfl := Option.some.inj hx
          obtain ⟨_, ci, h3, h4⟩ := l2 i b hli
          have hi : i < len := by rw [← l1]; exact (List.getElem?_eq_some_iff.1 hli).1
          have hj : j < sz := by rw [← hl b]; exact (List.getElem?_eq_some_iff.1 hp).1
          obtain ⟨g1, g2⟩ := cells?_get h3
          have h5 := g2 j hj
          have h6 : ci[j]? = some (ci[j]'(by omega)) := List.getElem?_eq_getElem (by omega)
          rw [h6, spot (by omega), Addr.add_lit, Addr.add_lit, Nat.add_assoc] at h5
          rw [h5]
          exact h4.2 j _ p h6 hp
theorem Rd.bool {t : TypeId} (ht : P.underlying t = some .bool) : Rd en P w base spare held t (fun b : Bool => [vB b]) (fun _ => True) := fun fuel cs x h => by
  obtain ⟨b, rfl, _⟩ := DataW.trod_bool ht h
  exact ⟨b, trivial, .one (.val rfl)⟩
/-- A struct of 4 fields of one cell each. -/
theorem Rd.struct4 {t : TypeId} {fs : Array Field} {f0 f1 f2 f3 : Field} {α0 α1 α2 α3 : Type} {e0 : α0 → PV} {e1 : α1 → PV} {e2 : α2 → PV} {e3 : α3 → PV} {o0 : α0 → Prop} {o1 : α1 → Prop} {o2 : α2 → Prop} {o3 : α3 → Prop}
    (ht : P.underlying t = some (.struct fs)) (hfs : fs = #[f0, f1, f2, f3]) (hn : P.cellsOf t = 4)
    (g0 : f0.offset = 0) (g1 : f1.offset = 1) (g2 : f2.offset = 2) (g3 : f3.offset = 3)
    (c0 : P.cellsOf f0.type = 1) (c1 : P.cellsOf f1.type = 1) (c2 : P.cellsOf f2.type = 1) (c3 : P.cellsOf f3.type = 1)
    (h0 : Rd en P w base spare held f0.type (fun a => [e0 a]) o0) (h1 : Rd en P w base spare held f1.type (fun a => [e1 a]) o1) (h2 : Rd en P w base spare held f2.type (fun a => [e2 a]) o2) (h3 : Rd en P w base spare held f3.type (fun a => [e3 a]) o3) :
    Rd en P w base spare held t (fun a : α0 × α1 × α2 × α3 => [e0 a.1, e1 a.2.1, e2 a.2.2.1, e3 a.2.2.2]) (fun a => o0 a.1 ∧ o1 a.2.1 ∧ o2 a.2.2.1 ∧ o3 a.2.2.2) := fun fuel cs x hx => by
  subst hfs
  obtain ⟨xs, n, _, _, hl, hxl, hget⟩ := DataW.trod_struct ht hx
  rw [hn] at hl
  have hxl : xs.length = 4 := hxl
  match cs, hl with
  | [v0, v1, v2, v3], _ =>
  match xs, hxl with
  | [x0, x1, x2, x3], _ =>
  have q0 := hget 0 f0 rfl
  have q1 := hget 1 f1 rfl
  have q2 := hget 2 f2 rfl
  have q3 := hget 3 f3 rfl
  rw [g0, c0] at q0
  rw [g1, c1] at q1
  rw [g2, c2] at q2
  rw [g3, c3] at q3
  obtain ⟨a0, k0, r0⟩ := h0 n _ x0 q0
  obtain ⟨a1, k1, r1⟩ := h1 n _ x1 q1
  obtain ⟨a2, k2, r2⟩ := h2 n _ x2 q2
  obtain ⟨a3, k3, r3⟩ := h3 n _ x3 q3
  refine ⟨(a0, a1, a2, a3), ⟨k0, k1, k2, k3⟩, rfl, fun i c p hc hp => ?_⟩
  match i with
  | 0 => simp at hc hp; subst hc hp; exact r0.2 0 _ _ rfl rfl
  | 1 => simp at hc hp; subst hc hp; exact r1.2 0 _ _ rfl rfl
  | 2 => simp at hc hp; subst hc hp; exact r2.2 0 _ _ rfl rfl
  | 3 => simp at hc hp; subst hc hp; exact r3.2 0 _ _ rfl rfl
  | i + 4 => simp at hc
/-- A value of one cell, as an argument. -/
theorem CellsRep.arg {v : Value} {p : PV} (h1 : v.oneCell' = true) (h : CellsRep w v.cells.toList [p]) : RepA (memCells w) v p := by
  have e : v.cells = #[v] := by cases v <;> first | rfl | simp [Value.oneCell'] at h1
  rw [e] at h
  exact .frz (h.2 0 v p rfl rfl)
theorem CellsRep.aggr {vs : Array Value} {ps : List PV} (h : CellsRep w vs.toList ps) : RepA (memCells w) (.agg vs) (.agg ps) :=
  .agg (by simpa using h.1) (fun i v p hv hp => .frz (h.2 i v p (by simpa using hv) hp)) (fun i v hv => by
    have hi : i < ps.length := by
      have := (Array.getElem?_eq_some_iff.1 hv).1
      have h1 := h.1
      simp at h1
      omega
    exact (h.2 i v _ (by simpa using hv) (List.getElem?_eq_getElem hi)).one)
end
end Go.Pw

end
