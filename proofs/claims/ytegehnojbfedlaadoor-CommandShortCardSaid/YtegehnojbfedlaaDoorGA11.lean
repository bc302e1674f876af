import Derived.Test.YtegehnojbfedlaaDoorGA8
import Derived.Test.YtegehnojbfedlaaDoorGA10
/-
  Chapter 25: what a line says; the program's Parse.
-/
open Go Go.Proofs Go.Pw Go.RowKit
namespace Go.Proofs.YtegehnojbfedlaaDoor
set_option maxRecDepth 4000
set_option linter.unusedVariables false
set_option linter.unusedSimpArgs false
/-- A command. -/
structure Cm where
  word : List UInt8
  names : List (List UInt8)
  nums : List Int
  rest : List UInt8
def encB (l : List (List UInt8)) : List (List PV) := l.map fun n => [vS (bA n)]
theorem encB_len (l : List (List UInt8)) : (encB l).length = l.length := by simp [encB]
def cmP (c : Cm) : PV := .agg [vS (bA c.word), .sl (encB c.names), .sl (encI c.nums), vS (bA c.rest)]
/-- The names at the front of what is left, and what is behind them; or where what is wrong begins, and what it is. -/
def pNames (S : List UInt8) : Nat → List UInt8 → Except (Nat × Int) (List (List UInt8) × List UInt8)
  | 0, L => .ok ([], L)
  | k + 1, L => if nameL (wrd L) = true then (match pNames S k (rst L) with
    | .ok q => .ok (wrd L :: q.1, q.2)
    | .error e => .error e) else .error (ps S (skp L), 1)
def pNums (S : List UInt8) : Nat → List UInt8 → Except (Nat × Int) (List Int × List UInt8)
  | 0, L => .ok ([], L)
  | k + 1, L => if pC (bA (wrd L)) = 0 then (match pNums S k (rst L) with
    | .ok q => .ok (pV (bA (wrd L)) :: q.1, q.2)
    | .error e => .error e) else .error (ps S (skp L), pC (bA (wrd L)))
/-- The rest. -/
def pRest (S : List UInt8) (r : Bool) (w : List UInt8) (ns : List (List UInt8)) (ms : List Int) (L : List UInt8) : Except (Nat × Int) Cm :=
  if r = false ∧ skp L ≠ [] then .error (ps S (skp L), 1) else .ok ⟨w, ns, ms, skp L⟩
def pAll (S : List UInt8) (a b : Nat) (r : Bool) (w : List UInt8) (L : List UInt8) : Except (Nat × Int) Cm :=
  match pNames S a L with
  | .error e => .error e
  | .ok (ns, M) => match pNums S b M with
    | .error e => .error e
    | .ok (ms, Q) => pRest S r w ns ms Q
def parseC (S : List UInt8) : Except (Nat × Int) Cm :=
  if 20000 < S.length then .error (0, 7) else
  if wrd S = [] then .error (ps S (skp S), 1) else
  match asks (wrd S) with
  | none => .error (ps S (skp S), 13)
  | some (a, b, r) => pAll S a b r (wrd S) (rst S)
def resP : Except (Nat × Int) Cm → PV
  | .ok c => .tup [cmP c, vI 0, vI 0]
  | .error (p, e) => .tup [.agg [vS (bA []), .sl [], .sl [], vS (bA [])], vI p, vI e]
/-- A row of texts, or nil. -/
def rowB (k : Nat) : List (List UInt8) → PV
  | [] => vNil
  | x :: r => .row k (encB (x :: r))
def tokB (k : Nat) (e : TypeId) : List (List UInt8) → List (Nat × Tok)
  | [] => []
  | x :: r => [(k, ⟨e, 1, (x :: r).length⟩)]
theorem asks_le {l : List UInt8} {a b : Nat} {r : Bool} (h : asks l = some (a, b, r)) : a ≤ 3 ∧ b ≤ 3 := by
  have g := asks_some h
  have : ∀ x ∈ words, x.2.1 ≤ 3 ∧ x.2.2.1 ≤ 3 := by decide
  exact this _ g
theorem rowB_frz (t : Nat) (ns : List (List UInt8)) : Frz1 (rowB t ns) (.sl (encB ns)) := by
  cases ns with
  | nil => exact ⟨rfl, rfl⟩
  | cons x r => rfl
theorem rowB_lt (a t : Nat) (ns : List (List UInt8)) : PV.lt a (t + 1) (rowB t ns) = true := by cases ns <;> simp [rowB, PV.lt]
theorem encB_snoc (l : List (List UInt8)) (x : List UInt8) : encB l ++ [[vS (bA x)]] = encB (l ++ [x]) := by simp [encB]
def preN {α β : Type} (ns : List α) : Except (Nat × Int) (List α × β) → Except (Nat × Int) (List α × β)
  | .ok q => .ok (ns ++ q.1, q.2)
  | .error e => .error e
theorem pNames_T {S : List UInt8} {k : Nat} {L : List UInt8} {ns : List (List UInt8)} (h : nameL (wrd L) = true) : preN ns (pNames S (k + 1) L) = preN (ns ++ [wrd L]) (pNames S k (rst L)) := by
  rw [pNames, if_pos h]
  cases pNames S k (rst L) with
  | ok q => simp [preN]
  | error e => rfl
theorem pNames_F {S : List UInt8} {k : Nat} {L : List UInt8} {ns : List (List UInt8)} (h : nameL (wrd L) = false) : preN ns (pNames S (k + 1) L) = .error (ps S (skp L), 1) := by
  rw [pNames, if_neg (by rw [h]; decide)]
  rfl
theorem pNums_T {S : List UInt8} {k : Nat} {L : List UInt8} {ms : List Int} (h : pC (bA (wrd L)) = 0) : preN ms (pNums S (k + 1) L) = preN (ms ++ [pV (bA (wrd L))]) (pNums S k (rst L)) := by
  rw [pNums, if_pos h]
  cases pNums S k (rst L) with
  | ok q => simp [preN]
  | error e => rfl
theorem pNums_F {S : List UInt8} {k : Nat} {L : List UInt8} {ms : List Int} (h : pC (bA (wrd L)) ≠ 0) : preN ms (pNums S (k + 1) L) = .error (ps S (skp L), pC (bA (wrd L))) := by
  rw [pNums, if_neg h]
  rfl
theorem wrd_len (l : List UInt8) : (wrd l).length ≤ l.length := by
  have h1 := nb_len (skp l)
  have h2 := (skp_suf l).length_le
  show (nbt (skp l)).length ≤ _
  omega
set_option maxHeartbeats 8000000 in
theorem parse_cmd (S : List UInt8) (hS : S.length ≤ 1000000) : Ok Tryd.prog 14 [vS (bA S)] (resP (parseC S)) := by
  refine Ok.of_pwp (by kernel_rfl) Tryd.func14 rfl (by kernel_rfl) (by kernel_rfl) ?_
  unfold parseC
  by_cases hb : 20000 < S.length
  · rw [if_pos hb]
    simp (implicitDefEqProofs := false) (disch := omega) only [go_sem, simprocAttr, go_sem, Nat.le_refl, Int.toNat_natCast, Int.toNat_zero, Int.toNat_one, str_eq, sz_bA, tl_bA, Tryd.results14]
    rfl
  rw [if_neg hb]
  have c0' := next_I S S hS (List.suffix_refl _)
  have hp0 : ps S S = 0 := Nat.sub_self _
  rw [hp0] at c0'
  have c0 : OkI Tryd.prog 27 [.ptr 0 0] ⟨[], [(0, .box 56 [vS (bA S), vI 0])], [], 1, 0⟩ _ := c0'
  have c1 := shaped_ok (wrd S)
  simp (implicitDefEqProofs := false) (disch := omega) only [go_sem, simprocAttr, go_sem, Nat.le_refl, Int.toNat_natCast, Int.toNat_zero, Int.toNat_one, str_eq, sz_bA, tl_bA, Tryd.results14]
  refine CallOk.ofI (OkI.frame1 (st := ⟨[], _, _, _, _⟩) (a := 8) c0 (by simp only; omega) rfl rfl rfl rfl) rfl rfl rfl rfl ?_
  rintro r st1 ⟨r0, s, ⟨rfl, rfl⟩, rfl, rfl⟩
  clear c0 c0'
  simp (implicitDefEqProofs := false) (disch := omega) only [go_sem, simprocAttr, go_sem, Nat.le_refl, Int.toNat_natCast, Int.toNat_zero, Int.toNat_one, str_eq, sz_bA, tl_bA, Tryd.results14]
  by_cases h0 : wrd S = []
  · rw [if_pos h0]
    cases ha : asks (wrd S) with
    | none =>
      rw [ha] at c1
      unfold shpP at c1
      with_reducible refine CallOk.of c1 rfl ?_
      simp (implicitDefEqProofs := false) (disch := omega) only [go_sem, simprocAttr, go_sem, Nat.le_refl, Int.toNat_natCast, Int.toNat_zero, Int.toNat_one, str_eq, sz_bA, tl_bA, Tryd.results14, h0]
      rfl
    | some q =>
      obtain ⟨a, b, r⟩ := q
      rw [ha] at c1
      unfold shpP at c1
      with_reducible refine CallOk.of c1 rfl ?_
      simp (implicitDefEqProofs := false) (disch := omega) only [go_sem, simprocAttr, go_sem, Nat.le_refl, Int.toNat_natCast, Int.toNat_zero, Int.toNat_one, str_eq, sz_bA, tl_bA, Tryd.results14, h0]
      rfl
  rw [if_neg h0]
  cases ha : asks (wrd S) with
  | none =>
    rw [ha] at c1
    unfold shpP at c1
    with_reducible refine CallOk.of c1 rfl ?_
    simp (implicitDefEqProofs := false) (disch := omega) only [go_sem, simprocAttr, go_sem, Nat.le_refl, Int.toNat_natCast, Int.toNat_zero, Int.toNat_one, str_eq, sz_bA, tl_bA, Tryd.results14, h0]
    rfl
  | some q =>
    obtain ⟨a, b, r⟩ := q
    rw [ha] at c1
    unfold shpP at c1
    simp only at c1
    have hab : a ≤ 3 ∧ b ≤ 3 := asks_le ha
    with_reducible refine CallOk.of c1 rfl ?_
    simp (implicitDefEqProofs := false) (disch := omega) only [go_sem, simprocAttr, go_sem, Nat.le_refl, Int.toNat_natCast, Int.toNat_zero, Int.toNat_one, str_eq, sz_bA, tl_bA, Tryd.results14, h0]
    simp only
    unfold pAll
    refine p_loop (ι := { p : Nat × List UInt8 × List (List UInt8) × Nat // p.1 ≤ a ∧ p.2.1 <:+ S ∧ p.2.2.1.length = p.1 ∧ pNames S a (rst S) = preN p.2.2.1 (pNames S (a - p.1) p.2.1) })
      (fun p => ⟨[(49, vI p.1.1), (48, vI a), (10, .ptr 34 0), (8, .ptr 23 0), (5, .ptr 8 0), (2, .ptr 0 0), (0, vS (bA S))],
        [(34, .box 33 [vS (bA (wrd S)), rowB p.1.2.2.2 p.1.2.2.1, vNil, vS (bA [])]), (23, .box 60 [vI a, vI b, vB r]), (8, .box 56 [vS (bA S), vI (ps S p.1.2.1)]), (0, .box 33 [vS (bA []), vNil, vNil, vS (bA [])])],
        tokB p.1.2.2.2 9 p.1.2.2.1, 35, p.1.2.2.2 + 1⟩) (fun p => a - p.1.1)
      ⟨(0, rst S, [], 0), Nat.zero_le _, rst_suf S, rfl, by simp only [preN, Nat.sub_zero]; cases pNames S a (rst S) <;> simp [preN]⟩ ?_ ?_
    · refine ⟨?_, ?_, ?_, ?_, ?_, ?_, ?_⟩ <;> simp only [go_sem, simprocAttr, decide_eq_true_eq, Int.natCast_zero, rowB, tokB] <;> try first | omega | ((repeat' (first | exact And.intro rfl (by omega) | (refine And.intro ?_ ?_))) <;> first | rfl | omega | (congr 3; omega) | (congr 2; omega))
    · rintro ⟨⟨i, L, ns, t⟩, g1, g2, g3, g4⟩
      simp only at g1 g2 g3 g4 ⊢
      have hL := g2.length_le
      by_cases hi : i < a
      · have hk : a - i = (a - (i + 1)) + 1 := by omega
        rw [hk] at g4
        have c2 := next_I S L hS g2
        have c3 := isName_ok (wrd L) (by have := wrd_len L; omega)
        cases hnm : nameL (wrd L) with
        | false =>
          rw [hnm] at c3
          rw [pNames_F hnm] at g4
          rw [g4]
          simp only
          simp (implicitDefEqProofs := false) (disch := omega) only [go_sem, simprocAttr, go_sem, Nat.le_refl, Int.toNat_natCast, Int.toNat_zero, Int.toNat_one, str_eq, sz_bA, tl_bA, Tryd.results14]
          refine CallOk.ofI (OkI.frame1 (st := ⟨[], _, _, _, _⟩) (a := 8) c2 (by simp only; omega) rfl rfl rfl rfl) rfl rfl rfl rfl ?_
          rintro r st1 ⟨r0, s, ⟨rfl, rfl⟩, rfl, rfl⟩
          simp (implicitDefEqProofs := false) (disch := omega) only [go_sem, simprocAttr, go_sem, Nat.le_refl, Int.toNat_natCast, Int.toNat_zero, Int.toNat_one, str_eq, sz_bA, tl_bA, Tryd.results14]
          with_reducible refine CallOk.of c3 rfl ?_
          simp (implicitDefEqProofs := false) (disch := omega) only [go_sem, simprocAttr, go_sem, Nat.le_refl, Int.toNat_natCast, Int.toNat_zero, Int.toNat_one, str_eq, sz_bA, tl_bA, Tryd.results14]
          rfl
        | true =>
          rw [hnm] at c3
          rw [pNames_T hnm] at g4
          cases ns with
          | nil =>
            simp only [rowB, tokB]
            simp (implicitDefEqProofs := false) (disch := omega) only [go_sem, simprocAttr, go_sem, Nat.le_refl, Int.toNat_natCast, Int.toNat_zero, Int.toNat_one, str_eq, sz_bA, tl_bA, Tryd.results14]
            refine CallOk.ofI (OkI.frame1 (st := ⟨[], _, _, _, _⟩) (a := 8) c2 (by simp only; omega) rfl rfl rfl rfl) rfl rfl rfl rfl ?_
            rintro r st1 ⟨r0, s, ⟨rfl, rfl⟩, rfl, rfl⟩
            simp (implicitDefEqProofs := false) (disch := omega) only [go_sem, simprocAttr, go_sem, Nat.le_refl, Int.toNat_natCast, Int.toNat_zero, Int.toNat_one, str_eq, sz_bA, tl_bA, Tryd.results14]
            with_reducible refine CallOk.of c3 rfl ?_
            simp (implicitDefEqProofs := false) (disch := omega) only [go_sem, simprocAttr, go_sem, Nat.le_refl, Int.toNat_natCast, Int.toNat_zero, Int.toNat_one, str_eq, sz_bA, tl_bA, Tryd.results14]
            refine ⟨⟨(i + 1, rst L, [wrd L], t + 1 + 1 + 1 + 7 + 3 + 4), hi, (rst_suf L).trans g2, by simp only [List.length_cons]; simp only [List.length_nil] at g3; simp only [List.length_nil]; omega, g4⟩, by simp only; omega, ?_⟩
            refine ⟨?_, ?_, ?_, ?_, ?_, ?_, ?_⟩ <;> simp only [go_sem, simprocAttr, decide_eq_true_eq, rowB, tokB, Int.natCast_add, Int.natCast_one, encB, ite_self, List.length_nil, Nat.zero_add] <;> try first | omega | ((repeat' (first | exact And.intro rfl (by omega) | (refine And.intro ?_ ?_))) <;> first | rfl | omega | (congr 3; omega) | (congr 2; omega))
          | cons x xs =>
            simp only [rowB, tokB]
            simp (implicitDefEqProofs := false) (disch := omega) only [go_sem, simprocAttr, go_sem, Nat.le_refl, Int.toNat_natCast, Int.toNat_zero, Int.toNat_one, str_eq, sz_bA, tl_bA, Tryd.results14]
            refine CallOk.ofI (OkI.frame1 (st := ⟨[], _, _, _, _⟩) (a := 8) c2 (by simp only; omega) rfl rfl rfl rfl) rfl rfl rfl rfl ?_
            rintro r st1 ⟨r0, s, ⟨rfl, rfl⟩, rfl, rfl⟩
            simp (implicitDefEqProofs := false) (disch := omega) only [go_sem, simprocAttr, go_sem, Nat.le_refl, Int.toNat_natCast, Int.toNat_zero, Int.toNat_one, str_eq, sz_bA, tl_bA, Tryd.results14]
            with_reducible refine CallOk.of c3 rfl ?_
            simp (implicitDefEqProofs := false) (disch := omega) only [go_sem, simprocAttr, go_sem, Nat.le_refl, Int.toNat_natCast, Int.toNat_zero, Int.toNat_one, str_eq, sz_bA, tl_bA, Tryd.results14]
            simp only [List.length_cons] at g3
            have g5 : xs.length ≤ 10 := by omega
            simp only [encB_len, List.length_cons]
            refine ⟨trivial, by omega, by omega, ⟨(i + 1, rst L, x :: (xs ++ [wrd L]), t), hi, (rst_suf L).trans g2, by simp only [List.length_cons, List.length_append, List.length_nil]; omega, g4⟩, by simp only; omega, ?_⟩
            refine ⟨?_, ?_, ?_, ?_, ?_, ?_, ?_⟩ <;> simp only [go_sem, simprocAttr, decide_eq_true_eq, rowB, tokB, Int.natCast_add, Int.natCast_one, encB_snoc, List.length_append, List.length_cons, List.length_nil] <;> try first | omega | ((repeat' (first | exact And.intro rfl (by omega) | (refine And.intro ?_ ?_))) <;> first | rfl | omega | (congr 3; omega) | (congr 2; omega))
      · have hia : i = a := by omega
        subst hia
        rw [Nat.sub_self] at g4
        have g5 : pNames S i (rst S) = .ok (ns, L) := by rw [g4]; simp [pNames, preN]
        rw [g5]
        simp only
        clear g4
        simp (implicitDefEqProofs := false) (disch := omega) only [go_sem, simprocAttr, go_sem, Nat.le_refl, Int.toNat_natCast, Int.toNat_zero, Int.toNat_one, str_eq, sz_bA, tl_bA, Tryd.results14]
        refine p_loop (ι := { p : Nat × List UInt8 × List Int × Nat // p.1 ≤ b ∧ p.2.1 <:+ S ∧ p.2.2.1.length = p.1 ∧ pNums S b L = preN p.2.2.1 (pNums S (b - p.1) p.2.1) })
          (fun p => ⟨[(70, vI p.1.1), (69, vI b), (10, .ptr 34 0), (8, .ptr 23 0), (5, .ptr 8 0), (2, .ptr 0 0), (0, vS (bA S))],
            [(34, .box 33 [vS (bA (wrd S)), .sl (encB ns), rowI p.1.2.2.2 p.1.2.2.1, vS (bA [])]), (23, .box 60 [vI i, vI b, vB r]), (8, .box 56 [vS (bA S), vI (ps S p.1.2.1)]), (0, .box 33 [vS (bA []), vNil, vNil, vS (bA [])])],
            tokI p.1.2.2.2 2 p.1.2.2.1, 35, p.1.2.2.2 + 1⟩) (fun p => b - p.1.1)
          ⟨(0, L, [], 0), Nat.zero_le _, g2, rfl, by simp only [preN, Nat.sub_zero]; cases pNums S b L <;> simp [preN]⟩ ?_ ?_
        · have hfr := rowB_frz t ns
          have hlt := rowB_lt
          refine ⟨?_, ?_, ?_, ?_, ?_, ?_, ?_⟩ <;> simp only [go_sem, simprocAttr, decide_eq_true_eq, Int.natCast_zero, rowI, tokI, hfr, hlt] <;> try first | omega | ((repeat' (first | exact And.intro rfl (by omega) | (refine And.intro ?_ ?_))) <;> first | rfl | omega | (congr 3; omega) | (congr 2; omega))
        · rintro ⟨⟨j, Q, ms, t2⟩, k1, k2, k3, k4⟩
          simp only at k1 k2 k3 k4 ⊢
          have hQ := k2.length_le
          have hfr : (S.length : Int) - ((skp Q).length : Int) = (ps S (skp Q) : Int) := by have := (skp_suf Q).length_le; unfold ps; omega
          by_cases hj : j < b
          · have hk : b - j = (b - (j + 1)) + 1 := by omega
            rw [hk] at k4
            have c2 := next_I S Q hS k2
            have c3 := parse_ok (bA (wrd Q)) (by have := wrd_len Q; rw [sz_bA]; omega)
            by_cases hpc : pC (bA (wrd Q)) = 0
            · rw [pNums_T hpc] at k4
              rw [hpc] at c3
              cases ms with
              | nil =>
                simp only [rowI, tokI]
                simp (implicitDefEqProofs := false) (disch := omega) only [go_sem, simprocAttr, go_sem, Nat.le_refl, Int.toNat_natCast, Int.toNat_zero, Int.toNat_one, str_eq, sz_bA, tl_bA, Tryd.results14]
                refine CallOk.ofI (OkI.frame1 (st := ⟨[], _, _, _, _⟩) (a := 8) c2 (by simp only; omega) rfl rfl rfl rfl) rfl rfl rfl rfl ?_
                rintro r st1 ⟨r0, s, ⟨rfl, rfl⟩, rfl, rfl⟩
                simp (implicitDefEqProofs := false) (disch := omega) only [go_sem, simprocAttr, go_sem, Nat.le_refl, Int.toNat_natCast, Int.toNat_zero, Int.toNat_one, str_eq, sz_bA, tl_bA, Tryd.results14]
                with_reducible refine CallOk.of c3 rfl ?_
                simp (implicitDefEqProofs := false) (disch := omega) only [go_sem, simprocAttr, go_sem, Nat.le_refl, Int.toNat_natCast, Int.toNat_zero, Int.toNat_one, str_eq, sz_bA, tl_bA, Tryd.results14]
                refine ⟨⟨(j + 1, rst Q, [pV (bA (wrd Q))], t2 + 1 + 1 + 1 + 7 + 7 + 2 + 4), hj, (rst_suf Q).trans k2, by simp only [List.length_cons]; simp only [List.length_nil] at k3; simp only [List.length_nil]; omega, k4⟩, by simp only; omega, ?_⟩
                refine ⟨?_, ?_, ?_, ?_, ?_, ?_, ?_⟩ <;> simp only [go_sem, simprocAttr, decide_eq_true_eq, rowI, tokI, Int.natCast_add, Int.natCast_one, encI_one, ite_self, List.length_nil, Nat.zero_add] <;> try first | omega | ((repeat' (first | exact And.intro rfl (by omega) | (refine And.intro ?_ ?_))) <;> first | rfl | omega | (congr 3; omega) | (congr 2; omega))
              | cons x xs =>
                simp only [rowI, tokI]
                simp (implicitDefEqProofs := false) (disch := omega) only [go_sem, simprocAttr, go_sem, Nat.le_refl, Int.toNat_natCast, Int.toNat_zero, Int.toNat_one, str_eq, sz_bA, tl_bA, Tryd.results14]
                refine CallOk.ofI (OkI.frame1 (st := ⟨[], _, _, _, _⟩) (a := 8) c2 (by simp only; omega) rfl rfl rfl rfl) rfl rfl rfl rfl ?_
                rintro r st1 ⟨r0, s, ⟨rfl, rfl⟩, rfl, rfl⟩
                simp (implicitDefEqProofs := false) (disch := omega) only [go_sem, simprocAttr, go_sem, Nat.le_refl, Int.toNat_natCast, Int.toNat_zero, Int.toNat_one, str_eq, sz_bA, tl_bA, Tryd.results14]
                with_reducible refine CallOk.of c3 rfl ?_
                simp (implicitDefEqProofs := false) (disch := omega) only [go_sem, simprocAttr, go_sem, Nat.le_refl, Int.toNat_natCast, Int.toNat_zero, Int.toNat_one, str_eq, sz_bA, tl_bA, Tryd.results14]
                simp only [List.length_cons] at k3
                have k6 : xs.length ≤ 10 := by omega
                simp only [encI_len, List.length_cons]
                refine ⟨trivial, by omega, by omega, ⟨(j + 1, rst Q, x :: (xs ++ [pV (bA (wrd Q))]), t2), hj, (rst_suf Q).trans k2, by simp only [List.length_cons, List.length_append, List.length_nil]; omega, k4⟩, by simp only; omega, ?_⟩
                refine ⟨?_, ?_, ?_, ?_, ?_, ?_, ?_⟩ <;> simp only [go_sem, simprocAttr, decide_eq_true_eq, rowI, tokI, Int.natCast_add, Int.natCast_one, encI_snoc, List.cons_append, List.length_append, List.length_cons, List.length_nil] <;> try first | omega | ((repeat' (first | exact And.intro rfl (by omega) | (refine And.intro ?_ ?_))) <;> first | rfl | omega | (congr 3; omega) | (congr 2; omega))
            · rw [pNums_F hpc] at k4
              rw [k4]
              simp only
              simp (implicitDefEqProofs := false) (disch := omega) only [go_sem, simprocAttr, go_sem, Nat.le_refl, Int.toNat_natCast, Int.toNat_zero, Int.toNat_one, str_eq, sz_bA, tl_bA, Tryd.results14]
              refine CallOk.ofI (OkI.frame1 (st := ⟨[], _, _, _, _⟩) (a := 8) c2 (by simp only; omega) rfl rfl rfl rfl) rfl rfl rfl rfl ?_
              rintro r st1 ⟨r0, s, ⟨rfl, rfl⟩, rfl, rfl⟩
              simp (implicitDefEqProofs := false) (disch := omega) only [go_sem, simprocAttr, go_sem, Nat.le_refl, Int.toNat_natCast, Int.toNat_zero, Int.toNat_one, str_eq, sz_bA, tl_bA, Tryd.results14]
              with_reducible refine CallOk.of c3 rfl ?_
              simp (implicitDefEqProofs := false) (disch := omega) only [go_sem, simprocAttr, go_sem, Nat.le_refl, Int.toNat_natCast, Int.toNat_zero, Int.toNat_one, str_eq, sz_bA, tl_bA, Tryd.results14]
              first | done | rfl
          · have hjb : j = b := by omega
            subst hjb
            rw [Nat.sub_self] at k4
            have k5 : pNums S j L = .ok (ms, Q) := by rw [k4]; simp [pNums, preN]
            rw [k5]
            simp only
            have hE := ps_ext k2
            have hp : ps S Q ≤ S.length := by unfold ps; omega
            have c4 := trimL_ok Q
            unfold pRest
            by_cases hq : skp Q = []
            · rw [if_neg (fun h => h.2 hq)]
              simp (implicitDefEqProofs := false) (disch := omega) only [go_sem, simprocAttr, go_sem, Nat.le_refl, Int.toNat_natCast, Int.toNat_zero, Int.toNat_one, str_eq, sz_bA, tl_bA, Tryd.results14, hE, hfr, fz1_rowI]
              with_reducible refine CallOk.of c4 rfl ?_
              simp (implicitDefEqProofs := false) (disch := omega) only [go_sem, simprocAttr, go_sem, Nat.le_refl, Int.toNat_natCast, Int.toNat_zero, Int.toNat_one, str_eq, sz_bA, tl_bA, Tryd.results14, hE, hfr, fz1_rowI, hq]
              cases ms <;> rfl
            · cases r with
              | true =>
                rw [if_neg (fun h => by cases h.1)]
                simp (implicitDefEqProofs := false) (disch := omega) only [go_sem, simprocAttr, go_sem, Nat.le_refl, Int.toNat_natCast, Int.toNat_zero, Int.toNat_one, str_eq, sz_bA, tl_bA, Tryd.results14, hE, hfr, fz1_rowI]
                with_reducible refine CallOk.of c4 rfl ?_
                simp (implicitDefEqProofs := false) (disch := omega) only [go_sem, simprocAttr, go_sem, Nat.le_refl, Int.toNat_natCast, Int.toNat_zero, Int.toNat_one, str_eq, sz_bA, tl_bA, Tryd.results14, hE, hfr, fz1_rowI, hq]
                cases ms <;> rfl
              | false =>
                rw [if_pos ⟨rfl, hq⟩]
                simp (implicitDefEqProofs := false) (disch := omega) only [go_sem, simprocAttr, go_sem, Nat.le_refl, Int.toNat_natCast, Int.toNat_zero, Int.toNat_one, str_eq, sz_bA, tl_bA, Tryd.results14, hE, hfr, fz1_rowI]
                with_reducible refine CallOk.of c4 rfl ?_
                simp (implicitDefEqProofs := false) (disch := omega) only [go_sem, simprocAttr, go_sem, Nat.le_refl, Int.toNat_natCast, Int.toNat_zero, Int.toNat_one, str_eq, sz_bA, tl_bA, Tryd.results14, hE, hfr, fz1_rowI, hq]
                rfl
end Go.Proofs.YtegehnojbfedlaaDoor
