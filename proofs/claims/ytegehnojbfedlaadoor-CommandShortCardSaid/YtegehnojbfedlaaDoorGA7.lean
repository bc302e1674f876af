/-
  Contracts and plain laws on the way to the statement; each says its own conditions.
-/
import Derived.Test.YtegehnojbfedlaaDoorGA1
import Derived.Test.YtegehnojbfedlaaDoorGA6
import Derived.Lib.AppendIntMem
import Derived.Lib.AtoiErrMem
import Derived.Lib.TrimUEq
import Derived.Shelf.Strings.SlTrimAscii
import Derived.Shelf.Strings.IndexAnyAll
section
/-
  Contracts of the library's functions on numbers' texts, out of the kit's shelf.
-/
open Go Go.Proofs Go.Pw Go.RowKit
namespace Go.Proofs.YtegehnojbfedlaaDoor
set_option maxRecDepth 4000
set_option linter.unusedVariables false
set_option linter.unusedSimpArgs false
theorem stable_below {S : Cells} {w w' : World} (hS : Stable S w) (hb : Below w.heap.size w w') : Stable S w' := fun b o u hu => by
  have h1 := hS b o u hu
  have hlt : b < w.heap.size := by
    rcases Nat.lt_or_ge b w.heap.size with h' | h'
    · exact h'
    · simp [World.cell?, Array.getElem?_eq_none h'] at h1
  rw [World.cell?_of_block (hb.block b hlt)]
  exact h1
/-- A function that is handed plain values, and hands back what reads so wherever it stands. -/
theorem Ok.of_plain {P : Program} {f : FuncId} {l : List Value} {r : PV} (hent : enters P f = true) (h : ∀ w, Known w → Calls P f l.toArray w fun e w' => ∃ v, e = .returned v ∧ (∀ S, RepA S v r) ∧ Below w.heap.size w w') : Ok P f (l.map .val) r := by
  refine ⟨hent, fun S w vals hk hS hn hr => ?_⟩
  have e : vals = l.toArray := by
    apply Array.ext (by simpa using hn)
    intro i h1 h2
    have hl : i < l.length := by simpa using h2
    have := (rep_val (hr i vals[i] (.val l[i]) (Array.getElem?_eq_getElem h1) (by simp [hl]))).1
    simpa using this
  subst e
  refine (h w hk).mono ?_
  rintro e w' ⟨v, rfl, hv, hb⟩
  exact ⟨v, S, rfl, SLe.refl _, stable_below hS hb, fun b o u hu => .inl hu, hv S, hb⟩
theorem rep_pair {C : Cx} {T : List (Nat × Tok)} {U V : Nat → Prop} {a b : Value} {p q : PV} (h1 : RepV C T U V a p) (h2 : RepV C T U V b q) : RepV C T U V (.tuple #[a, b]) (.tup [p, q]) :=
  .tup rfl (fun i v x hv hx => by
    match i with
    | 0 => simp at hv hx; subst hv hx; exact h1
    | 1 => simp at hv hx; subst hv hx; exact h2
    | i + 2 => simp at hv)
theorem rep_ptr0 {C : Cx} {T : List (Nat × Tok)} {U V : Nat → Prop} (N : Nat) : RepV C T U V (.pointer (some ⟨N, 0, none⟩)) (.fp []) := .fp (fun i p h => by simp at h)
theorem formatInt_ok (n : Int) (h : fits n) : Ok Tryd.prog 54 [vI n, vI 10] (vS ⟨(Lib.itoa n).toArray⟩) :=
  Ok.of_plain (l := [.int .i64 n, .int .i64 10]) (by kernel_rfl) fun w hk => (Tryd.strconv_FormatInt_10 n h.1 h.2 w (hasW_tab (by kernel_rfl) hk.2)).mono (by
    rintro e w' ⟨rfl, k, os, rfl⟩
    exact ⟨_, rfl, fun S => .frz (.val rfl), Lib.below_grow _ _ (Nat.le_refl _) _ _⟩)
theorem parseInt_yes (s : ByteArray) (hs : s.size ≤ 1000000) (h : formP s) (hf : fits (zOf s)) : Ok Tryd.prog 43 [vS s, vI 10, vI 64] (.tup [vI (zOf s), .val .nilIface]) :=
  Ok.of_plain (l := [.string s, .int .i64 10, .int .i64 64]) (by kernel_rfl) fun w hk => (Tryd.strconv_ParseInt_10_at64_ok s (by omega) (zOf s) (by rw [parse_law h, if_pos hf]) w).mono (by
    rintro e w' ⟨rfl, rfl | ⟨t, rfl⟩⟩
    · exact ⟨_, rfl, fun S => rep_pair (.frz (.val rfl)) (.frz (.val rfl)), Below.refl _ _⟩
    · exact ⟨_, rfl, fun S => rep_pair (.frz (.val rfl)) (.frz (.val rfl)), Lib.bytesWorld_below _ _ _⟩)
theorem parseInt_no (s : ByteArray) (hs : s.size ≤ 1000000) (h : formP s) (hf : ¬ fits (zOf s)) : Ok Tryd.prog 43 [vS s, vI 10, vI 64] (.tup [vI (Lib.intSat 64 s.data.toList), .iface 118 (.fp [])]) :=
  Ok.of_plain (l := [.string s, .int .i64 10, .int .i64 64]) (by kernel_rfl) fun w hk => by
    obtain ⟨te, pe, hc⟩ := hasW_ErrRange hk.2
    refine (Tryd.strconv_ParseInt_10_at64_range s (by omega) (by rw [parse_law h, if_neg hf]) _ w hc (.inr ⟨te, pe, rfl⟩)).mono ?_
    rintro e w' ⟨N, rfl, _, _, hb⟩
    exact ⟨_, rfl, fun S => rep_pair (.frz (.val rfl)) (.iface (rep_ptr0 N)), hb⟩
theorem trimP_ok (s p : ByteArray) : Ok Tryd.prog 63 [vS s, vS p] (vS ⟨(Lib.trimPrefix s.data.toList p.data.toList).toArray⟩) :=
  Ok.of_plain (l := [.string s, .string p]) (by kernel_rfl) fun w hk => (Tryd.strings_TrimPrefix s p w).mono (by
    rintro e w' ⟨rfl, rfl⟩
    exact ⟨_, rfl, fun S => .frz (.val rfl), Below.refl _ _⟩)
theorem trim_dig (s : ByteArray) : (⟨(Lib.trimPrefix s.data.toList [45]).toArray⟩ : ByteArray) = digS s := by
  apply ByteArray.ext
  apply Array.ext'
  rw [digS_list]
  unfold Lib.trimPrefix Lib.hasPrefix
  cases e : s.data.toList with
  | nil =>
    have : ¬ bt s 0 = 45 := by unfold bt; rw [e]; decide
    rw [if_neg this]; rfl
  | cons c r =>
    have hb : bt s 0 = (c.toNat : Int) := bt_list (s := s) (i := 0) (by rw [e]; rfl)
    have e45 : (bt s 0 = 45) = (c = 45) := by
      rw [hb]
      refine propext ⟨fun h => UInt8.toNat_inj.1 (by have : c.toNat = 45 := by omega
                                                     rw [this]; rfl), fun h => by subst h; rfl⟩
    by_cases h : c = 45
    · have h1 : (List.isPrefixOf [45] (c :: r)) = true := by subst h; simp
      have h2 : bt s 0 = 45 := by rw [e45]; exact h
      rw [if_pos h1, if_pos h2]
      rfl
    · have h1 : ¬ (List.isPrefixOf [45] (c :: r)) = true := by
        simp [List.isPrefixOf]
        exact fun k => h k.symm
      have h2 : ¬ bt s 0 = 45 := by rw [e45]; exact h
      rw [if_neg h1, if_neg h2]
end Go.Proofs.YtegehnojbfedlaaDoor

end
section
/-
  Numbers' texts: the document's Form, Number, Parse; the program's form, Parse, Text.
-/
open Go Go.Proofs Go.Pw
namespace Go.Proofs.YtegehnojbfedlaaDoor
set_option maxRecDepth 4000
set_option linter.unusedVariables false
set_option linter.unusedSimpArgs false
theorem allD_step {t : ByteArray} {k i : Nat} : (∀ j, j < i → k ≤ j → isD (bt t j)) → isD (bt t i) → ∀ j, j < i + 1 → k ≤ j → isD (bt t j) := fun h d j hj hk => by
  by_cases e : j = i
  · subst e; exact d
  · exact h j (by omega) hk
theorem form_bad {s : ByteArray} {i : Nat} (hi : i < s.size) (hk : fromF s ≤ i) (h : ¬ isD (bt s i)) : decide (formP s) = false := decide_eq_false (fun k => h (k.2.2 i hi hk))

set_option maxHeartbeats 4000000 in
theorem rform_ok (s : ByteArray) (hs : s.size ≤ 1000000) : Ok Tryd.prog 48 [vS s] (vB (decide (formP s))) := by
  have b0 := bt_rng s 0
  have b1 := bt_rng s 1
  refine Ok.of_pwp (by kernel_rfl) Tryd.func48 rfl (by kernel_rfl) (by kernel_rfl) ?_
  by_cases h0 : s.size = 0
  · have e : decide (formP s) = false := decide_eq_false (fun h => by have := h.1; omega)
    rw [e]
    have h0' : (s.size : Int) = 0 := by omega
    simp (implicitDefEqProofs := false) (disch := omega) only [go_sem, simprocAttr, go_sem, Nat.le_refl, Int.toNat_natCast, Int.toNat_zero, Int.toNat_one, Tryd.results48]
  have h0' : ¬ (s.size : Int) = 0 := by omega
  by_cases hb0 : bt s 0 = 45
  · have hf : fromF s = 1 := by unfold fromF; rw [if_pos ⟨by omega, hb0⟩]
    by_cases h1 : s.size = 1
    · have e : decide (formP s) = false := decide_eq_false (fun h => by have := h.1; omega)
      rw [e]
      have h1' : (s.size : Int) = 1 := by omega
      simp (implicitDefEqProofs := false) (disch := omega) only [go_sem, simprocAttr, go_sem, Nat.le_refl, Int.toNat_natCast, Int.toNat_zero, Int.toNat_one, Tryd.results48, hb0]
    have h1' : ¬ (s.size : Int) = 1 := by omega
    by_cases hz : bt s (1 : Nat) = 48 ∧ 1 + 1 < s.size
    · have e : decide (formP s) = false := decide_eq_false (fun h => by have := h.2.1; rw [hf] at this; exact this hz)
      rw [e]
      have hz1 : bt s 1 = 48 := hz.1
      simp (implicitDefEqProofs := false) (disch := omega) only [go_sem, simprocAttr, go_sem, Nat.le_refl, Int.toNat_natCast, Int.toNat_zero, Int.toNat_one, Tryd.results48, hb0, hz1]
    · have hz' : ¬ (bt s 1 = 48 ∧ 1 + 1 < s.size) := hz
      by_cases hz1 : bt s 1 = 48
      · simp (implicitDefEqProofs := false) (disch := omega) only [go_sem, simprocAttr, go_sem, Nat.le_refl, Int.toNat_natCast, Int.toNat_zero, Int.toNat_one, Tryd.results48, hb0, hz1]
        refine p_loop (ι := { i : Nat // 1 ≤ i ∧ i ≤ s.size ∧ ∀ j, j < i → 1 ≤ j → isD (bt s j) }) (fun i => ⟨[(4, vI i.1), (3, vI 1), (0, vS s)], [], [], 0, 0⟩) (fun i => s.size - i.1) ⟨1, Nat.le_refl _, by omega, fun j h1 h2 => by omega⟩ ?_ ?_
        · refine ⟨?_, ?_, ?_, ?_, ?_, ?_, ?_⟩ <;> simp only [go_sem, simprocAttr, decide_eq_true_eq, Int.natCast_zero, Int.natCast_one] <;> try first | omega | ((repeat' (first | exact And.intro rfl (by omega) | (refine And.intro ?_ ?_))) <;> first | rfl | omega | (congr 3; omega) | (congr 2; omega))
        · rintro ⟨i, g1, g2, g3⟩
          simp only
          by_cases hi : i < s.size
          · have hbr := bt_rng s i
            by_cases hd : isD (bt s i)
            · have hd' := hd
              unfold isD at hd'
              simp (implicitDefEqProofs := false) (disch := omega) only [go_sem, simprocAttr, go_sem, Nat.le_refl, Int.toNat_natCast, Int.toNat_zero, Int.toNat_one, Tryd.results48]
              refine ⟨⟨i + 1, by omega, hi, allD_step g3 hd⟩, by simp only; omega, ?_⟩
              refine ⟨?_, ?_, ?_, ?_, ?_, ?_, ?_⟩ <;> simp only [go_sem, simprocAttr, decide_eq_true_eq, Int.natCast_add, Int.natCast_one] <;> try first | omega | ((repeat' (first | exact And.intro rfl (by omega) | (refine And.intro ?_ ?_))) <;> first | rfl | omega | (congr 3; omega) | (congr 2; omega))
            · have e := form_bad hi (by rw [hf]; exact g1) hd
              unfold isD at hd
              rw [e]
              by_cases hl : bt s i < 48
              · simp (implicitDefEqProofs := false) (disch := omega) only [go_sem, simprocAttr, go_sem, Nat.le_refl, Int.toNat_natCast, Int.toNat_zero, Int.toNat_one, Tryd.results48]
              · have hl2 : 57 < bt s i := by omega
                simp (implicitDefEqProofs := false) (disch := omega) only [go_sem, simprocAttr, go_sem, Nat.le_refl, Int.toNat_natCast, Int.toNat_zero, Int.toNat_one, Tryd.results48]
          · have hi' : i = s.size := by omega
            subst hi'
            have e : decide (formP s) = true := decide_eq_true ⟨by rw [hf]; omega, by rw [hf]; exact hz, by rw [hf]; exact fun j h1 h2 => g3 j h1 h2⟩
            rw [e]
            simp (implicitDefEqProofs := false) (disch := omega) only [go_sem, simprocAttr, go_sem, Nat.le_refl, Int.toNat_natCast, Int.toNat_zero, Int.toNat_one, Tryd.results48]
      · simp (implicitDefEqProofs := false) (disch := omega) only [go_sem, simprocAttr, go_sem, Nat.le_refl, Int.toNat_natCast, Int.toNat_zero, Int.toNat_one, Tryd.results48, hb0, hz1]
        refine p_loop (ι := { i : Nat // 1 ≤ i ∧ i ≤ s.size ∧ ∀ j, j < i → 1 ≤ j → isD (bt s j) }) (fun i => ⟨[(4, vI i.1), (3, vI 1), (0, vS s)], [], [], 0, 0⟩) (fun i => s.size - i.1) ⟨1, Nat.le_refl _, by omega, fun j h1 h2 => by omega⟩ ?_ ?_
        · refine ⟨?_, ?_, ?_, ?_, ?_, ?_, ?_⟩ <;> simp only [go_sem, simprocAttr, decide_eq_true_eq, Int.natCast_zero, Int.natCast_one] <;> try first | omega | ((repeat' (first | exact And.intro rfl (by omega) | (refine And.intro ?_ ?_))) <;> first | rfl | omega | (congr 3; omega) | (congr 2; omega))
        · rintro ⟨i, g1, g2, g3⟩
          simp only
          by_cases hi : i < s.size
          · have hbr := bt_rng s i
            by_cases hd : isD (bt s i)
            · have hd' := hd
              unfold isD at hd'
              simp (implicitDefEqProofs := false) (disch := omega) only [go_sem, simprocAttr, go_sem, Nat.le_refl, Int.toNat_natCast, Int.toNat_zero, Int.toNat_one, Tryd.results48]
              refine ⟨⟨i + 1, by omega, hi, allD_step g3 hd⟩, by simp only; omega, ?_⟩
              refine ⟨?_, ?_, ?_, ?_, ?_, ?_, ?_⟩ <;> simp only [go_sem, simprocAttr, decide_eq_true_eq, Int.natCast_add, Int.natCast_one] <;> try first | omega | ((repeat' (first | exact And.intro rfl (by omega) | (refine And.intro ?_ ?_))) <;> first | rfl | omega | (congr 3; omega) | (congr 2; omega))
            · have e := form_bad hi (by rw [hf]; exact g1) hd
              unfold isD at hd
              rw [e]
              by_cases hl : bt s i < 48
              · simp (implicitDefEqProofs := false) (disch := omega) only [go_sem, simprocAttr, go_sem, Nat.le_refl, Int.toNat_natCast, Int.toNat_zero, Int.toNat_one, Tryd.results48]
              · have hl2 : 57 < bt s i := by omega
                simp (implicitDefEqProofs := false) (disch := omega) only [go_sem, simprocAttr, go_sem, Nat.le_refl, Int.toNat_natCast, Int.toNat_zero, Int.toNat_one, Tryd.results48]
          · have hi' : i = s.size := by omega
            subst hi'
            have e : decide (formP s) = true := decide_eq_true ⟨by rw [hf]; omega, by rw [hf]; exact hz, by rw [hf]; exact fun j h1 h2 => g3 j h1 h2⟩
            rw [e]
            simp (implicitDefEqProofs := false) (disch := omega) only [go_sem, simprocAttr, go_sem, Nat.le_refl, Int.toNat_natCast, Int.toNat_zero, Int.toNat_one, Tryd.results48]
  · have hf : fromF s = 0 := by unfold fromF; rw [if_neg (fun h => hb0 h.2)]
    by_cases hz : bt s (0 : Nat) = 48 ∧ 0 + 1 < s.size
    · have e : decide (formP s) = false := decide_eq_false (fun h => by have := h.2.1; rw [hf] at this; exact this hz)
      rw [e]
      have hz1 : bt s 0 = 48 := hz.1
      simp (implicitDefEqProofs := false) (disch := omega) only [go_sem, simprocAttr, go_sem, Nat.le_refl, Int.toNat_natCast, Int.toNat_zero, Int.toNat_one, Tryd.results48, hb0, hz1]
    · have hz' : ¬ (bt s 0 = 48 ∧ 0 + 1 < s.size) := hz
      by_cases hz1 : bt s 0 = 48
      · simp (implicitDefEqProofs := false) (disch := omega) only [go_sem, simprocAttr, go_sem, Nat.le_refl, Int.toNat_natCast, Int.toNat_zero, Int.toNat_one, Tryd.results48, hb0, hz1]
        refine p_loop (ι := { i : Nat // 0 ≤ i ∧ i ≤ s.size ∧ ∀ j, j < i → 0 ≤ j → isD (bt s j) }) (fun i => ⟨[(4, vI i.1), (3, vI 0), (0, vS s)], [], [], 0, 0⟩) (fun i => s.size - i.1) ⟨0, Nat.le_refl _, by omega, fun j h1 h2 => by omega⟩ ?_ ?_
        · refine ⟨?_, ?_, ?_, ?_, ?_, ?_, ?_⟩ <;> simp only [go_sem, simprocAttr, decide_eq_true_eq, Int.natCast_zero, Int.natCast_one] <;> try first | omega | ((repeat' (first | exact And.intro rfl (by omega) | (refine And.intro ?_ ?_))) <;> first | rfl | omega | (congr 3; omega) | (congr 2; omega))
        · rintro ⟨i, g1, g2, g3⟩
          simp only
          by_cases hi : i < s.size
          · have hbr := bt_rng s i
            by_cases hd : isD (bt s i)
            · have hd' := hd
              unfold isD at hd'
              simp (implicitDefEqProofs := false) (disch := omega) only [go_sem, simprocAttr, go_sem, Nat.le_refl, Int.toNat_natCast, Int.toNat_zero, Int.toNat_one, Tryd.results48]
              refine ⟨⟨i + 1, by omega, hi, allD_step g3 hd⟩, by simp only; omega, ?_⟩
              refine ⟨?_, ?_, ?_, ?_, ?_, ?_, ?_⟩ <;> simp only [go_sem, simprocAttr, decide_eq_true_eq, Int.natCast_add, Int.natCast_one] <;> try first | omega | ((repeat' (first | exact And.intro rfl (by omega) | (refine And.intro ?_ ?_))) <;> first | rfl | omega | (congr 3; omega) | (congr 2; omega))
            · have e := form_bad hi (by rw [hf]; exact g1) hd
              unfold isD at hd
              rw [e]
              by_cases hl : bt s i < 48
              · simp (implicitDefEqProofs := false) (disch := omega) only [go_sem, simprocAttr, go_sem, Nat.le_refl, Int.toNat_natCast, Int.toNat_zero, Int.toNat_one, Tryd.results48]
              · have hl2 : 57 < bt s i := by omega
                simp (implicitDefEqProofs := false) (disch := omega) only [go_sem, simprocAttr, go_sem, Nat.le_refl, Int.toNat_natCast, Int.toNat_zero, Int.toNat_one, Tryd.results48]
          · have hi' : i = s.size := by omega
            subst hi'
            have e : decide (formP s) = true := decide_eq_true ⟨by rw [hf]; omega, by rw [hf]; exact hz, by rw [hf]; exact fun j h1 h2 => g3 j h1 h2⟩
            rw [e]
            simp (implicitDefEqProofs := false) (disch := omega) only [go_sem, simprocAttr, go_sem, Nat.le_refl, Int.toNat_natCast, Int.toNat_zero, Int.toNat_one, Tryd.results48]
      · simp (implicitDefEqProofs := false) (disch := omega) only [go_sem, simprocAttr, go_sem, Nat.le_refl, Int.toNat_natCast, Int.toNat_zero, Int.toNat_one, Tryd.results48, hb0, hz1]
        refine p_loop (ι := { i : Nat // 0 ≤ i ∧ i ≤ s.size ∧ ∀ j, j < i → 0 ≤ j → isD (bt s j) }) (fun i => ⟨[(4, vI i.1), (3, vI 0), (0, vS s)], [], [], 0, 0⟩) (fun i => s.size - i.1) ⟨0, Nat.le_refl _, by omega, fun j h1 h2 => by omega⟩ ?_ ?_
        · refine ⟨?_, ?_, ?_, ?_, ?_, ?_, ?_⟩ <;> simp only [go_sem, simprocAttr, decide_eq_true_eq, Int.natCast_zero, Int.natCast_one] <;> try first | omega | ((repeat' (first | exact And.intro rfl (by omega) | (refine And.intro ?_ ?_))) <;> first | rfl | omega | (congr 3; omega) | (congr 2; omega))
        · rintro ⟨i, g1, g2, g3⟩
          simp only
          by_cases hi : i < s.size
          · have hbr := bt_rng s i
            by_cases hd : isD (bt s i)
            · have hd' := hd
              unfold isD at hd'
              simp (implicitDefEqProofs := false) (disch := omega) only [go_sem, simprocAttr, go_sem, Nat.le_refl, Int.toNat_natCast, Int.toNat_zero, Int.toNat_one, Tryd.results48]
              refine ⟨⟨i + 1, by omega, hi, allD_step g3 hd⟩, by simp only; omega, ?_⟩
              refine ⟨?_, ?_, ?_, ?_, ?_, ?_, ?_⟩ <;> simp only [go_sem, simprocAttr, decide_eq_true_eq, Int.natCast_add, Int.natCast_one] <;> try first | omega | ((repeat' (first | exact And.intro rfl (by omega) | (refine And.intro ?_ ?_))) <;> first | rfl | omega | (congr 3; omega) | (congr 2; omega))
            · have e := form_bad hi (by rw [hf]; exact g1) hd
              unfold isD at hd
              rw [e]
              by_cases hl : bt s i < 48
              · simp (implicitDefEqProofs := false) (disch := omega) only [go_sem, simprocAttr, go_sem, Nat.le_refl, Int.toNat_natCast, Int.toNat_zero, Int.toNat_one, Tryd.results48]
              · have hl2 : 57 < bt s i := by omega
                simp (implicitDefEqProofs := false) (disch := omega) only [go_sem, simprocAttr, go_sem, Nat.le_refl, Int.toNat_natCast, Int.toNat_zero, Int.toNat_one, Tryd.results48]
          · have hi' : i = s.size := by omega
            subst hi'
            have e : decide (formP s) = true := decide_eq_true ⟨by rw [hf]; omega, by rw [hf]; exact hz, by rw [hf]; exact fun j h1 h2 => g3 j h1 h2⟩
            rw [e]
            simp (implicitDefEqProofs := false) (disch := omega) only [go_sem, simprocAttr, go_sem, Nat.le_refl, Int.toNat_natCast, Int.toNat_zero, Int.toNat_one, Tryd.results48]
end Go.Proofs.YtegehnojbfedlaaDoor

end
section
/-
  Numbers' texts: the document's Number, Parse.
-/
open Go Go.Proofs Go.Pw
namespace Go.Proofs.YtegehnojbfedlaaDoor
set_option maxRecDepth 4000
set_option linter.unusedVariables false
set_option linter.unusedSimpArgs false
/-- A number that isn't below 0. -/
abbrev nz (z : Int) : PV := .agg [vB false, .sl (encI (figs z.natAbs))]
theorem repN_nn {z : Int} (h : 0 ≤ z) : repN z = nz z := by unfold repN; rw [decide_eq_false (by omega)]
theorem fg1 {z : Int} (h : z.natAbs < 10000) : Fg 1 z := by unfold Fg; simpa using h
set_option maxHeartbeats 4000000 in
theorem number_ok (t : ByteArray) (h : allD t 0) (ht : t.size ≤ 8000) : Ok Tryd.prog 50 [vS t] (repN (numV t t.size)) := by
  have c1 : Ok Tryd.prog 18 [vI 10] (nz 10) := by rw [← repN_nn (by decide)]; exact of_rep 10 (by decide)
  rw [repN_nn (numV_nn h (Nat.le_refl _))]
  refine Ok.of_pwp (by kernel_rfl) Tryd.func50 rfl (by kernel_rfl) (by kernel_rfl) ?_
  simp (implicitDefEqProofs := false) (disch := omega) only [go_sem, simprocAttr, go_sem, Nat.le_refl, Int.toNat_natCast, Int.toNat_zero, Int.toNat_one, Tryd.results50]
  refine p_loop (ι := { i : Nat // i ≤ t.size }) (fun i => ⟨[(4, vI i.1), (3, .ptr 2 0), (2, .ptr 0 0), (0, vS t)], [(2, .box 44 [vB false, .sl (encI (figs (numV t i.1).natAbs))]), (0, .box 44 [vB false, vNil])], [], 3, 0⟩) (fun i => t.size - i.1) ⟨0, Nat.zero_le _⟩ ?_ ?_
  · refine ⟨?_, ?_, ?_, ?_, ?_, ?_, ?_⟩ <;> simp only [go_sem, simprocAttr, decide_eq_true_eq, Int.natCast_zero, numV, Int.natAbs_zero, figs_zero, encI_nil] <;> try first | omega | ((repeat' (first | exact And.intro rfl (by omega) | (refine And.intro ?_ ?_))) <;> first | rfl | omega | (congr 3; omega) | (congr 2; omega))
  · rintro ⟨i, hi⟩
    simp only
    by_cases hl : i < t.size
    · have d := h i hl (Nat.zero_le _)
      unfold isD at d
      have nn := numV_nn h hi
      have fg := numV_fg h hi
      have nn1 := numV_nn h (i := i + 1) (by omega)
      have ew : IntKind.u8.wrap (bt t i - 48) = bt t i - 48 := by rw [IntKind.wrap_u8]; omega
      have ew2 : IntKind.i64.wrap (bt t i - 48) = bt t i - 48 := by rw [IntKind.wrap_i64]; omega
      have c2 := mul_rep (j := i) (k := 1) (numV t i) 10 fg (fg1 (by decide)) (by omega)
      rw [repN_nn nn, repN_nn (show (0 : Int) ≤ 10 by decide), repN_nn (by omega)] at c2
      have c3 := of_rep (bt t i - 48) (by unfold fits; omega)
      rw [repN_nn (by omega)] at c3
      have c4 := add_rep (numV t i * 10) (bt t i - 48) ((fg.mul (fg1 (z := 10) (by decide))).sm (by omega)) ((fg1 (by omega)).sm (by decide))
      rw [repN_nn (by omega), repN_nn (by omega), repN_nn (by rw [numV] at nn1; exact nn1)] at c4
      simp (implicitDefEqProofs := false) (disch := omega) only [go_sem, simprocAttr, go_sem, Nat.le_refl, Int.toNat_natCast, Int.toNat_zero, Int.toNat_one, Tryd.results50, ew, ew2]
      with_reducible refine CallOk.of c1 rfl ?_
      simp (implicitDefEqProofs := false) (disch := omega) only [go_sem, simprocAttr, go_sem, Nat.le_refl, Int.toNat_natCast, Int.toNat_zero, Int.toNat_one, Tryd.results50, ew, ew2]
      with_reducible refine CallOk.of c2 rfl ?_
      simp (implicitDefEqProofs := false) (disch := omega) only [go_sem, simprocAttr, go_sem, Nat.le_refl, Int.toNat_natCast, Int.toNat_zero, Int.toNat_one, Tryd.results50, ew, ew2]
      with_reducible refine CallOk.of c3 rfl ?_
      simp (implicitDefEqProofs := false) (disch := omega) only [go_sem, simprocAttr, go_sem, Nat.le_refl, Int.toNat_natCast, Int.toNat_zero, Int.toNat_one, Tryd.results50, ew, ew2]
      with_reducible refine CallOk.of c4 rfl ?_
      simp (implicitDefEqProofs := false) (disch := omega) only [go_sem, simprocAttr, go_sem, Nat.le_refl, Int.toNat_natCast, Int.toNat_zero, Int.toNat_one, Tryd.results50, ew, ew2]
      refine ⟨⟨i + 1, hl⟩, by simp only; omega, ?_⟩
      simp only [numV]
      refine ⟨?_, ?_, ?_, ?_, ?_, ?_, ?_⟩ <;> simp only [go_sem, simprocAttr, decide_eq_true_eq, Int.natCast_add, Int.natCast_one] <;> try first | omega | ((repeat' (first | exact And.intro rfl (by omega) | (refine And.intro ?_ ?_))) <;> first | rfl | omega | (congr 3; omega) | (congr 2; omega))
    · have hi' : i = t.size := by omega
      subst hi'
      simp (implicitDefEqProofs := false) (disch := omega) only [go_sem, simprocAttr, go_sem, Nat.le_refl, Int.toNat_natCast, Int.toNat_zero, Int.toNat_one, Tryd.results50]
def pC (s : ByteArray) : Int := if formP s then (if fits (zOf s) then 0 else 4) else 1
def pV (s : ByteArray) : Int := if pC s = 0 then zOf s else 0
theorem pC_0 {s : ByteArray} (h : formP s) (k : fits (zOf s)) : pC s = 0 := by rw [pC, if_pos h, if_pos k]
theorem pC_4 {s : ByteArray} (h : formP s) (k : ¬ fits (zOf s)) : pC s = 4 := by rw [pC, if_pos h, if_neg k]
theorem pC_1 {s : ByteArray} (h : ¬ formP s) : pC s = 1 := by rw [pC, if_neg h]
theorem pV_0 {s : ByteArray} (h : pC s = 0) : pV s = zOf s := by rw [pV, if_pos h]
theorem pV_n {s : ByteArray} (h : pC s ≠ 0) : pV s = 0 := by rw [pV, if_neg h]
theorem repN_zero : repN 0 = .agg [vB false, .sl []] := by unfold repN; rw [Int.natAbs_zero, figs_zero]; rfl
set_option maxHeartbeats 4000000 in
theorem rparse_ok (s : ByteArray) (hs : s.size ≤ 8000) : Ok Tryd.prog 33 [vS s] (.tup [repN (pV s), vI (pC s)]) := by
  have c0 := rform_ok s (by omega)
  refine Ok.of_pwp (by kernel_rfl) Tryd.func33 rfl (by kernel_rfl) (by kernel_rfl) ?_
  by_cases hf : formP s
  · have h0 : fromF s < s.size := hf.1
    have c1 := number_ok (digS s) (digS_all hf) (by rw [digS_size hf]; omega)
    have fg := numV_fg (digS_all hf) (Nat.le_refl _)
    have hz := digS_size hf
    rw [decide_eq_true hf] at c0
    simp (implicitDefEqProofs := false) (disch := omega) only [go_sem, simprocAttr, go_sem, Nat.le_refl, Int.toNat_natCast, Int.toNat_zero, Int.toNat_one, Tryd.results33]
    with_reducible refine CallOk.of c0 rfl ?_
    by_cases hb0 : bt s 0 = 45
    · have e1 : digS s = s.extract 1 s.size := by unfold digS; rw [if_pos hb0]
      have e2 : zOf s = -(numV (digS s) (digS s).size) := by unfold zOf; rw [if_pos hb0]
      have c2 := neg_rep (numV (digS s) (digS s).size) (fg.sm (by omega))
      have c3 := fits_rep (zOf s) (by rw [e2]; exact fg.neg.sm (by omega))
      rw [← e2] at c2
      rw [e1] at c1
      rw [e1] at c2
      unfold repN at c1 c2 c3
      simp (implicitDefEqProofs := false) (disch := omega) only [go_sem, simprocAttr, go_sem, Nat.le_refl, Int.toNat_natCast, Int.toNat_zero, Int.toNat_one, Tryd.results33, hb0]
      with_reducible refine CallOk.of c1 rfl ?_
      simp (implicitDefEqProofs := false) (disch := omega) only [go_sem, simprocAttr, go_sem, Nat.le_refl, Int.toNat_natCast, Int.toNat_zero, Int.toNat_one, Tryd.results33, hb0]
      with_reducible refine CallOk.of c2 rfl ?_
      simp (implicitDefEqProofs := false) (disch := omega) only [go_sem, simprocAttr, go_sem, Nat.le_refl, Int.toNat_natCast, Int.toNat_zero, Int.toNat_one, Tryd.results33, hb0]
      with_reducible refine CallOk.of c3 rfl ?_
      by_cases hk : fits (zOf s)
      · rw [pV_0 (pC_0 hf hk), pC_0 hf hk, decide_eq_true hk]
        simp (implicitDefEqProofs := false) (disch := omega) only [go_sem, simprocAttr, go_sem, Nat.le_refl, Int.toNat_natCast, Int.toNat_zero, Int.toNat_one, Tryd.results33, hb0]
        rfl
      · rw [pV_n (by rw [pC_4 hf hk]; decide), pC_4 hf hk, decide_eq_false hk, repN_zero]
        simp (implicitDefEqProofs := false) (disch := omega) only [go_sem, simprocAttr, go_sem, Nat.le_refl, Int.toNat_natCast, Int.toNat_zero, Int.toNat_one, Tryd.results33, hb0]
    · have e1 : digS s = s := by unfold digS; rw [if_neg hb0]
      have e2 : zOf s = numV (digS s) (digS s).size := by unfold zOf; rw [if_neg hb0]
      have c3 := fits_rep (zOf s) (by rw [e2]; exact fg.sm (by omega))
      rw [← e2, e1] at c1
      unfold repN at c1 c3
      simp (implicitDefEqProofs := false) (disch := omega) only [go_sem, simprocAttr, go_sem, Nat.le_refl, Int.toNat_natCast, Int.toNat_zero, Int.toNat_one, Tryd.results33, hb0]
      with_reducible refine CallOk.of c1 rfl ?_
      simp (implicitDefEqProofs := false) (disch := omega) only [go_sem, simprocAttr, go_sem, Nat.le_refl, Int.toNat_natCast, Int.toNat_zero, Int.toNat_one, Tryd.results33, hb0]
      with_reducible refine CallOk.of c3 rfl ?_
      by_cases hk : fits (zOf s)
      · rw [pV_0 (pC_0 hf hk), pC_0 hf hk, decide_eq_true hk]
        simp (implicitDefEqProofs := false) (disch := omega) only [go_sem, simprocAttr, go_sem, Nat.le_refl, Int.toNat_natCast, Int.toNat_zero, Int.toNat_one, Tryd.results33, hb0]
        rfl
      · rw [pV_n (by rw [pC_4 hf hk]; decide), pC_4 hf hk, decide_eq_false hk, repN_zero]
        simp (implicitDefEqProofs := false) (disch := omega) only [go_sem, simprocAttr, go_sem, Nat.le_refl, Int.toNat_natCast, Int.toNat_zero, Int.toNat_one, Tryd.results33, hb0]
  · rw [decide_eq_false hf] at c0
    rw [pV_n (by rw [pC_1 hf]; decide), pC_1 hf, repN_zero]
    simp (implicitDefEqProofs := false) (disch := omega) only [go_sem, simprocAttr, go_sem, Nat.le_refl, Int.toNat_natCast, Int.toNat_zero, Int.toNat_one, Tryd.results33]
    with_reducible refine CallOk.of c0 rfl ?_
    simp (implicitDefEqProofs := false) (disch := omega) only [go_sem, simprocAttr, go_sem, Nat.le_refl, Int.toNat_natCast, Int.toNat_zero, Int.toNat_one, Tryd.results33]
end Go.Proofs.YtegehnojbfedlaaDoor

end
section
/-
  Numbers' texts: the program's form, Parse, Text.
-/
open Go Go.Proofs Go.Pw
namespace Go.Proofs.YtegehnojbfedlaaDoor
set_option maxRecDepth 4000
set_option linter.unusedVariables false
set_option linter.unusedSimpArgs false
theorem trimDig_ok (s : ByteArray) : Ok Tryd.prog 63 [vS s, vS ⟨#[45]⟩] (vS (digS s)) := by
  have h := trimP_ok s ⟨#[45]⟩
  have e := trim_dig s
  rw [← e]
  exact h
theorem form_dig (s : ByteArray) : formP s ↔ 0 < (digS s).size ∧ ¬ (bt (digS s) 0 = 48 ∧ 1 < (digS s).size) ∧ allD (digS s) 0 := by
  unfold formP digS fromF
  by_cases h0 : s.size = 0
  · rw [if_neg (by omega)]
    constructor
    · intro h; have := h.1; omega
    · intro h
      have := h.1
      split at this
      · simp at this; omega
      · omega
  · by_cases hb : bt s 0 = 45
    · rw [if_pos ⟨by omega, hb⟩, if_pos hb]
      have hz : (s.extract 1 s.size).size = s.size - 1 := by simp
      rw [hz]
      by_cases h1 : s.size = 1
      · constructor
        · intro h; have := h.1; omega
        · intro h; have := h.1; omega
      · have e1 : bt (s.extract 1 s.size) 0 = bt s (1 : Nat) := bt_ext s (a := 1) (b := s.size) (i := 0) (by omega)
        rw [e1]
        refine ⟨fun ⟨h1, h2, h3⟩ => ⟨by omega, fun k => h2 ⟨k.1, by omega⟩, fun j hj _ => ?_⟩, fun ⟨h1, h2, h3⟩ => ⟨by omega, fun k => h2 ⟨k.1, by omega⟩, fun j hj hk => ?_⟩⟩
        · rw [bt_ext s (by omega)]; exact h3 (1 + j) (by omega) (by omega)
        · have := h3 (j - 1) (by omega) (by omega)
          rw [bt_ext s (by omega), show 1 + (j - 1) = j by omega] at this
          exact this
    · rw [if_neg (fun k => hb k.2), if_neg hb]
      exact ⟨fun ⟨h1, h2, h3⟩ => ⟨h1, fun k => h2 ⟨k.1, by omega⟩, h3⟩, fun ⟨h1, h2, h3⟩ => ⟨h1, fun k => h2 ⟨k.1, by omega⟩, h3⟩⟩
def dgB (d : ByteArray) : Bool := decide (0 < d.size ∧ ¬ (bt d 0 = 48 ∧ 1 < d.size) ∧ allD d 0)
theorem form_dgB (s : ByteArray) : decide (formP s) = dgB (digS s) := decide_eq_decide.2 (form_dig s)
theorem digS_le (s : ByteArray) : (digS s).size ≤ s.size := by
  unfold digS
  split
  · rw [ByteArray.size_extract]; omega
  · exact Nat.le_refl _
/-- The first rune of what isn't ASCII. -/
theorem dec_lo {s : ByteArray} {i : Nat} (h : i < s.size) (hb : bt s i < 128) : Utf8.decode s i = ((bt s i).toNat, 1) := by
  have e : bt s i = ((s[i]'h).toNat : Int) := bt_list (by rw [Array.getElem?_toList]; exact Array.getElem?_eq_getElem h)
  rw [decode_ascii s i h (by omega), e]; rfl
theorem dec_hi {s : ByteArray} {i : Nat} (hb : 128 ≤ bt s i) : 128 ≤ (Utf8.decode s i).1 := by
  unfold bt at hb
  rw [Int.toNat_natCast] at hb
  rw [Lib.decode_N]
  generalize (s.data.toList.getD i 0).toNat = x at *
  unfold Lib.decodeN
  rw [if_neg (by omega)]
  repeat' split
  all_goals first | omega | (simp only; omega)
theorem form_ok (s : ByteArray) (hs : s.size ≤ 1000000) : Ok Tryd.prog 42 [vS s] (vB (decide (formP s))) := by
  have c0 := trimDig_ok s
  have hz : (digS s).size ≤ 1000000 := Nat.le_trans (digS_le s) hs
  rw [form_dgB]
  generalize digS s = d at *
  refine Ok.of_pwp (by kernel_rfl) Tryd.func42 rfl (by kernel_rfl) (by kernel_rfl) ?_
  by_cases h0 : d.size = 0
  · have he : decide (d.data.toList = []) = true := decide_eq_true (List.eq_nil_of_length_eq_zero (by rw [Array.length_toList]; exact h0))
    have e : dgB d = false := decide_eq_false (fun h => by have := h.1; omega)
    rw [e]
    simp (implicitDefEqProofs := false) (disch := omega) only [go_sem, simprocAttr, go_sem, Nat.le_refl, Int.toNat_natCast, Int.toNat_zero, Int.toNat_one, str_eq, Tryd.results42, he]
    with_reducible refine CallOk.of c0 rfl ?_
    simp (implicitDefEqProofs := false) (disch := omega) only [go_sem, simprocAttr, go_sem, Nat.le_refl, Int.toNat_natCast, Int.toNat_zero, Int.toNat_one, str_eq, Tryd.results42, he]
  have he : decide (d.data.toList = []) = false := decide_eq_false (fun h => h0 (by have := congrArg List.length h; rw [Array.length_toList] at this; exact this))
  have b0 := bt_rng d 0
  by_cases hz1 : bt d 0 = 48 ∧ 1 < d.size
  · have hd0 := hz1.1
    have he2 : decide (d.data.toList = [48]) = false := decide_eq_false (fun h => by
      have := congrArg List.length h
      rw [Array.length_toList] at this
      have h1 : d.size = 1 := this
      omega)
    have e : dgB d = false := decide_eq_false (fun h => h.2.1 hz1)
    rw [e]
    simp (implicitDefEqProofs := false) (disch := omega) only [go_sem, simprocAttr, go_sem, Nat.le_refl, Int.toNat_natCast, Int.toNat_zero, Int.toNat_one, str_eq, Tryd.results42, he, he2, hd0]
    with_reducible refine CallOk.of c0 rfl ?_
    simp (implicitDefEqProofs := false) (disch := omega) only [go_sem, simprocAttr, go_sem, Nat.le_refl, Int.toNat_natCast, Int.toNat_zero, Int.toNat_one, str_eq, Tryd.results42, he, he2, hd0]
  by_cases hd0 : bt d 0 = 48
  · have h1 : d.size = 1 := by omega
    have he2 : decide (d.data.toList = [48]) = true := decide_eq_true (by
      obtain ⟨c, hc⟩ : ∃ c, d.data.toList = [c] := List.length_eq_one_iff.1 (by rw [Array.length_toList]; exact h1)
      have := bt_list (s := d) (i := 0) (c := c) (by rw [hc]; rfl)
      rw [hc]
      congr 1
      apply UInt8.toNat_inj.1
      have h2 : bt d (0 : Nat) = 48 := hd0
      rw [h2] at this
      show c.toNat = 48
      omega)
    simp (implicitDefEqProofs := false) (disch := omega) only [go_sem, simprocAttr, go_sem, Nat.le_refl, Int.toNat_natCast, Int.toNat_zero, Int.toNat_one, str_eq, Tryd.results42, he, he2, hd0]
    with_reducible refine CallOk.of c0 rfl ?_
    simp (implicitDefEqProofs := false) (disch := omega) only [go_sem, simprocAttr, go_sem, Nat.le_refl, Int.toNat_natCast, Int.toNat_zero, Int.toNat_one, str_eq, Tryd.results42, he, he2, hd0]
    refine p_loop (ι := { i : Nat // i ≤ d.size ∧ ∀ j, j < i → 0 ≤ j → isD (bt d j) }) (fun i => ⟨[(20, .ptr 16 0)], [(16, .iter d i.1)], [], 17, 0⟩) (fun i => d.size - i.1) ⟨0, Nat.zero_le _, fun j h1 h2 => by omega⟩ ?_ ?_
    · refine ⟨?_, ?_, ?_, ?_, ?_, ?_, ?_⟩ <;> simp only [go_sem, simprocAttr, decide_eq_true_eq, ] <;> try first | omega | ((repeat' (first | exact And.intro rfl (by omega) | (refine And.intro ?_ ?_))) <;> first | rfl | omega | (congr 3; omega) | (congr 2; omega))
    · rintro ⟨i, g1, g2⟩
      simp only
      by_cases hi : i < d.size
      · have hbr := bt_rng d i
        by_cases hd : isD (bt d i)
        · have hd' := hd
          unfold isD at hd'
          have ed := dec_lo hi (by omega)
          simp (implicitDefEqProofs := false) (disch := omega) only [go_sem, simprocAttr, go_sem, Nat.le_refl, Int.toNat_natCast, Int.toNat_zero, Int.toNat_one, str_eq, Tryd.results42, ed]
          refine ⟨⟨i + 1, hi, allD_step g2 hd⟩, by simp only; omega, ?_⟩
          refine ⟨?_, ?_, ?_, ?_, ?_, ?_, ?_⟩ <;> simp only [go_sem, simprocAttr, decide_eq_true_eq, ] <;> try first | omega | ((repeat' (first | exact And.intro rfl (by omega) | (refine And.intro ?_ ?_))) <;> first | rfl | omega | (congr 3; omega) | (congr 2; omega))
        · have e : dgB d = false := decide_eq_false (fun k => hd (k.2.2 i hi (Nat.zero_le _)))
          rw [e]
          unfold isD at hd
          by_cases hlo : bt d i < 128
          · have ed := dec_lo hi hlo
            by_cases hl : bt d i < 48
            · simp (implicitDefEqProofs := false) (disch := omega) only [go_sem, simprocAttr, go_sem, Nat.le_refl, Int.toNat_natCast, Int.toNat_zero, Int.toNat_one, str_eq, Tryd.results42, ed]
            · simp (implicitDefEqProofs := false) (disch := omega) only [go_sem, simprocAttr, go_sem, Nat.le_refl, Int.toNat_natCast, Int.toNat_zero, Int.toNat_one, str_eq, Tryd.results42, ed]
          · have ed := dec_hi (s := d) (i := i) (by omega)
            simp (implicitDefEqProofs := false) (disch := omega) only [go_sem, simprocAttr, go_sem, Nat.le_refl, Int.toNat_natCast, Int.toNat_zero, Int.toNat_one, str_eq, Tryd.results42]
      · have hi' : i = d.size := by omega
        subst hi'
        have e : dgB d = true := decide_eq_true ⟨by omega, hz1, fun j h1 h2 => g2 j h1 h2⟩
        rw [e]
        simp (implicitDefEqProofs := false) (disch := omega) only [go_sem, simprocAttr, go_sem, Nat.le_refl, Int.toNat_natCast, Int.toNat_zero, Int.toNat_one, str_eq, Tryd.results42]
  · simp (implicitDefEqProofs := false) (disch := omega) only [go_sem, simprocAttr, go_sem, Nat.le_refl, Int.toNat_natCast, Int.toNat_zero, Int.toNat_one, str_eq, Tryd.results42, he]
    with_reducible refine CallOk.of c0 rfl ?_
    simp (implicitDefEqProofs := false) (disch := omega) only [go_sem, simprocAttr, go_sem, Nat.le_refl, Int.toNat_natCast, Int.toNat_zero, Int.toNat_one, str_eq, Tryd.results42, he]
    refine p_loop (ι := { i : Nat // i ≤ d.size ∧ ∀ j, j < i → 0 ≤ j → isD (bt d j) }) (fun i => ⟨[(20, .ptr 16 0)], [(16, .iter d i.1)], [], 17, 0⟩) (fun i => d.size - i.1) ⟨0, Nat.zero_le _, fun j h1 h2 => by omega⟩ ?_ ?_
    · refine ⟨?_, ?_, ?_, ?_, ?_, ?_, ?_⟩ <;> simp only [go_sem, simprocAttr, decide_eq_true_eq, ] <;> try first | omega | ((repeat' (first | exact And.intro rfl (by omega) | (refine And.intro ?_ ?_))) <;> first | rfl | omega | (congr 3; omega) | (congr 2; omega))
    · rintro ⟨i, g1, g2⟩
      simp only
      by_cases hi : i < d.size
      · have hbr := bt_rng d i
        by_cases hd : isD (bt d i)
        · have hd' := hd
          unfold isD at hd'
          have ed := dec_lo hi (by omega)
          simp (implicitDefEqProofs := false) (disch := omega) only [go_sem, simprocAttr, go_sem, Nat.le_refl, Int.toNat_natCast, Int.toNat_zero, Int.toNat_one, str_eq, Tryd.results42, ed]
          refine ⟨⟨i + 1, hi, allD_step g2 hd⟩, by simp only; omega, ?_⟩
          refine ⟨?_, ?_, ?_, ?_, ?_, ?_, ?_⟩ <;> simp only [go_sem, simprocAttr, decide_eq_true_eq, ] <;> try first | omega | ((repeat' (first | exact And.intro rfl (by omega) | (refine And.intro ?_ ?_))) <;> first | rfl | omega | (congr 3; omega) | (congr 2; omega))
        · have e : dgB d = false := decide_eq_false (fun k => hd (k.2.2 i hi (Nat.zero_le _)))
          rw [e]
          unfold isD at hd
          by_cases hlo : bt d i < 128
          · have ed := dec_lo hi hlo
            by_cases hl : bt d i < 48
            · simp (implicitDefEqProofs := false) (disch := omega) only [go_sem, simprocAttr, go_sem, Nat.le_refl, Int.toNat_natCast, Int.toNat_zero, Int.toNat_one, str_eq, Tryd.results42, ed]
            · simp (implicitDefEqProofs := false) (disch := omega) only [go_sem, simprocAttr, go_sem, Nat.le_refl, Int.toNat_natCast, Int.toNat_zero, Int.toNat_one, str_eq, Tryd.results42, ed]
          · have ed := dec_hi (s := d) (i := i) (by omega)
            simp (implicitDefEqProofs := false) (disch := omega) only [go_sem, simprocAttr, go_sem, Nat.le_refl, Int.toNat_natCast, Int.toNat_zero, Int.toNat_one, str_eq, Tryd.results42]
      · have hi' : i = d.size := by omega
        subst hi'
        have e : dgB d = true := decide_eq_true ⟨by omega, hz1, fun j h1 h2 => g2 j h1 h2⟩
        rw [e]
        simp (implicitDefEqProofs := false) (disch := omega) only [go_sem, simprocAttr, go_sem, Nat.le_refl, Int.toNat_natCast, Int.toNat_zero, Int.toNat_one, str_eq, Tryd.results42]
/-- A number's text, parsed. -/
theorem parse_ok (s : ByteArray) (hs : s.size ≤ 1000000) : Ok Tryd.prog 30 [vS s] (two (pV s) (pC s)) := by
  have c0 := form_ok s hs
  refine Ok.of_pwp (by kernel_rfl) Tryd.func30 rfl (by kernel_rfl) (by kernel_rfl) ?_
  by_cases hf : formP s
  · rw [decide_eq_true hf] at c0
    simp (implicitDefEqProofs := false) (disch := omega) only [go_sem, simprocAttr, go_sem, Nat.le_refl, Int.toNat_natCast, Int.toNat_zero, Int.toNat_one, str_eq, Tryd.results30]
    with_reducible refine CallOk.of c0 rfl ?_
    by_cases hk : fits (zOf s)
    · have c1 := parseInt_yes s hs hf hk
      rw [pV_0 (pC_0 hf hk), pC_0 hf hk]
      simp (implicitDefEqProofs := false) (disch := omega) only [go_sem, simprocAttr, go_sem, Nat.le_refl, Int.toNat_natCast, Int.toNat_zero, Int.toNat_one, str_eq, Tryd.results30]
      with_reducible refine CallOk.of c1 rfl ?_
      simp (implicitDefEqProofs := false) (disch := omega) only [go_sem, simprocAttr, go_sem, Nat.le_refl, Int.toNat_natCast, Int.toNat_zero, Int.toNat_one, str_eq, Tryd.results30]
    · have c1 := parseInt_no s hs hf hk
      rw [pV_n (by rw [pC_4 hf hk]; decide), pC_4 hf hk]
      simp (implicitDefEqProofs := false) (disch := omega) only [go_sem, simprocAttr, go_sem, Nat.le_refl, Int.toNat_natCast, Int.toNat_zero, Int.toNat_one, str_eq, Tryd.results30]
      with_reducible refine CallOk.of c1 rfl ?_
      simp (implicitDefEqProofs := false) (disch := omega) only [go_sem, simprocAttr, go_sem, Nat.le_refl, Int.toNat_natCast, Int.toNat_zero, Int.toNat_one, str_eq, Tryd.results30]
  · rw [decide_eq_false hf] at c0
    rw [pV_n (by rw [pC_1 hf]; decide), pC_1 hf]
    simp (implicitDefEqProofs := false) (disch := omega) only [go_sem, simprocAttr, go_sem, Nat.le_refl, Int.toNat_natCast, Int.toNat_zero, Int.toNat_one, str_eq, Tryd.results30]
    with_reducible refine CallOk.of c0 rfl ?_
    simp (implicitDefEqProofs := false) (disch := omega) only [go_sem, simprocAttr, go_sem, Nat.le_refl, Int.toNat_natCast, Int.toNat_zero, Int.toNat_one, str_eq, Tryd.results30]
/-- An integer's text. -/
def sOf (n : Int) : ByteArray := ⟨(Lib.itoa n).toArray⟩
theorem wtext_ok (n : Int) (h : fits n) : Ok Tryd.prog 38 [vI n] (vS (sOf n)) := by
  have c0 := formatInt_ok n h
  refine Ok.of_pwp (by kernel_rfl) Tryd.func38 rfl (by kernel_rfl) (by kernel_rfl) ?_
  simp (implicitDefEqProofs := false) (disch := omega) only [go_sem, simprocAttr, go_sem, Nat.le_refl, Int.toNat_natCast, Int.toNat_zero, Int.toNat_one, str_eq, Tryd.results38]
  with_reducible refine CallOk.of c0 rfl ?_
  simp (implicitDefEqProofs := false) (disch := omega) only [go_sem, simprocAttr, go_sem, Nat.le_refl, Int.toNat_natCast, Int.toNat_zero, Int.toNat_one, str_eq, Tryd.results38]
  rfl
end Go.Proofs.YtegehnojbfedlaaDoor

end
section
/-
  Chapter 25: blanks; strings.TrimLeft and strings.IndexAny at them.
-/
open Go Go.Proofs Go.Pw Go.RowKit
namespace Go.Proofs.YtegehnojbfedlaaDoor
set_option maxRecDepth 4000
set_option linter.unusedVariables false
set_option linter.unusedSimpArgs false
/-- A blank. -/
def isb (b : UInt8) : Bool := b == 32 || b == 9 || b == 10 || b == 13
abbrev BL : ByteArray := ⟨#[32, 9, 10, 13]⟩
def bA (l : List UInt8) : ByteArray := ⟨l.toArray⟩
theorem sz_bA (l : List UInt8) : (bA l).size = l.length := rfl
theorem tl_bA (l : List UInt8) : (bA l).data.toList = l := rfl
theorem bA_self (s : ByteArray) : bA s.data.toList = s := rfl
theorem ex_bA (l : List UInt8) (a b : Nat) : (bA l).extract a b = bA ((l.drop a).take (b - a)) := by
  apply ByteArray.ext
  apply Array.toList_inj.1
  rw [ext_list]
  rfl
theorem bA_bt {l : List UInt8} {i : Nat} {c : UInt8} (h : l[i]? = some c) : bt (bA l) i = (c.toNat : Int) := bt_list (s := bA l) h
theorem BL_has (b : UInt8) : ([32, 9, 10, 13] : List UInt8).contains b = isb b := by
  unfold isb
  simp [List.contains_cons, Bool.or_assoc]
  rfl
/-- Behind the blanks. -/
def skp (l : List UInt8) : List UInt8 := l.dropWhile isb
def nbr (l : List UInt8) : List UInt8 := l.dropWhile (fun b => !isb b)
def nbt (l : List UInt8) : List UInt8 := l.takeWhile (fun b => !isb b)
theorem BL_ascii (j : Nat) (b : UInt8) (h : ([32, 9, 10, 13] : List UInt8)[j]? = some b) : b.toNat < 128 := Go.Proofs.ascii_of_all (by decide) j b h
theorem trimL_ok (l : List UInt8) : Ok Tryd.prog 31 [vS (bA l), vS BL] (vS (bA (skp l))) :=
  Ok.of_plain (l := [.string (bA l), .string BL]) (by kernel_rfl) fun w hk => (Go.Proofs.Any.strings_TrimLeft_laid Tryd.lays161 (by kernel_rfl) (bA l) BL w (by decide) BL_ascii).mono (by
    rintro e w' ⟨rfl, hb⟩
    have e : Lib.trimLeftS (bA l).data.toList BL.data.toList = skp l := by
      unfold Lib.trimLeftS skp
      show List.dropWhile (fun b => ([32, 9, 10, 13] : List UInt8).contains b) l = _
      congr 1
      funext b
      exact BL_has b
    rw [e]
    exact ⟨_, rfl, fun S => .frz (.val rfl), hb⟩)
/-- The place of the first blank. -/
def ixA (l : List UInt8) : Int := if nbr l = [] then -1 else (nbt l).length
theorem indexAny_bl : ∀ l : List UInt8, Lib.indexAny l [32, 9, 10, 13] = ixA l
  | [] => rfl
  | b :: r => by
    rw [Lib.indexAny, BL_has, indexAny_bl r]
    unfold ixA nbr nbt
    cases hb : isb b with
    | true => simp [hb]
    | false =>
      simp only [List.dropWhile_cons, List.takeWhile_cons, hb, Bool.not_false, if_true, Bool.false_eq_true, if_false, beq_iff_eq, List.length_cons]
      by_cases h : List.dropWhile (fun b => !isb b) r = []
      · simp [h]
      · rw [if_neg h, if_neg h, if_neg (by omega)]; omega
theorem indexByte_ok (s : ByteArray) (c : Int) : Ok Tryd.prog 76 [vS s, .val (.int .u8 c)] (vI (Lib.indexByte s.data.toList c.toNat.toUInt8)) :=
  Ok.of_plain (l := [.string s, .int .u8 c]) (by kernel_rfl) fun w hk => (Tryd.strings_IndexByte s c w).mono (by
    rintro e w' ⟨rfl, rfl⟩
    exact ⟨_, rfl, fun S => .frz (.val rfl), Below.refl _ _⟩)
theorem indexByte_no : ∀ {l : List UInt8} {c : UInt8}, c ∉ l → Lib.indexByte l c = -1
  | [], _, _ => rfl
  | b :: l, c, h => by
    have h1 : ¬ b = c := fun e => h (by simp [e])
    have h2 : c ∉ l := fun e => h (by simp [e])
    rw [Lib.indexByte, indexByte_no h2]
    simp [h1]
theorem toU8_hi {c : Int} (h1 : 128 ≤ c) (h2 : c ≤ 255) : 128 ≤ c.toNat.toUInt8.toNat := by
  rw [Nat.toUInt8, UInt8.toNat_ofNat']
  omega
def okR (r : Int) : Prop := r = 65533 ∨ (0 ≤ r ∧ r < 55296) ∨ (57343 < r ∧ r ≤ 1114111)
theorem dec_wide {s : ByteArray} {i : Nat} (h : i < s.size) (hb : 128 ≤ bt s i) :
    128 ≤ (Utf8.decode s i).1 ∧ okR (Utf8.decode s i).1 ∧ 1 ≤ (Utf8.decode s i).2 ∧ i + (Utf8.decode s i).2 ≤ s.size ∧ ∀ k : Nat, k < (Utf8.decode s i).2 → 128 ≤ bt s (i + k : Nat) := by
  have e0 : bt s i = ((s.data.toList.getD i 0).toNat : Int) := rfl
  have e1 : bt s (i + 1 : Nat) = ((s.data.toList.getD (i + 1) 0).toNat : Int) := rfl
  have e2 : bt s (i + 2 : Nat) = ((s.data.toList.getD (i + 2) 0).toNat : Int) := rfl
  have e3 : bt s (i + 3 : Nat) = ((s.data.toList.getD (i + 3) 0).toNat : Int) := rfl
  have el : s.data.toList.length = s.size := Array.length_toList
  rw [Lib.decode_N, el]
  rw [e0] at hb
  generalize (s.data.toList.getD i 0).toNat = b0 at *
  generalize (s.data.toList.getD (i + 1) 0).toNat = b1 at *
  generalize (s.data.toList.getD (i + 2) 0).toNat = b2 at *
  generalize (s.data.toList.getD (i + 3) 0).toNat = b3 at *
  have k1 : ∀ k : Nat, k < 1 → 128 ≤ bt s (i + k : Nat) := fun k hk => by
    have : k = 0 := by omega
    subst this; rw [Nat.add_zero, e0]; exact hb
  have bad : 128 ≤ (65533, 1).1 ∧ okR ((65533, 1) : Nat × Nat).1 ∧ 1 ≤ ((65533, 1) : Nat × Nat).2 ∧ i + ((65533, 1) : Nat × Nat).2 ≤ s.size ∧ ∀ k : Nat, k < ((65533, 1) : Nat × Nat).2 → 128 ≤ bt s (i + k : Nat) := ⟨by decide, .inl rfl, by decide, by simp only; omega, k1⟩
  unfold Lib.decodeN
  rw [if_neg (by omega)]
  split
  · rename_i g
    split
    · refine ⟨by simp only; omega, ?_, by simp only; omega, by simp only; omega, fun k hk => ?_⟩
      · unfold okR; simp only; omega
      · match k, hk with
        | 0, _ => exact k1 0 (by decide)
        | 1, _ => rw [e1]; omega
    · exact bad
  split
  · rename_i g
    split
    · refine ⟨by simp only; omega, ?_, by simp only; omega, by simp only; omega, fun k hk => ?_⟩
      · unfold okR; simp only; omega
      · match k, hk with
        | 0, _ => exact k1 0 (by decide)
        | 1, _ => rw [e1]; omega
        | 2, _ => rw [e2]; omega
    · exact bad
  split
  · rename_i g
    split
    · refine ⟨by simp only; omega, ?_, by simp only; omega, by simp only; omega, fun k hk => ?_⟩
      · unfold okR; simp only; omega
      · match k, hk with
        | 0, _ => exact k1 0 (by decide)
        | 1, _ => rw [e1]; omega
        | 2, _ => rw [e2]; omega
        | 3, _ => rw [e3]; omega
    · exact bad
  · exact bad
theorem ofNat_hi {n : Nat} (h1 : 128 ≤ n) (h2 : n < 256) : ((UInt8.ofNat n).toNat : Int) = n := by rw [UInt8.toNat_ofNat']; omega
theorem enc_last {r : Int} (h : 128 ≤ r) (hv : (0 ≤ r ∧ r < 55296) ∨ (57343 < r ∧ r ≤ 1114111)) : ∃ k : Nat, (k = 1 ∨ k = 2 ∨ k = 3) ∧ (Utf8.encode r).size = k + 1 ∧ 128 ≤ bt (Utf8.encode r) k := by
  have hval : Utf8.valid r = true := by
    unfold Utf8.valid
    simp only [Bool.or_eq_true, Bool.and_eq_true, decide_eq_true_eq]
    omega
  obtain ⟨c, hc⟩ : ∃ c : Nat, r = c := ⟨r.toNat, by omega⟩
  subst hc
  unfold Utf8.encode
  rw [if_pos hval, Int.toNat_natCast, if_neg (by omega)]
  split
  · exact ⟨1, .inl rfl, rfl, by show (128 : Int) ≤ ((UInt8.ofNat (0x80 + c % 64)).toNat : Int); rw [ofNat_hi (by omega) (by omega)]; omega⟩
  split
  · exact ⟨2, .inr (.inl rfl), rfl, by show (128 : Int) ≤ ((UInt8.ofNat (0x80 + c % 64)).toNat : Int); rw [ofNat_hi (by omega) (by omega)]; omega⟩
  · exact ⟨3, .inr (.inr rfl), rfl, by show (128 : Int) ≤ ((UInt8.ofNat (0x80 + c % 64)).toNat : Int); rw [ofNat_hi (by omega) (by omega)]; omega⟩
theorem validRune_ok (r : Int) (hv : (0 ≤ r ∧ r < 55296) ∨ (57343 < r ∧ r ≤ 1114111)) : Ok Tryd.prog 77 [.val (.int .i32 r)] (vB true) := by
  refine Ok.of_pwp (by kernel_rfl) Tryd.func77 rfl (by kernel_rfl) (by kernel_rfl) ?_
  by_cases h : r < 55296
  · simp (implicitDefEqProofs := false) (disch := omega) only [go_sem, simprocAttr, go_sem, Nat.le_refl, Int.toNat_natCast, Int.toNat_zero, Int.toNat_one, str_eq, sz_bA, tl_bA, Tryd.results77]
  · simp (implicitDefEqProofs := false) (disch := omega) only [go_sem, simprocAttr, go_sem, Nat.le_refl, Int.toNat_natCast, Int.toNat_zero, Int.toNat_one, str_eq, sz_bA, tl_bA, Tryd.results77]
theorem should_ok (n : Nat) : Ok Tryd.prog 61 [vI n] (vB (decide ((8 : Int) < n))) := by
  refine Ok.of_pwp (by kernel_rfl) Tryd.func61 rfl (by kernel_rfl) (by kernel_rfl) ?_
  simp (implicitDefEqProofs := false) (disch := omega) only [go_sem, simprocAttr, go_sem, Nat.le_refl, Int.toNat_natCast, Int.toNat_zero, Int.toNat_one, str_eq, sz_bA, tl_bA, Tryd.results61]
theorem ixr_lo (r : Int) (h0 : 0 ≤ r) (h1 : r < 128) : Ok Tryd.prog 60 [vS BL, .val (.int .i32 r)] (vI (Lib.indexByte [32, 9, 10, 13] r.toNat.toUInt8)) := by
  have c0 := indexByte_ok BL r
  have ew : IntKind.u8.wrap r = r := by rw [IntKind.wrap_u8]; omega
  refine Ok.of_pwp (by kernel_rfl) Tryd.func60 rfl (by kernel_rfl) (by kernel_rfl) ?_
  simp (implicitDefEqProofs := false) (disch := omega) only [go_sem, simprocAttr, go_sem, Nat.le_refl, Int.toNat_natCast, Int.toNat_zero, Int.toNat_one, str_eq, sz_bA, tl_bA, Tryd.results60, ew]
  with_reducible refine CallOk.of c0 rfl ?_
  simp (implicitDefEqProofs := false) (disch := omega) only [go_sem, simprocAttr, go_sem, Nat.le_refl, Int.toNat_natCast, Int.toNat_zero, Int.toNat_one, str_eq, sz_bA, tl_bA, Tryd.results60, ew]
theorem BL_bt {i : Nat} (h : i < 4) : bt BL i < 128 := by
  match i, h with
  | 0, _ => decide
  | 1, _ => decide
  | 2, _ => decide
  | 3, _ => decide
theorem ixr_hi (r : Int) (h1 : 128 ≤ r) (hr : okR r) : Ok Tryd.prog 60 [vS BL, .val (.int .i32 r)] (vI (-1)) := by
  refine Ok.of_pwp (by kernel_rfl) Tryd.func60 rfl (by kernel_rfl) (by kernel_rfl) ?_
  by_cases h5 : r = 65533
  · subst h5
    simp (implicitDefEqProofs := false) (disch := omega) only [go_sem, simprocAttr, go_sem, Nat.le_refl, Int.toNat_natCast, Int.toNat_zero, Int.toNat_one, str_eq, sz_bA, tl_bA, Tryd.results60]
    refine p_loop (ι := { i : Nat // i ≤ 4 }) (fun i => ⟨[(175, .ptr 12 0)], [(12, .iter BL i.1)], [], 13, 0⟩) (fun i => 4 - i.1) ⟨0, Nat.zero_le _⟩ ?_ ?_
    · refine ⟨?_, ?_, ?_, ?_, ?_, ?_, ?_⟩ <;> simp only [go_sem, simprocAttr, decide_eq_true_eq, ] <;> try first | omega | ((repeat' (first | exact And.intro rfl (by omega) | (refine And.intro ?_ ?_))) <;> first | rfl | omega | (congr 3; omega) | (congr 2; omega))
    · rintro ⟨i, hi⟩
      simp only
      have hz : BL.size = 4 := rfl
      by_cases hl : i < 4
      · have hb := BL_bt hl
        have hr := bt_rng BL i
        have ed := dec_lo (s := BL) (i := i) hl hb
        simp (implicitDefEqProofs := false) (disch := omega) only [go_sem, simprocAttr, go_sem, Nat.le_refl, Int.toNat_natCast, Int.toNat_zero, Int.toNat_one, str_eq, sz_bA, tl_bA, Tryd.results60, ed]
        refine ⟨⟨i + 1, hl⟩, by simp only; omega, ?_⟩
        refine ⟨?_, ?_, ?_, ?_, ?_, ?_, ?_⟩ <;> simp only [go_sem, simprocAttr, decide_eq_true_eq, ] <;> try first | omega | ((repeat' (first | exact And.intro rfl (by omega) | (refine And.intro ?_ ?_))) <;> first | rfl | omega | (congr 3; omega) | (congr 2; omega))
      · simp (implicitDefEqProofs := false) (disch := omega) only [go_sem, simprocAttr, go_sem, Nat.le_refl, Int.toNat_natCast, Int.toNat_zero, Int.toNat_one, str_eq, sz_bA, tl_bA, Tryd.results60]
  · have hv : (0 ≤ r ∧ r < 55296) ∨ (57343 < r ∧ r ≤ 1114111) := by rcases hr with h | h; exact absurd h h5; exact h
    have c0 := validRune_ok r hv
    obtain ⟨k, hk, hz, hl⟩ := enc_last h1 hv
    generalize he : Utf8.encode r = rs at *
    simp (implicitDefEqProofs := false) (disch := omega) only [go_sem, simprocAttr, go_sem, Nat.le_refl, Int.toNat_natCast, Int.toNat_zero, Int.toNat_one, str_eq, sz_bA, tl_bA, Tryd.results60, he, hz]
    with_reducible refine CallOk.of c0 rfl ?_
    simp (implicitDefEqProofs := false) (disch := omega) only [go_sem, simprocAttr, go_sem, Nat.le_refl, Int.toNat_natCast, Int.toNat_zero, Int.toNat_one, str_eq, sz_bA, tl_bA, Tryd.results60, he, hz]
    have hb := BL_bt (i := k) (by omega)
    have hbr := bt_rng rs k
    have hbb := bt_rng BL k
    have hne : ¬ bt BL k = bt rs k := by omega
    have hne' : ¬ bt rs k = bt BL k := by omega
    have hzB : BL.size = 4 := rfl
    refine p_loop (ι := Unit) (fun _ => ⟨[(10, vI 0), (9, vI k), (8, vI k), (7, vS rs), (0, vS BL)], [], [], 8, 8⟩) (fun _ => 0) () ?_ ?_
    · refine ⟨?_, ?_, ?_, ?_, ?_, ?_, ?_⟩ <;> simp only [go_sem, simprocAttr, decide_eq_true_eq, ] <;> try first | omega | ((repeat' (first | exact And.intro rfl (by omega) | (refine And.intro ?_ ?_))) <;> first | rfl | omega | (congr 3; omega) | (congr 2; omega))
    · rintro ⟨⟩
      have c1 := indexByte_ok (BL.extract (k + 1) 4) (bt rs k)
      have e1 : Lib.indexByte (BL.extract (k + 1) 4).data.toList (bt rs k).toNat.toUInt8 = -1 := by
        apply indexByte_no
        have h8 := toU8_hi hl hbr.2
        generalize (bt rs k).toNat.toUInt8 = c at *
        intro hmem
        have : c ∈ ([32, 9, 10, 13] : List UInt8) := by
          have h9 := ext_list BL (k + 1) 4
          rw [h9] at hmem
          exact List.mem_of_mem_drop (List.mem_of_mem_take hmem)
        obtain ⟨j, hj⟩ := List.mem_iff_getElem?.1 this
        have := BL_ascii j c hj
        omega
      rw [e1] at c1
      have e2 : ((k : Int) + 1).toNat = k + 1 := by omega
      simp (implicitDefEqProofs := false) (disch := omega) only [go_sem, simprocAttr, go_sem, Nat.le_refl, Int.toNat_natCast, Int.toNat_zero, Int.toNat_one, str_eq, sz_bA, tl_bA, Tryd.results60, hne, hzB, e2]
      with_reducible refine CallOk.of c1 rfl ?_
      simp (implicitDefEqProofs := false) (disch := omega) only [go_sem, simprocAttr, go_sem, Nat.le_refl, Int.toNat_natCast, Int.toNat_zero, Int.toNat_one, str_eq, sz_bA, tl_bA, Tryd.results60, hne, hzB, e2]
theorem ixb_yes : ∀ {l : List UInt8} {c : UInt8}, c ∈ l → 0 ≤ Lib.indexByte l c
  | b :: l, c, h => by
    rw [Lib.indexByte]
    by_cases hb : b = c
    · simp [hb]
    · have := ixb_yes (l := l) (c := c) (by simpa [Ne.symm hb] using h)
      simp only [beq_iff_eq, hb, if_false]
      split <;> omega
theorem isb_mem {b : UInt8} : isb b = true ↔ b ∈ ([32, 9, 10, 13] : List UInt8) := by
  rw [← BL_has]; simp
theorem indexAny_sh (l : List UInt8) (h8 : l.length ≤ 8) : Ok Tryd.prog 41 [vS (bA l), vS BL] (vI (Lib.indexAny l [32, 9, 10, 13])) := by
  have c0 := should_ok l.length
  rw [decide_eq_false (show ¬ ((8 : Int) < (l.length : Int)) by omega)] at c0
  have hz : (bA l).size = l.length := rfl
  have hB : (#[32, 9, 10, 13] : Array UInt8).size = 4 := rfl
  refine Ok.of_pwp (by kernel_rfl) Tryd.func41 rfl (by kernel_rfl) (by kernel_rfl) ?_
  simp (implicitDefEqProofs := false) (disch := omega) only [go_sem, simprocAttr, go_sem, Nat.le_refl, Int.toNat_natCast, Int.toNat_zero, Int.toNat_one, str_eq, sz_bA, tl_bA, hB, Tryd.results41]
  with_reducible refine CallOk.of c0 rfl ?_
  simp (implicitDefEqProofs := false) (disch := omega) only [go_sem, simprocAttr, go_sem, Nat.le_refl, Int.toNat_natCast, Int.toNat_zero, Int.toNat_one, str_eq, sz_bA, tl_bA, hB, Tryd.results41]
  refine p_loop (ι := { i : Nat // i ≤ l.length ∧ Lib.NoAny l [32, 9, 10, 13] i }) (fun i => ⟨[(45, .ptr 10 0), (1, vS BL), (0, vS (bA l))], [(10, .iter (bA l) i.1)], [], 11, 0⟩) (fun i => l.length - i.1) ⟨0, Nat.zero_le _, Lib.NoAny.zero _ _⟩ ?_ ?_
  · refine ⟨?_, ?_, ?_, ?_, ?_, ?_, ?_⟩ <;> simp only [go_sem, simprocAttr, decide_eq_true_eq, ] <;> try first | omega | ((repeat' (first | exact And.intro rfl (by omega) | (refine And.intro ?_ ?_))) <;> first | rfl | omega | (congr 3; omega) | (congr 2; omega))
  · rintro ⟨i, h1, h2⟩
    simp only
    by_cases hl : i < l.length
    · obtain ⟨b, hb⟩ : ∃ b, l[i]? = some b := ⟨_, List.getElem?_eq_getElem hl⟩
      have eb := bA_bt hb
      have hbr := bt_rng (bA l) i
      by_cases hlo : bt (bA l) i < 128
      · have ed := dec_lo (s := bA l) (i := i) hl hlo
        have c1 := ixr_lo (bt (bA l) i) hbr.1 hlo
        have eu : (bt (bA l) i).toNat.toUInt8 = b := by rw [eb, Int.toNat_natCast]; simp
        rw [eu] at c1
        have ec : (((bt (bA l) i).toNat : Nat) : Int) = bt (bA l) i := by omega
        by_cases hm : b ∈ ([32, 9, 10, 13] : List UInt8)
        · have hv := ixb_yes hm
          have hh := Lib.indexAny_hit (chars := [32, 9, 10, 13]) h2 hb (by simpa using hm)
          rw [hh]
          simp (implicitDefEqProofs := false) (disch := omega) only [go_sem, simprocAttr, go_sem, Nat.le_refl, Int.toNat_natCast, Int.toNat_zero, Int.toNat_one, str_eq, sz_bA, tl_bA, hB, Tryd.results41, ed, ec]
          with_reducible refine CallOk.of c1 rfl ?_
          simp (implicitDefEqProofs := false) (disch := omega) only [go_sem, simprocAttr, go_sem, Nat.le_refl, Int.toNat_natCast, Int.toNat_zero, Int.toNat_one, str_eq, sz_bA, tl_bA, hB, Tryd.results41, ed, ec]
        · have hv := indexByte_no hm
          rw [hv] at c1
          simp (implicitDefEqProofs := false) (disch := omega) only [go_sem, simprocAttr, go_sem, Nat.le_refl, Int.toNat_natCast, Int.toNat_zero, Int.toNat_one, str_eq, sz_bA, tl_bA, hB, Tryd.results41, ed, ec]
          with_reducible refine CallOk.of c1 rfl ?_
          simp (implicitDefEqProofs := false) (disch := omega) only [go_sem, simprocAttr, go_sem, Nat.le_refl, Int.toNat_natCast, Int.toNat_zero, Int.toNat_one, str_eq, sz_bA, tl_bA, hB, Tryd.results41, ed, ec]
          refine ⟨⟨i + 1, hl, h2.succ hb (by simpa using hm)⟩, by simp only; omega, ?_⟩
          refine ⟨?_, ?_, ?_, ?_, ?_, ?_, ?_⟩ <;> simp only [go_sem, simprocAttr, decide_eq_true_eq, ] <;> try first | omega | ((repeat' (first | exact And.intro rfl (by omega) | (refine And.intro ?_ ?_))) <;> first | rfl | omega | (congr 3; omega) | (congr 2; omega))
      · have hw := dec_wide (s := bA l) (i := i) hl (by omega)
        generalize ed2 : Utf8.decode (bA l) i = d at *
        obtain ⟨r, wd⟩ := d
        obtain ⟨w1, w2, w3, w4, w5⟩ := hw
        simp only at w1 w2 w3 w4 w5
        rw [sz_bA] at w4
        have c1 := ixr_hi r (by omega) w2
        simp (implicitDefEqProofs := false) (disch := omega) only [go_sem, simprocAttr, go_sem, Nat.le_refl, Int.toNat_natCast, Int.toNat_zero, Int.toNat_one, str_eq, sz_bA, tl_bA, hB, Tryd.results41, ed2]
        with_reducible refine CallOk.of c1 rfl ?_
        simp (implicitDefEqProofs := false) (disch := omega) only [go_sem, simprocAttr, go_sem, Nat.le_refl, Int.toNat_natCast, Int.toNat_zero, Int.toNat_one, str_eq, sz_bA, tl_bA, hB, Tryd.results41, ed2]
        refine ⟨⟨i + wd, w4, fun j b hj hb => ?_⟩, by simp only; omega, ?_⟩
        · by_cases hji : j < i
          · exact h2 j b hji hb
          · have h9 := w5 (j - i) (by omega)
            rw [show i + (j - i) = j by omega, bA_bt hb] at h9
            rw [BL_has]
            apply Bool.eq_false_iff.2
            intro hc
            have := isb_mem.1 hc
            obtain ⟨q, hq⟩ := List.mem_iff_getElem?.1 this
            have := BL_ascii q b hq
            omega
        · refine ⟨?_, ?_, ?_, ?_, ?_, ?_, ?_⟩ <;> simp only [go_sem, simprocAttr, decide_eq_true_eq, ] <;> try first | omega | ((repeat' (first | exact And.intro rfl (by omega) | (refine And.intro ?_ ?_))) <;> first | rfl | omega | (congr 3; omega) | (congr 2; omega))
    · have hi : i = l.length := by omega
      subst hi
      rw [Lib.indexAny_none h2]
      simp (implicitDefEqProofs := false) (disch := omega) only [go_sem, simprocAttr, go_sem, Nat.le_refl, Int.toNat_natCast, Int.toNat_zero, Int.toNat_one, str_eq, sz_bA, tl_bA, hB, Tryd.results41]
theorem indexAny_ok (l : List UInt8) (h : l.length ≤ 1000000) : Ok Tryd.prog 41 [vS (bA l), vS BL] (vI (ixA l)) := by
  rw [← indexAny_bl]
  by_cases h8 : l.length ≤ 8
  · exact indexAny_sh l h8
  · refine Ok.of_plain (l := [.string (bA l), .string BL]) (by kernel_rfl) fun w hk => ?_
    refine (Tryd.strings_IndexAny_long (fun w => (zero_of_info (n := 256) (by kernel_rfl)).1 w) (bA l) BL w (by decide) (by rw [sz_bA]; omega) (by rw [sz_bA]; omega) (by decide) BL_ascii).mono ?_
    rintro e w' ⟨rfl, rfl⟩
    exact ⟨_, rfl, fun S => .frz (.val rfl), ((Below.refl _ _).alloc (Nat.le_refl _) _).alloc (by simp) _⟩
end Go.Proofs.YtegehnojbfedlaaDoor

end
section
/-
  Chapter 25: pieces of a line: what the program's scanner tells.
-/
open Go Go.Proofs Go.Pw Go.RowKit
namespace Go.Proofs.YtegehnojbfedlaaDoor
set_option maxRecDepth 4000
set_option linter.unusedVariables false
set_option linter.unusedSimpArgs false
/-- The first piece, and what is behind it. -/
def wrd (l : List UInt8) : List UInt8 := nbt (skp l)
def rst (l : List UInt8) : List UInt8 := nbr (skp l)
/-- Where an end of a line begins. -/
def ps (S L : List UInt8) : Nat := S.length - L.length
theorem skp_suf (l : List UInt8) : skp l <:+ l := List.dropWhile_suffix _
theorem nbr_suf (l : List UInt8) : nbr l <:+ l := List.dropWhile_suffix _
theorem rst_suf (l : List UInt8) : rst l <:+ l := (nbr_suf _).trans (skp_suf l)
theorem nb_app (l : List UInt8) : nbt l ++ nbr l = l := List.takeWhile_append_dropWhile
theorem nb_len (l : List UInt8) : (nbt l).length + (nbr l).length = l.length := by rw [← List.length_append, nb_app]
theorem nbt_take (l : List UInt8) : l.take (nbt l).length = nbt l := by
  have := List.take_left (l₁ := nbt l) (l₂ := nbr l)
  rw [nb_app] at this
  exact this
theorem ps_ext {S L : List UInt8} (h : L <:+ S) : (bA S).extract (ps S L) S.length = bA L := by
  rw [ex_bA]
  congr 1
  have e := List.suffix_iff_eq_drop.1 h
  unfold ps
  rw [← e, List.take_of_length_le (by have := h.length_le; omega)]
set_option maxHeartbeats 2000000 in
theorem next_I (S L : List UInt8) (hS : S.length ≤ 1000000) (hL : L <:+ S) :
    OkI Tryd.prog 27 [.ptr 0 0] ⟨[], [(0, .box 56 [vS (bA S), vI (ps S L)])], [], 1, 0⟩
      (fun r st' => r = .tup [vS (bA (wrd L)), vI (ps S (skp L))] ∧ st' = ⟨[], [(0, .box 56 [vS (bA S), vI (ps S (rst L))])], [], 1, 0⟩) := by
  have hE := ps_ext hL
  have l1 := hL.length_le
  have l2 := (skp_suf L).length_le
  have l3 := nb_len (skp L)
  have hp : ps S L ≤ S.length := by unfold ps; omega
  have hfr : (S.length : Int) - ((skp L).length : Int) = (ps S (skp L) : Int) := by unfold ps; omega
  have c0 := trimL_ok L
  have c1 := indexAny_ok (skp L) (by omega)
  refine OkI.of_pwp (by kernel_rfl) Tryd.func27 rfl (by kernel_rfl) (by kernel_rfl) ?_
  simp (implicitDefEqProofs := false) (disch := omega) only [go_sem, simprocAttr, go_sem, Nat.le_refl, Int.toNat_natCast, Int.toNat_zero, Int.toNat_one, str_eq, sz_bA, tl_bA, Tryd.results27, hE, hfr]
  with_reducible refine CallOk.of c0 rfl ?_
  simp (implicitDefEqProofs := false) (disch := omega) only [go_sem, simprocAttr, go_sem, Nat.le_refl, Int.toNat_natCast, Int.toNat_zero, Int.toNat_one, str_eq, sz_bA, tl_bA, Tryd.results27, hE, hfr]
  with_reducible refine CallOk.of c1 rfl ?_
  by_cases h0 : nbr (skp L) = []
  · have hx : ixA (skp L) = -1 := if_pos h0
    have hr0 : rst L = [] := h0
    have hw : wrd L = skp L := by
      have := nb_app (skp L)
      rw [h0, List.append_nil] at this
      exact this
    have ht : (ps S (skp L) : Int) + ((skp L).length : Int) = (ps S (rst L) : Int) := by rw [hr0]; simp only [ps, List.length_nil]; omega
    have hE2 : (bA (skp L)).extract 0 (skp L).length = bA (wrd L) := by rw [ex_bA, hw]; simp
    simp (implicitDefEqProofs := false) (disch := omega) only [go_sem, simprocAttr, go_sem, Nat.le_refl, Int.toNat_natCast, Int.toNat_zero, Int.toNat_one, str_eq, sz_bA, tl_bA, Tryd.results27, hE, hfr, hx, ht, hE2]
    refine ⟨_, rfl, ?_⟩
    refine ⟨?_, ?_, ?_, ?_, ?_, ?_, ?_⟩ <;> simp only [go_sem, simprocAttr, decide_eq_true_eq, ] <;> try first | omega | ((repeat' (first | exact And.intro rfl (by omega) | (refine And.intro ?_ ?_))) <;> first | rfl | omega | (congr 3; omega) | (congr 2; omega))
  · have hx : ixA (skp L) = ((nbt (skp L)).length : Int) := if_neg h0
    have ht : (ps S (skp L) : Int) + ((nbt (skp L)).length : Int) = (ps S (rst L) : Int) := by simp only [ps, rst]; omega
    have hE2 : (bA (skp L)).extract 0 (nbt (skp L)).length = bA (wrd L) := by rw [ex_bA, List.drop_zero, Nat.sub_zero, nbt_take]; rfl
    simp (implicitDefEqProofs := false) (disch := omega) only [go_sem, simprocAttr, go_sem, Nat.le_refl, Int.toNat_natCast, Int.toNat_zero, Int.toNat_one, str_eq, sz_bA, tl_bA, Tryd.results27, hE, hfr, hx, ht, hE2]
    refine ⟨_, rfl, ?_⟩
    refine ⟨?_, ?_, ?_, ?_, ?_, ?_, ?_⟩ <;> simp only [go_sem, simprocAttr, decide_eq_true_eq, ] <;> try first | omega | ((repeat' (first | exact And.intro rfl (by omega) | (refine And.intro ?_ ?_))) <;> first | rfl | omega | (congr 3; omega) | (congr 2; omega))
end Go.Proofs.YtegehnojbfedlaaDoor

end
