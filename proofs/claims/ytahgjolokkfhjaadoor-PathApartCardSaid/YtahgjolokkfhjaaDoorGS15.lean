/-
  Contracts and plain laws on the way to the statement; each says its own conditions.
-/
import Derived.Test.YtahgjolokkfhjaaDoorGS13
import Derived.Test.YtahgjolokkfhjaaDoorGS14
import Derived.Lib.AppendIntMem
import Derived.Lib.AtoiErrMem
import Derived.Lib.TrimUEq
import Derived.Lib.ItoaLen
import Derived.Test.YtahgjolokkfhjaaDoorGS12
import Derived.Lib.ParseIntBTie
import Derived.Lib.AtoiAllCases
import Derived.Test.YtahgjolokkfhjaaDoorGS9
import Derived.Test.YtahgjolokkfhjaaDoorProg
import Derived.Test.YtahgjolokkfhjaaDoorGS5
import Derived.Lib.SliceRun
import Derived.Lib.AppendZeros
import Derived.WalkKit
import Derived.Lib.Walk
import Derived.Test.YtahgjolokkfhjaaDoorGS7
import Derived.Test.YtahgjolokkfhjaaDoorGS3
section
/-
  Contracts of the library's functions on numbers' texts, out of the kit's shelf.
-/
open Go Go.Proofs Go.Pw Go.RowKit
namespace Go.Proofs.YtahgjolokkfhjaaDoor
set_option maxRecDepth 4000
set_option linter.unusedVariables false
set_option linter.unusedSimpArgs false
theorem stable_below {S : Cells} {w w' : World} (hS : Stable S w) (hb : Below w.heap.size w w') : Stable S w' := fun b o u hu => by
  have h1 := hS b o u hu
  have hlt : b < w.heap.size := by
    rcases Nat.lt_or_ge b w.heap.size with h' | h'
    · exact h'
    · simp [World.cell?, Array.getElem?_eq_none h'] at h1
  rw [World.cell?_of_block (hb.block b hlt)]
  exact h1
/-- A function that is handed plain values, and hands back what reads so wherever it stands. -/
theorem Ok.of_plain {P : Program} {f : FuncId} {l : List Value} {r : PV} (hent : enters P f = true) (h : ∀ w, Known w → Calls P f l.toArray w fun e w' => ∃ v, e = .returned v ∧ (∀ S, RepA S v r) ∧ Below w.heap.size w w') : Ok P f (l.map .val) r := by
  refine ⟨hent, fun S w vals hk hS hn hr => ?_⟩
  have e : vals = l.toArray := by
    apply Array.ext (by simpa using hn)
    intro i h1 h2
    have hl : i < l.length := by simpa using h2
    have := (rep_val (hr i vals[i] (.val l[i]) (Array.getElem?_eq_getElem h1) (by simp [hl]))).1
    simpa using this
  subst e
  refine (h w hk).mono ?_
  rintro e w' ⟨v, rfl, hv, hb⟩
  exact ⟨v, S, rfl, SLe.refl _, stable_below hS hb, fun b o u hu => .inl hu, hv S, hb⟩
theorem rep_pair {C : Cx} {T : List (Nat × Tok)} {U V : Nat → Prop} {a b : Value} {p q : PV} (h1 : RepV C T U V a p) (h2 : RepV C T U V b q) : RepV C T U V (.tuple #[a, b]) (.tup [p, q]) :=
  .tup rfl (fun i v x hv hx => by
    match i with
    | 0 => simp at hv hx; subst hv hx; exact h1
    | 1 => simp at hv hx; subst hv hx; exact h2
    | i + 2 => simp at hv)
theorem rep_ptr0 {C : Cx} {T : List (Nat × Tok)} {U V : Nat → Prop} (N : Nat) : RepV C T U V (.pointer (some ⟨N, 0, none⟩)) (.fp []) := .fp (fun i p h => by simp at h)
end Go.Proofs.YtahgjolokkfhjaaDoor

end
section
/-
  Numbers' texts: the document's Form, Number, Parse; the program's form, Parse, Text.
-/
open Go Go.Proofs Go.Pw
namespace Go.Proofs.YtahgjolokkfhjaaDoor
set_option maxRecDepth 4000
set_option linter.unusedVariables false
set_option linter.unusedSimpArgs false
end Go.Proofs.YtahgjolokkfhjaaDoor

end
section
/-
  Numbers' texts: the document's Number, Parse.
-/
open Go Go.Proofs Go.Pw
namespace Go.Proofs.YtahgjolokkfhjaaDoor
set_option maxRecDepth 4000
set_option linter.unusedVariables false
set_option linter.unusedSimpArgs false
end Go.Proofs.YtahgjolokkfhjaaDoor

end
section
/-
  Numbers' texts: the program's form, Parse, Text.
-/
open Go Go.Proofs Go.Pw
namespace Go.Proofs.YtahgjolokkfhjaaDoor
set_option maxRecDepth 4000
set_option linter.unusedVariables false
set_option linter.unusedSimpArgs false
theorem form_dig (s : ByteArray) : formP s ↔ 0 < (digS s).size ∧ ¬ (bt (digS s) 0 = 48 ∧ 1 < (digS s).size) ∧ allD (digS s) 0 := by
  unfold formP digS fromF
  by_cases h0 : s.size = 0
  · rw [if_neg (by omega)]
    constructor
    · intro h; have := h.1; omega
    · intro h
      have := h.1
      split at this
      · simp at this; omega
      · omega
  · by_cases hb : bt s 0 = 45
    · rw [if_pos ⟨by omega, hb⟩, if_pos hb]
      have hz : (s.extract 1 s.size).size = s.size - 1 := by simp
      rw [hz]
      by_cases h1 : s.size = 1
      · constructor
        · intro h; have := h.1; omega
        · intro h; have := h.1; omega
      · have e1 : bt (s.extract 1 s.size) 0 = bt s (1 : Nat) := bt_ext s (a := 1) (b := s.size) (i := 0) (by omega)
        rw [e1]
        refine ⟨fun ⟨h1, h2, h3⟩ => ⟨by omega, fun k => h2 ⟨k.1, by omega⟩, fun j hj _ => ?_⟩, fun ⟨h1, h2, h3⟩ => ⟨by omega, fun k => h2 ⟨k.1, by omega⟩, fun j hj hk => ?_⟩⟩
        · rw [bt_ext s (by omega)]; exact h3 (1 + j) (by omega) (by omega)
        · have := h3 (j - 1) (by omega) (by omega)
          rw [bt_ext s (by omega), show 1 + (j - 1) = j by omega] at this
          exact this
    · rw [if_neg (fun k => hb k.2), if_neg hb]
      exact ⟨fun ⟨h1, h2, h3⟩ => ⟨h1, fun k => h2 ⟨k.1, by omega⟩, h3⟩, fun ⟨h1, h2, h3⟩ => ⟨h1, fun k => h2 ⟨k.1, by omega⟩, h3⟩⟩
/-- An integer's text. -/
def sOf (n : Int) : ByteArray := ⟨(Lib.itoa n).toArray⟩
end Go.Proofs.YtahgjolokkfhjaaDoor

end
section
/-
  A number's text, by the document.
-/
open Go Go.Proofs Go.Pw
namespace Go.Proofs.YtahgjolokkfhjaaDoor
set_option maxRecDepth 4000
set_option linter.unusedVariables false
set_option linter.unusedSimpArgs false
/-- The last so many digits. -/
def padD : Nat → Nat → List UInt8
  | _, 0 => []
  | n, k + 1 => padD (n / 10) k ++ [UInt8.ofNat (48 + n % 10)]
theorem padD_front : ∀ (k n : Nat), padD n (k + 1) = UInt8.ofNat (48 + n / 10 ^ k % 10) :: padD n k
  | 0, n => by simp [padD]
  | k + 1, n => by
    rw [padD, padD_front k (n / 10), padD, List.cons_append, Nat.div_div_eq_div_mul, Nat.pow_succ, Nat.mul_comm 10]
theorem padD_len : ∀ (k n : Nat), (padD n k).length = k
  | 0, _ => rfl
  | k + 1, n => by simp [padD, padD_len k]
theorem decD_pad (n : Nat) : Lib.decDigits n = padD n (Lib.nDigits n) := by
  induction n using Nat.strongRecOn with
  | _ n ih =>
    by_cases h : n < 10
    · rw [Lib.decDigits, dif_pos h, Lib.nDigits_small h]
      simp [padD, Nat.mod_eq_of_lt h]
    · rw [Lib.decDigits, dif_neg h, Lib.nDigits_big h, padD, ih (n / 10) (by omega)]
theorem nD_gt : ∀ (t n : Nat), 0 < n → (t < Lib.nDigits n ↔ 10 ^ t ≤ n)
  | 0, n, h => by
    have := Lib.nDigits_pos n
    simp; omega
  | t + 1, n, h => by
    by_cases hn : n < 10
    · rw [Lib.nDigits_small hn, Nat.pow_succ]
      have : 0 < 10 ^ t := Nat.pow_pos (by decide)
      omega
    · rw [Lib.nDigits_big hn, Nat.pow_succ, ← Nat.le_div_iff_mul_le (by decide), ← nD_gt t (n / 10) (by omega)]
      omega
theorem figs_get : ∀ (i n : Nat), (figs n).getD i 0 = ((n / 10000 ^ i % 10000 : Nat) : Int)
  | i, n => by
    by_cases h : n = 0
    · subst h; rw [figs_zero]; simp
    · rw [figs_step n h]
      cases i with
      | zero => simp
      | succ i =>
        rw [List.getD_cons_succ, figs_get i (n / 10000), Nat.div_div_eq_div_mul, Nat.pow_succ, Nat.mul_comm 10000]
theorem p4 (i : Nat) : 10000 ^ i = 10 ^ (4 * i) := by rw [Nat.pow_mul]
/-- More figures: more digits. -/
theorem figs_more {n i : Nat} (h : i < (figs n).length) : 10 ^ (4 * i) ≤ n := by
  have hn : n ≠ 0 := fun e => by subst e; rw [figs_zero] at h; cases h
  have g := figs_len_ge n hn
  have : (10000 : Int) ^ i ≤ 10000 ^ ((figs n).length - 1) := pow_le' (by omega)
  have e : ((10000 ^ i : Nat) : Int) = (10000 : Int) ^ i := by simp
  rw [← p4]
  omega
theorem figs_top {n : Nat} : n < 10 ^ (4 * (figs n).length) := by
  have h := valF_fg (figs_digs n)
  rw [figs_val] at h
  unfold Fg at h
  rw [← p4]
  simpa using h
/-- The digits behind a place: the text so far. -/
def tT (n t : Nat) : ByteArray := ⟨(padD n (min t (Lib.nDigits n))).toArray⟩
theorem tT_end {n t : Nat} (h : Lib.nDigits n ≤ t) : tT n t = ⟨(Lib.decDigits n).toArray⟩ := by
  unfold tT
  rw [Nat.min_eq_right h, decD_pad]
theorem tT_same {n t : Nat} (h : Lib.nDigits n ≤ t) : tT n (t + 1) = tT n t := by
  rw [tT_end h, tT_end (by omega)]
theorem tT_size (n t : Nat) : (tT n t).size = min t (Lib.nDigits n) := by
  show (padD n _).toArray.size = _
  simp [padD_len]
/-- A digit. -/
def oneD (d : Nat) : ByteArray := (⟨#[48, 49, 50, 51, 52, 53, 54, 55, 56, 57]⟩ : ByteArray).extract d (d + 1)
theorem oneD_eq {d : Nat} (h : d < 10) : oneD d = ⟨#[UInt8.ofNat (48 + d)]⟩ := by
  match d, h with
  | 0, _ => rfl
  | 1, _ => rfl
  | 2, _ => rfl
  | 3, _ => rfl
  | 4, _ => rfl
  | 5, _ => rfl
  | 6, _ => rfl
  | 7, _ => rfl
  | 8, _ => rfl
  | 9, _ => rfl
theorem tT_step {n t : Nat} (h : t < Lib.nDigits n) : oneD (n / 10 ^ t % 10) ++ tT n t = tT n (t + 1) := by
  rw [oneD_eq (Nat.mod_lt _ (by decide))]
  unfold tT
  rw [Nat.min_eq_left (by omega), Nat.min_eq_left (by omega), padD_front]
  apply ByteArray.ext
  simp
theorem sOf_zero : sOf 0 = ⟨#[48]⟩ := by
  unfold sOf Lib.itoa
  rw [if_neg (by decide), Int.toNat_zero, decD_pad, Lib.nDigits_small (by decide)]
  rfl
theorem sOf_pos {n : Int} (h : 0 ≤ n) : sOf n = ⟨(Lib.decDigits n.natAbs).toArray⟩ := by
  unfold sOf Lib.itoa
  rw [if_neg (by omega), show n.toNat = n.natAbs by omega]
theorem sOf_neg {n : Int} (h : n < 0) : (⟨#[45]⟩ : ByteArray) ++ ⟨(Lib.decDigits n.natAbs).toArray⟩ = sOf n := by
  unfold sOf Lib.itoa
  rw [if_pos h]
  apply ByteArray.ext
  simp
set_option maxHeartbeats 4000000 in
theorem rtext_ok (n : Int) (hn : fits n) : Ok Tryd.prog 40 [repN n] (vS (sOf n)) := by
  obtain ⟨F, hF⟩ : ∃ F, F = figs n.natAbs := ⟨_, rfl⟩
  obtain ⟨N, hN⟩ : ∃ N, N = n.natAbs := ⟨_, rfl⟩
  rw [← hN] at hF
  have hlen : F.length ≤ 5 := by rw [hF]; exact figs_len 5 _ (by rw [hN]; exact Fg.of_fits hn)
  have eq0 : repN n = .agg [vB (decide (n < 0)), .sl (encI F)] := by rw [hF, hN]; rfl
  rw [eq0]
  refine Ok.of_pwp (by kernel_rfl) Tryd.func40 rfl (by kernel_rfl) (by kernel_rfl) ?_
  by_cases h0 : N = 0
  · have hn0 : n = 0 := by omega
    subst hn0
    have : F = [] := by rw [hF, h0, figs_zero]
    subst this
    rw [sOf_zero]
    simp (implicitDefEqProofs := false) (disch := omega) only [go_sem, simprocAttr, go_sem, Nat.le_refl, Int.toNat_natCast, Int.toNat_zero, Int.toNat_one, encI_len, ↓ix_enc, Tryd.results40]
  have hl0 : 0 < F.length := by rw [hF]; exact (figs_pos N).2 (by omega)
  have hl0' : ¬ (F.length : Int) = 0 := by omega
  have hD : Lib.nDigits N ≤ 4 * F.length := by
    have h1 := figs_top (n := N)
    rw [← hF] at h1
    have h2 := nD_gt (4 * F.length) N (by omega)
    omega
  simp (implicitDefEqProofs := false) (disch := omega) only [go_sem, simprocAttr, go_sem, Nat.le_refl, Int.toNat_natCast, Int.toNat_zero, Int.toNat_one, encI_len, ↓ix_enc, Tryd.results40]
  refine p_loop (ι := { i : Nat // i ≤ F.length }) (fun i => ⟨[(14, vI i.1), (13, vI F.length), (3, vS (tT N (4 * i.1))), (1, .ptr 0 0)], [(0, .box 83 [vB (decide (n < 0)), .sl (encI F)])], [], 1, 0⟩) (fun i => F.length - i.1) ⟨0, Nat.zero_le _⟩ ?_ ?_
  · have e : tT N (4 * 0) = ⟨#[]⟩ := by unfold tT; rw [Nat.mul_zero, Nat.zero_min]; rfl
    rw [e]
    refine ⟨?_, ?_, ?_, ?_, ?_, ?_, ?_⟩ <;> simp only [go_sem, simprocAttr, decide_eq_true_eq, Int.natCast_zero] <;> try first | omega | ((repeat' (first | exact And.intro rfl (by omega) | (refine And.intro ?_ ?_))) <;> first | rfl | omega | (congr 3; omega) | (congr 2; omega))
  · rintro ⟨i, hi⟩
    simp only
    by_cases hil : i < F.length
    · have ef : F.getD i 0 = ((N / 10 ^ (4 * i + 0) % 10 ^ (4 - 0) : Nat) : Int) := by rw [hF, figs_get, p4, Nat.add_zero]
      have efr : N / 10 ^ (4 * i + 0) % 10 ^ (4 - 0) < 10000 := Nat.mod_lt _ (by decide)
      simp (implicitDefEqProofs := false) (disch := omega) only [go_sem, simprocAttr, go_sem, Nat.le_refl, Int.toNat_natCast, Int.toNat_zero, Int.toNat_one, encI_len, ↓ix_enc, Tryd.results40]
      rw [ef]
      refine p_loop (ι := { k : Nat // k ≤ 4 }) (fun k => ⟨[(6, vI k.1), (5, vI ((N / 10 ^ (4 * i + k.1) % 10 ^ (4 - k.1) : Nat) : Int)), (4, vI i), (3, vS (tT N (4 * i + k.1))), (14, vI i), (13, vI F.length), (1, .ptr 0 0)], [(0, .box 83 [vB (decide (n < 0)), .sl (encI F)])], [], 1, 0⟩) (fun k => 4 - k.1) ⟨0, by decide⟩ ?_ ?_
      · refine ⟨?_, ?_, ?_, ?_, ?_, ?_, ?_⟩ <;> simp only [go_sem, simprocAttr, decide_eq_true_eq, Int.natCast_zero, Nat.add_zero] <;> try first | omega | ((repeat' (first | exact And.intro rfl (by omega) | (refine And.intro ?_ ?_))) <;> first | rfl | omega | (congr 3; omega) | (congr 2; omega))
      · rintro ⟨k, hk⟩
        simp only
        by_cases hk4 : k < 4
        · obtain ⟨f, hf⟩ : ∃ f, f = N / 10 ^ (4 * i + k) % 10 ^ (4 - k) := ⟨_, rfl⟩
          have hp : 10 ^ (4 - k) = 10 * 10 ^ (4 - (k + 1)) := by rw [show 4 - k = (4 - (k + 1)) + 1 by omega, Nat.pow_succ]; omega
          have hp4 : 10 ^ (4 - k) ≤ 10 ^ 4 := Nat.pow_le_pow_right (by decide) (by omega)
          have hp0 : 0 < 10 ^ (4 - k) := Nat.pow_pos (by decide)
          have hfr : f < 10 ^ (4 - k) := by rw [hf]; exact Nat.mod_lt _ hp0
          have hfr' : f < 10000 := Nat.lt_of_lt_of_le hfr hp4
          have hm : (f : Int).tmod 10 = ((f % 10 : Nat) : Int) := by rw [Int.tmod_eq_emod_of_nonneg (by omega)]; omega
          have hd : (f : Int).tdiv 10 = ((f / 10 : Nat) : Int) := by rw [Int.tdiv_eq_ediv_of_nonneg (by omega)]; omega
          have hd2 : f / 10 = N / 10 ^ (4 * i + (k + 1)) % 10 ^ (4 - (k + 1)) := by
            rw [hf, hp, Nat.mod_mul_right_div_self, Nat.div_div_eq_div_mul, ← Nat.pow_succ]; rfl
          have hm2 : f % 10 = N / 10 ^ (4 * i + k) % 10 := by
            rw [hf, hp, Nat.mod_mul_right_mod]
          have hm9 : f % 10 < 10 := Nat.mod_lt _ (by decide)
          have e3 : (((f % 10 : Nat) : Int) + 1).toNat = f % 10 + 1 := by omega
          have hts : (tT N (4 * i + k)).size ≤ 1000 := by rw [tT_size]; omega
          rw [← hf]
          by_cases hx : 0 < f
          · have ht : 4 * i + k < Lib.nDigits N := by
              rw [nD_gt _ _ (by omega)]
              apply Decidable.byContradiction
              intro hc
              rw [Nat.div_eq_of_lt (by omega), Nat.zero_mod] at hf
              omega
            have e4 : (⟨#[48, 49, 50, 51, 52, 53, 54, 55, 56, 57]⟩ : ByteArray).extract (f % 10) (f % 10 + 1) ++ tT N (4 * i + k) = tT N (4 * i + (k + 1)) := by rw [hm2]; exact tT_step ht
            simp (implicitDefEqProofs := false) (disch := omega) only [go_sem, simprocAttr, go_sem, Nat.le_refl, Int.toNat_natCast, Int.toNat_zero, Int.toNat_one, encI_len, ↓ix_enc, Tryd.results40, hm, hd, e3]
            refine ⟨by simp only [List.size_toArray, List.length_cons, List.length_nil]; omega, by rw [ByteArray.size_extract]; omega, ⟨k + 1, by omega⟩, by show 4 - (k + 1) < 4 - k; omega, ?_⟩
            rw [e4, hd2]
            refine ⟨?_, ?_, ?_, ?_, ?_, ?_, ?_⟩ <;> simp only [go_sem, simprocAttr, decide_eq_true_eq, Int.natCast_add, Int.cast_ofNat_Int] <;> try first | omega | ((repeat' (first | exact And.intro rfl (by omega) | (refine And.intro ?_ ?_))) <;> first | rfl | omega | (congr 3; omega) | (congr 2; omega))
          · have hf0 : f = 0 := by omega
            by_cases hy : i + 1 < F.length
            · have ht : 4 * i + k < Lib.nDigits N := by
                rw [nD_gt _ _ (by omega)]
                have h1 := figs_more (n := N) (i := i + 1) (by rw [← hF]; exact hy)
                exact Nat.le_trans (Nat.pow_le_pow_right (by decide) (by omega)) h1
              have e4 : (⟨#[48, 49, 50, 51, 52, 53, 54, 55, 56, 57]⟩ : ByteArray).extract (f % 10) (f % 10 + 1) ++ tT N (4 * i + k) = tT N (4 * i + (k + 1)) := by rw [hm2]; exact tT_step ht
              simp (implicitDefEqProofs := false) (disch := omega) only [go_sem, simprocAttr, go_sem, Nat.le_refl, Int.toNat_natCast, Int.toNat_zero, Int.toNat_one, encI_len, ↓ix_enc, Tryd.results40, hm, hd, e3, hx, hy]
              refine ⟨by simp only [List.size_toArray, List.length_cons, List.length_nil]; omega, by rw [ByteArray.size_extract]; omega, ⟨k + 1, by omega⟩, by show 4 - (k + 1) < 4 - k; omega, ?_⟩
              rw [e4, hd2]
              refine ⟨?_, ?_, ?_, ?_, ?_, ?_, ?_⟩ <;> simp only [go_sem, simprocAttr, decide_eq_true_eq, Int.natCast_add, Int.cast_ofNat_Int] <;> try first | omega | ((repeat' (first | exact And.intro rfl (by omega) | (refine And.intro ?_ ?_))) <;> first | rfl | omega | (congr 3; omega) | (congr 2; omega))
            · have ht : Lib.nDigits N ≤ 4 * i + k := by
                have h1 := (nD_gt (4 * i + k) N (by omega)).1
                apply Decidable.byContradiction
                intro hc
                have h2 := h1 (by omega)
                have h3 := figs_top (n := N)
                rw [← hF, show F.length = i + 1 by omega] at h3
                have h4 : N / 10 ^ (4 * i + k) < 10 ^ (4 - k) := by
                  rw [Nat.div_lt_iff_lt_mul (Nat.pow_pos (by decide)), ← Nat.pow_add]
                  rw [show 4 - k + (4 * i + k) = 4 * (i + 1) by omega]
                  exact h3
                rw [Nat.mod_eq_of_lt h4] at hf
                have := (Nat.le_div_iff_mul_le (Nat.pow_pos (by decide : 0 < 10) : 0 < 10 ^ (4 * i + k)) (x := 1) (y := N)).2 (by omega)
                omega
              have e4 : tT N (4 * i + k) = tT N (4 * i + (k + 1)) := (tT_same ht).symm
              simp (implicitDefEqProofs := false) (disch := omega) only [go_sem, simprocAttr, go_sem, Nat.le_refl, Int.toNat_natCast, Int.toNat_zero, Int.toNat_one, encI_len, ↓ix_enc, Tryd.results40, hm, hd, e3, hx, hy]
              refine ⟨⟨k + 1, by omega⟩, by show 4 - (k + 1) < 4 - k; omega, ?_⟩
              rw [e4, hd2]
              refine ⟨?_, ?_, ?_, ?_, ?_, ?_, ?_⟩ <;> simp only [go_sem, simprocAttr, decide_eq_true_eq, Int.natCast_add, Int.cast_ofNat_Int] <;> try first | omega | ((repeat' (first | exact And.intro rfl (by omega) | (refine And.intro ?_ ?_))) <;> first | rfl | omega | (congr 3; omega) | (congr 2; omega))
        · have hk4' : k = 4 := by omega
          subst hk4'
          simp (implicitDefEqProofs := false) (disch := omega) only [go_sem, simprocAttr, go_sem, Nat.le_refl, Int.toNat_natCast, Int.toNat_zero, Int.toNat_one, encI_len, ↓ix_enc, Tryd.results40]
          refine ⟨⟨i + 1, by omega⟩, by show F.length - (i + 1) < F.length - i; omega, ?_⟩
          rw [show tT N (4 * i + 4) = tT N (4 * (i + 1)) by rw [Nat.mul_add]]
          refine ⟨?_, ?_, ?_, ?_, ?_, ?_, ?_⟩ <;> simp only [go_sem, simprocAttr, decide_eq_true_eq, Int.natCast_add, Int.cast_ofNat_Int] <;> try first | omega | ((repeat' (first | exact And.intro rfl (by omega) | (refine And.intro ?_ ?_))) <;> first | rfl | omega | (congr 3; omega) | (congr 2; omega))
    · have hil' : i = F.length := by omega
      subst hil'
      rw [tT_end hD]
      by_cases hb : n < 0
      · rw [← sOf_neg hb]
        simp (implicitDefEqProofs := false) (disch := omega) only [go_sem, simprocAttr, go_sem, Nat.le_refl, Int.toNat_natCast, Int.toNat_zero, Int.toNat_one, encI_len, ↓ix_enc, Tryd.results40, hb]
        rw [hN]
        have hz : (Lib.decDigits N).toArray.size ≤ 1000 := by
          have := tT_size N (Lib.nDigits N)
          rw [tT_end (Nat.le_refl _)] at this
          have e : (⟨(Lib.decDigits N).toArray⟩ : ByteArray).size = (Lib.decDigits N).toArray.size := rfl
          omega
        rw [hN] at hz
        exact ⟨by simp only [List.size_toArray, List.length_cons, List.length_nil] at hz ⊢; omega, rfl⟩
      · rw [sOf_pos (by omega)]
        simp (implicitDefEqProofs := false) (disch := omega) only [go_sem, simprocAttr, go_sem, Nat.le_refl, Int.toNat_natCast, Int.toNat_zero, Int.toNat_one, encI_len, ↓ix_enc, Tryd.results40, hb]
        rw [hN]
end Go.Proofs.YtahgjolokkfhjaaDoor

end
section
/-
  An integer's text is a number's text, and says it.
-/
open Go Go.Proofs Go.Pw
namespace Go.Proofs.YtahgjolokkfhjaaDoor
set_option maxRecDepth 4000
set_option linter.unusedVariables false
set_option linter.unusedSimpArgs false
def dS (n : Nat) : ByteArray := ⟨(Lib.decDigits n).toArray⟩
theorem bt_arr (l : List UInt8) (i : Nat) : bt ⟨l.toArray⟩ i = ((l.getD i 0).toNat : Int) := rfl
theorem numV_app (l m : List UInt8) : ∀ i, i ≤ l.length → numV ⟨(l ++ m).toArray⟩ i = numV ⟨l.toArray⟩ i
  | 0, _ => rfl
  | i + 1, h => by
    rw [numV, numV, numV_app l m i (by omega), bt_arr, bt_arr, List.getD_eq_getElem?_getD, List.getElem?_append_left (by omega), ← List.getD_eq_getElem?_getD]
theorem dD_len (n : Nat) : (Lib.decDigits n).length = Lib.nDigits n := by rw [decD_pad, padD_len]
theorem dS_size (n : Nat) : (dS n).size = Lib.nDigits n := dD_len n
theorem dig_nat {d : Nat} (h : d < 10) : (UInt8.ofNat (48 + d)).toNat = 48 + d := by
  rw [UInt8.toNat_ofNat']
  omega
theorem numV_dec (n : Nat) : numV (dS n) (Lib.nDigits n) = n := by
  induction n using Nat.strongRecOn with
  | _ n ih =>
    by_cases h : n < 10
    · have e : dS n = ⟨#[UInt8.ofNat (48 + n)]⟩ := by unfold dS; rw [Lib.decDigits, dif_pos h]
      rw [Lib.nDigits_small h, e]
      show 0 * 10 + (((UInt8.ofNat (48 + n)).toNat : Int) - 48) = n
      rw [dig_nat h]; omega
    · have e : dS n = ⟨(Lib.decDigits (n / 10) ++ [UInt8.ofNat (48 + n % 10)]).toArray⟩ := by
        unfold dS; rw [Lib.decDigits, dif_neg h]
      rw [Lib.nDigits_big h, e, numV, numV_app _ _ _ (by rw [dD_len]; exact Nat.le_refl _), bt_arr]
      have := ih (n / 10) (by omega)
      unfold dS at this
      rw [this, List.getD_eq_getElem?_getD, List.getElem?_append_right (by rw [dD_len]; exact Nat.le_refl _), dD_len, Nat.sub_self]
      show (n / 10 : Nat) * (10 : Int) + (((UInt8.ofNat (48 + n % 10)).toNat : Int) - 48) = n
      rw [dig_nat (Nat.mod_lt _ (by decide))]; omega
theorem padD_get : ∀ (k n j : Nat), j < k → ((padD n k).getD j 0).toNat = 48 + n / 10 ^ (k - 1 - j) % 10
  | 0, _, _, h => absurd h (by omega)
  | k + 1, n, j, h => by
    rw [padD_front]
    cases j with
    | zero =>
      rw [List.getD_cons_zero, dig_nat (Nat.mod_lt _ (by decide))]; rfl
    | succ j =>
      rw [List.getD_cons_succ, padD_get k n j (by omega), show k + 1 - 1 - (j + 1) = k - 1 - j by omega]
theorem dS_bt {n j : Nat} (h : j < Lib.nDigits n) : bt (dS n) j = ((48 + n / 10 ^ (Lib.nDigits n - 1 - j) % 10 : Nat) : Int) := by
  unfold dS
  rw [bt_arr, decD_pad, padD_get _ _ _ h]
theorem dS_all (n : Nat) : allD (dS n) 0 := by
  intro j hj _
  rw [dS_size] at hj
  rw [dS_bt hj]
  have := Nat.mod_lt (n / 10 ^ (Lib.nDigits n - 1 - j)) (show 0 < 10 by decide)
  unfold isD
  omega
theorem dS_lead (n : Nat) : ¬ (bt (dS n) 0 = 48 ∧ 1 < (dS n).size) := by
  rintro ⟨h1, h2⟩
  rw [dS_size] at h2
  have h0 := dS_bt (n := n) (j := 0) (by omega)
  have h1' : bt (dS n) ((0 : Nat) : Int) = 48 := h1
  rw [h1'] at h0
  by_cases hn : n = 0
  · subst hn; rw [Lib.nDigits_small (by decide)] at h2; omega
  · obtain ⟨t, ht⟩ : ∃ t, Lib.nDigits n = t + 1 := ⟨Lib.nDigits n - 1, by omega⟩
    rw [ht] at h0
    have h3 := (nD_gt t n (by omega)).1 (by omega)
    have h4 : ¬ 10 ^ (t + 1) ≤ n := fun k => by have := (nD_gt (t + 1) n (by omega)).2 k; omega
    have h5 : n / 10 ^ t < 10 := by
      rw [Nat.div_lt_iff_lt_mul (Nat.pow_pos (by decide)), Nat.mul_comm, ← Nat.pow_succ]; omega
    have h6 := (Nat.le_div_iff_mul_le (Nat.pow_pos (by decide : 0 < 10) : 0 < 10 ^ t) (x := 1) (y := n)).2 (by omega)
    rw [show t + 1 - 1 - 0 = t by omega, Nat.mod_eq_of_lt h5] at h0
    omega
theorem dS_first (n : Nat) : bt (dS n) 0 ≠ 45 := by
  have h0 := Lib.nDigits_pos n
  have := dS_all n 0 (by rw [dS_size]; omega) (Nat.le_refl _)
  have e : bt (dS n) ((0 : Nat) : Int) = bt (dS n) 0 := rfl
  unfold isD at this
  omega
theorem sOf_dig (n : Int) : digS (sOf n) = dS n.natAbs ∧ (bt (sOf n) 0 = 45 ↔ n < 0) := by
  by_cases h : n < 0
  · have e := sOf_neg h
    have hb : bt (sOf n) 0 = 45 := by
      rw [← e]
      show bt ((⟨#[45]⟩ : ByteArray) ++ dS n.natAbs) 0 = 45
      unfold bt
      simp
    refine ⟨?_, iff_of_true hb h⟩
    unfold digS
    rw [if_pos hb, ← e]
    apply ByteArray.ext
    apply Array.toList_inj.1
    rw [ext_list]
    simp [dS, ByteArray.size]
  · have e := sOf_pos (n := n) (by omega)
    have hb : bt (sOf n) 0 ≠ 45 := by rw [e]; exact dS_first _
    refine ⟨?_, iff_of_false hb h⟩
    unfold digS
    rw [if_neg hb, e]
    rfl
theorem sOf_form (n : Int) : formP (sOf n) := by
  rw [form_dig, (sOf_dig n).1]
  exact ⟨by rw [dS_size]; exact Lib.nDigits_pos _, dS_lead _, dS_all _⟩
theorem sOf_z (n : Int) : zOf (sOf n) = n := by
  unfold zOf
  rw [(sOf_dig n).1, dS_size, numV_dec]
  split
  · rename_i h
    have := (sOf_dig n).2.1 h
    omega
  · rename_i h
    have := mt (sOf_dig n).2.2 h
    omega
theorem sOf_size (n : Int) (h : fits n) : (sOf n).size ≤ 21 := by
  show (Lib.itoa n).toArray.size ≤ 21
  rw [List.size_toArray]
  exact Lib.itoa_length_le n h.1 h.2
end Go.Proofs.YtahgjolokkfhjaaDoor

end
section
/-
  Chapter 4: where a step leads.
-/
open Go Go.Proofs Go.Pw Go.RowKit
namespace Go.Proofs.YtahgjolokkfhjaaDoor
set_option maxRecDepth 4000
set_option linter.unusedVariables false
set_option linter.unusedSimpArgs false
theorem itoa_ok (n : Int) (h : fits n) : Ok Tryd.prog 65 [vI n] (vS (sOf n)) :=
  Ok.of_plain (l := [.int .i64 n]) (by kernel_rfl) fun w hk => (Tryd.strconv_Itoa n h.1 h.2 w (hasW_tab (by kernel_rfl) hk.2)).mono (by
    rintro e w' ⟨rfl, k, os, rfl⟩
    exact ⟨_, rfl, fun S => .frz (.val rfl), Lib.below_grow _ _ (Nat.le_refl _) _ _⟩)
theorem atoi_yes (s : ByteArray) (hs : s.size ≤ 1000000) (v : Int) (h : Lib.atoiAll s.data.toList = .ok v) : Ok Tryd.prog 64 [vS s] (.tup [vI v, .val .nilIface]) :=
  Ok.of_plain (l := [.string s]) (by kernel_rfl) fun w hk => (Tryd.strconv_Atoi_ok s (by omega) v h w).mono (by
    rintro e w' ⟨rfl, rfl | ⟨t, rfl⟩⟩
    · exact ⟨_, rfl, fun S => rep_pair (.frz (.val rfl)) (.frz (.val rfl)), Below.refl _ _⟩
    · exact ⟨_, rfl, fun S => rep_pair (.frz (.val rfl)) (.frz (.val rfl)), Lib.bytesWorld_below _ _ _⟩)
theorem atoi_no (s : ByteArray) (hs : s.size ≤ 1000000) (h : ∀ v, Lib.atoiAll s.data.toList ≠ .ok v) : ∃ m, Ok Tryd.prog 64 [vS s] (.tup [vI m, .iface 139 (.fp [])]) := by
  rcases he : Lib.atoiAll s.data.toList with v | _ | _
  · exact absurd he (h v)
  · refine ⟨0, Ok.of_plain (l := [.string s]) (by kernel_rfl) fun w hk => ?_⟩
    obtain ⟨te, pe, hc⟩ := hasW_ErrSyntax hk.2
    refine (Tryd.strconv_Atoi_syntax s (by omega) he _ w hc (.inr ⟨te, pe, rfl⟩)).mono ?_
    rintro e w' ⟨N, rfl, _, _, hb⟩
    exact ⟨_, rfl, fun S => rep_pair (.frz (.val rfl)) (.iface (rep_ptr0 N)), hb⟩
  · refine ⟨Lib.atoiSat s.data.toList, Ok.of_plain (l := [.string s]) (by kernel_rfl) fun w hk => ?_⟩
    obtain ⟨te, pe, hc⟩ := hasW_ErrRange hk.2
    refine (Tryd.strconv_Atoi_range s (by omega) he _ w hc (.inr ⟨te, pe, rfl⟩)).mono ?_
    rintro e w' ⟨N, rfl, _, _, hb⟩
    exact ⟨_, rfl, fun S => rep_pair (.frz (.val rfl)) (.iface (rep_ptr0 N)), hb⟩
theorem atoi_sOf (n : Int) (h : fits n) : Lib.atoiAll (sOf n).data.toList = .ok n := by
  have := parse_law (sOf_form n)
  rw [sOf_z, if_pos h, Lib.parseIntB_64] at this
  exact this
theorem sOf_inj {a b : Int} (h : sOf a = sOf b) : a = b := by rw [← sOf_z a, ← sOf_z b, h]
/-- The place of the item whose number a text is. -/
def ixT (n : Nat) (t : ByteArray) : Int := match (List.range n).find? (fun i : Nat => decide (sOf i = t)) with
  | some i => i
  | none => -1
theorem ixT_yes {n i : Nat} {t : ByteArray} (h : i < n) (k : sOf i = t) : ixT n t = i := by
  unfold ixT
  cases hf : (List.range n).find? (fun i : Nat => decide (sOf i = t)) with
  | none =>
    have := List.find?_eq_none.1 hf i (List.mem_range.2 h)
    simp [k] at this
  | some j =>
    have := List.find?_some hf
    simp only [decide_eq_true_eq] at this
    have := sOf_inj (this.trans k.symm)
    simp only
    omega
theorem ixT_no {n : Nat} {t : ByteArray} (h : ∀ i : Nat, i < n → sOf i ≠ t) : ixT n t = -1 := by
  unfold ixT
  rw [List.find?_eq_none.2 (fun i hi => by simpa using h i (List.mem_range.1 hi))]
/-- Where a step leads. -/
def plc (v : V) (t : ByteArray) : Int := if v.kind = 5 then (if foundT v.keys t = true then (posT v.keys t : Int) else -1) else if v.kind = 4 then ixT v.items.length t else -1
theorem plc_mk (k : Int) (b : Bool) (n : Int) (s : ByteArray) (items : List V) (keys : List ByteArray) (t : ByteArray) :
    plc (.mk k b n s items keys) t = if k = 5 then (if foundT keys t = true then (posT keys t : Int) else -1) else if k = 4 then ixT items.length t else -1 := rfl
set_option maxHeartbeats 4000000 in
theorem place_ok (v : V) (t : ByteArray) (hv : szV v ≤ 1000000) (hs : SortT v.keys) (ht : t.size ≤ 1000000) : Ok Tryd.prog 37 [.agg (cellsV v), vS t] (vI (plc v t)) := by
  have hk := (V.small hv).2.1
  have hi := (V.small hv).1
  have c0 := bs_ok v.keys t hs (by omega)
  obtain ⟨p, hp⟩ : ∃ p, plc v t = p := ⟨_, rfl⟩
  rw [hp]
  cases v with
  | mk k b n s items keys =>
  rw [plc_mk] at hp
  simp only [V.items_mk, V.keys_mk] at hk hi c0 hs
  refine Ok.of_pwp (by kernel_rfl) Tryd.func37 rfl (by kernel_rfl) (by kernel_rfl) ?_
  by_cases h5 : k = 5
  · subst h5
    rw [if_pos rfl] at hp
    cases hf : foundT keys t with
    | true =>
      rw [hf] at c0
      rw [if_pos hf] at hp
      simp (implicitDefEqProofs := false) (disch := omega) only [go_sem, simprocAttr, go_sem, Nat.le_refl, Int.toNat_natCast, Int.toNat_zero, Int.toNat_one, str_eq, cellsV, Tryd.results37]
      with_reducible refine CallOk.of c0 rfl ?_
      simp (implicitDefEqProofs := false) (disch := omega) only [go_sem, simprocAttr, go_sem, Nat.le_refl, Int.toNat_natCast, Int.toNat_zero, Int.toNat_one, str_eq, cellsV, Tryd.results37, hp]
    | false =>
      rw [hf] at c0
      rw [if_neg (by rw [hf]; decide)] at hp
      subst hp
      simp (implicitDefEqProofs := false) (disch := omega) only [go_sem, simprocAttr, go_sem, Nat.le_refl, Int.toNat_natCast, Int.toNat_zero, Int.toNat_one, str_eq, cellsV, Tryd.results37]
      with_reducible refine CallOk.of c0 rfl ?_
      simp (implicitDefEqProofs := false) (disch := omega) only [go_sem, simprocAttr, go_sem, Nat.le_refl, Int.toNat_natCast, Int.toNat_zero, Int.toNat_one, str_eq, cellsV, Tryd.results37]
  rw [if_neg h5] at hp
  by_cases h4 : k = 4
  · subst h4
    rw [if_pos rfl] at hp
    by_cases hat : ∃ a, Lib.atoiAll t.data.toList = .ok a
    · obtain ⟨a, ha⟩ := hat
      have hfa : fits a := Lib.atoiAll_bounds ha
      have c1 := atoi_yes t ht a ha
      have c2 := itoa_ok a hfa
      by_cases h0 : 0 ≤ a ∧ a < (items.length : Int)
      · by_cases he : sOf a = t
        · have hpa : p = a := by
            rw [← hp]
            have := ixT_yes (n := items.length) (i := a.toNat) (t := t) (by omega) (by rw [show ((a.toNat : Nat) : Int) = a by omega]; exact he)
            omega
          subst hpa
          simp (implicitDefEqProofs := false) (disch := omega) only [go_sem, simprocAttr, go_sem, Nat.le_refl, Int.toNat_natCast, Int.toNat_zero, Int.toNat_one, str_eq, cellsV, Tryd.results37]
          with_reducible refine CallOk.of c1 rfl ?_
          simp (implicitDefEqProofs := false) (disch := omega) only [go_sem, simprocAttr, go_sem, Nat.le_refl, Int.toNat_natCast, Int.toNat_zero, Int.toNat_one, str_eq, cellsV, Tryd.results37]
          with_reducible refine CallOk.of c2 rfl ?_
          simp (implicitDefEqProofs := false) (disch := omega) only [go_sem, simprocAttr, go_sem, Nat.le_refl, Int.toNat_natCast, Int.toNat_zero, Int.toNat_one, str_eq, cellsV, Tryd.results37, he]
        · have hpn : p = -1 := by
            rw [← hp]
            refine ixT_no (fun i hi e => ?_)
            have e2 := atoi_sOf i (by unfold fits; omega)
            rw [e, ha] at e2
            have : a = i := by injection e2
            exact he (by rw [this]; exact e)
          subst hpn
          have hed : decide ((sOf a).data.toList = t.data.toList) = false := decide_eq_false (fun e => he (byte_ext e))
          simp (implicitDefEqProofs := false) (disch := omega) only [go_sem, simprocAttr, go_sem, Nat.le_refl, Int.toNat_natCast, Int.toNat_zero, Int.toNat_one, str_eq, cellsV, Tryd.results37]
          with_reducible refine CallOk.of c1 rfl ?_
          simp (implicitDefEqProofs := false) (disch := omega) only [go_sem, simprocAttr, go_sem, Nat.le_refl, Int.toNat_natCast, Int.toNat_zero, Int.toNat_one, str_eq, cellsV, Tryd.results37]
          with_reducible refine CallOk.of c2 rfl ?_
          simp (implicitDefEqProofs := false) (disch := omega) only [go_sem, simprocAttr, go_sem, Nat.le_refl, Int.toNat_natCast, Int.toNat_zero, Int.toNat_one, str_eq, cellsV, Tryd.results37, hed]
      · have hpn : p = -1 := by
          rw [← hp]
          refine ixT_no (fun i hi e => ?_)
          have e2 := atoi_sOf i (by unfold fits; omega)
          rw [e, ha] at e2
          have : a = i := by injection e2
          omega
        subst hpn
        by_cases h00 : 0 ≤ a
        · simp (implicitDefEqProofs := false) (disch := omega) only [go_sem, simprocAttr, go_sem, Nat.le_refl, Int.toNat_natCast, Int.toNat_zero, Int.toNat_one, str_eq, cellsV, Tryd.results37]
          with_reducible refine CallOk.of c1 rfl ?_
          simp (implicitDefEqProofs := false) (disch := omega) only [go_sem, simprocAttr, go_sem, Nat.le_refl, Int.toNat_natCast, Int.toNat_zero, Int.toNat_one, str_eq, cellsV, Tryd.results37]
        · simp (implicitDefEqProofs := false) (disch := omega) only [go_sem, simprocAttr, go_sem, Nat.le_refl, Int.toNat_natCast, Int.toNat_zero, Int.toNat_one, str_eq, cellsV, Tryd.results37]
          with_reducible refine CallOk.of c1 rfl ?_
          simp (implicitDefEqProofs := false) (disch := omega) only [go_sem, simprocAttr, go_sem, Nat.le_refl, Int.toNat_natCast, Int.toNat_zero, Int.toNat_one, str_eq, cellsV, Tryd.results37]
    · obtain ⟨m, c1⟩ := atoi_no t ht (fun v h => hat ⟨v, h⟩)
      have hpn : p = -1 := by
        rw [← hp]
        refine ixT_no (fun i hi e => hat ⟨i, ?_⟩)
        have e2 := atoi_sOf i (by unfold fits; omega)
        rw [e] at e2
        exact e2
      subst hpn
      simp (implicitDefEqProofs := false) (disch := omega) only [go_sem, simprocAttr, go_sem, Nat.le_refl, Int.toNat_natCast, Int.toNat_zero, Int.toNat_one, str_eq, cellsV, Tryd.results37]
      with_reducible refine CallOk.of c1 rfl ?_
      simp (implicitDefEqProofs := false) (disch := omega) only [go_sem, simprocAttr, go_sem, Nat.le_refl, Int.toNat_natCast, Int.toNat_zero, Int.toNat_one, str_eq, cellsV, Tryd.results37]
  · rw [if_neg h4] at hp
    subst hp
    simp (implicitDefEqProofs := false) (disch := omega) only [go_sem, simprocAttr, go_sem, Nat.le_refl, Int.toNat_natCast, Int.toNat_zero, Int.toNat_one, str_eq, cellsV, Tryd.results37]
end Go.Proofs.YtahgjolokkfhjaaDoor

end
section
/-
  Chapter 4: where a step leads (the document's); what a path leads to; whether two paths are the same; whether steps may be.
-/
open Go Go.Proofs Go.Pw Go.RowKit
namespace Go.Proofs.YtahgjolokkfhjaaDoor
set_option maxRecDepth 4000
set_option linter.unusedVariables false
set_option linter.unusedSimpArgs false
set_option maxHeartbeats 4000000 in
theorem rplace_ok (v : V) (t : ByteArray) (hv : szV v ≤ 1000000) (hs : SortT v.keys) (ht : t.size ≤ 1000000) : Ok Tryd.prog 39 [.agg (cellsV v), vS t] (vI (plc v t)) := by
  have hk := (V.small hv).2.1
  have hi := (V.small hv).1
  have c0 := find_ok v t hv
  obtain ⟨p, hp⟩ : ∃ p, plc v t = p := ⟨_, rfl⟩
  rw [hp]
  cases v with
  | mk k b n s items keys =>
  rw [plc_mk] at hp
  simp only [V.items_mk, V.keys_mk] at hk hi c0 hs
  refine Ok.of_pwp (by kernel_rfl) Tryd.func39 rfl (by kernel_rfl) (by kernel_rfl) ?_
  by_cases h5 : k = 5
  · subst h5
    rw [if_pos rfl] at hp
    have e : findF keys t = p := by
      cases hf : foundT keys t with
      | true => rw [if_pos hf] at hp; rw [find_T hf, hp]
      | false => rw [if_neg (by rw [hf]; decide)] at hp; rw [find_F hs hf, hp]
    rw [e] at c0
    simp only [cellsV, V.kind_mk, V.b_mk, V.n_mk, V.s_mk, V.items_mk, V.keys_mk] at c0
    simp (implicitDefEqProofs := false) (disch := omega) only [go_sem, simprocAttr, go_sem, Nat.le_refl, Int.toNat_natCast, Int.toNat_zero, Int.toNat_one, str_eq, cellsV, decide_true, Bool.not_true, Bool.not_false, Tryd.results39]
    with_reducible refine CallOk.of c0 rfl ?_
    simp (implicitDefEqProofs := false) (disch := omega) only [go_sem, simprocAttr, go_sem, Nat.le_refl, Int.toNat_natCast, Int.toNat_zero, Int.toNat_one, str_eq, cellsV, decide_true, Bool.not_true, Bool.not_false, Tryd.results39]
  rw [if_neg h5] at hp
  by_cases h4 : k = 4
  · subst h4
    rw [if_pos rfl] at hp
    simp (implicitDefEqProofs := false) (disch := omega) only [go_sem, simprocAttr, go_sem, Nat.le_refl, Int.toNat_natCast, Int.toNat_zero, Int.toNat_one, str_eq, cellsV, decide_true, Bool.not_true, Bool.not_false, Tryd.results39]
    refine p_loop (ι := { i : Nat // i ≤ items.length ∧ ∀ j : Nat, j < i → sOf j ≠ t }) (fun i => ⟨[(18, vI i.1), (17, vI items.length), (2, .ptr 0 0), (1, vS t)], [(0, .box 28 [vI 4, vB b, vI n, vS s, .sl (encV items), .sl (encT keys)])], [], 1, 0⟩) (fun i => items.length - i.1) ⟨0, Nat.zero_le _, fun j h => by omega⟩ ?_ ?_
    · refine ⟨?_, ?_, ?_, ?_, ?_, ?_, ?_⟩ <;> simp only [go_sem, simprocAttr, decide_eq_true_eq, Int.natCast_zero] <;> try first | omega | ((repeat' (first | exact And.intro rfl (by omega) | (refine And.intro ?_ ?_))) <;> first | rfl | omega | (congr 3; omega) | (congr 2; omega))
    · rintro ⟨i, k1, k2⟩
      simp only
      by_cases hl : i < items.length
      · have hf : fits i := by unfold fits; omega
        have c1 := of_rep (i : Int) hf
        have c2 := rtext_ok (i : Int) hf
        by_cases he : sOf i = t
        · have hpi : p = i := by rw [← hp]; exact ixT_yes hl he
          have hed : decide ((sOf i).data.toList = t.data.toList) = true := decide_eq_true (by rw [he])
          subst hpi
          simp (implicitDefEqProofs := false) (disch := omega) only [go_sem, simprocAttr, go_sem, Nat.le_refl, Int.toNat_natCast, Int.toNat_zero, Int.toNat_one, str_eq, cellsV, decide_true, Bool.not_true, Bool.not_false, Tryd.results39, hed]
          with_reducible refine CallOk.of c1 rfl ?_
          simp (implicitDefEqProofs := false) (disch := omega) only [go_sem, simprocAttr, go_sem, Nat.le_refl, Int.toNat_natCast, Int.toNat_zero, Int.toNat_one, str_eq, cellsV, decide_true, Bool.not_true, Bool.not_false, Tryd.results39, hed]
          with_reducible refine CallOk.of c2 rfl ?_
          simp (implicitDefEqProofs := false) (disch := omega) only [go_sem, simprocAttr, go_sem, Nat.le_refl, Int.toNat_natCast, Int.toNat_zero, Int.toNat_one, str_eq, cellsV, decide_true, Bool.not_true, Bool.not_false, Tryd.results39, hed]
        · have hed : decide ((sOf i).data.toList = t.data.toList) = false := decide_eq_false (fun e => he (byte_ext e))
          simp (implicitDefEqProofs := false) (disch := omega) only [go_sem, simprocAttr, go_sem, Nat.le_refl, Int.toNat_natCast, Int.toNat_zero, Int.toNat_one, str_eq, cellsV, decide_true, Bool.not_true, Bool.not_false, Tryd.results39, hed]
          with_reducible refine CallOk.of c1 rfl ?_
          simp (implicitDefEqProofs := false) (disch := omega) only [go_sem, simprocAttr, go_sem, Nat.le_refl, Int.toNat_natCast, Int.toNat_zero, Int.toNat_one, str_eq, cellsV, decide_true, Bool.not_true, Bool.not_false, Tryd.results39, hed]
          with_reducible refine CallOk.of c2 rfl ?_
          simp (implicitDefEqProofs := false) (disch := omega) only [go_sem, simprocAttr, go_sem, Nat.le_refl, Int.toNat_natCast, Int.toNat_zero, Int.toNat_one, str_eq, cellsV, decide_true, Bool.not_true, Bool.not_false, Tryd.results39, hed]
          refine ⟨⟨i + 1, hl, fun j hj => by
            by_cases e : j = i
            · subst e; exact he
            · exact k2 j (by omega)⟩, by simp only; omega, ?_⟩
          refine ⟨?_, ?_, ?_, ?_, ?_, ?_, ?_⟩ <;> simp only [go_sem, simprocAttr, decide_eq_true_eq, Int.natCast_add, Int.natCast_one] <;> try first | omega | ((repeat' (first | exact And.intro rfl (by omega) | (refine And.intro ?_ ?_))) <;> first | rfl | omega | (congr 3; omega) | (congr 2; omega))
      · have hpn : p = -1 := by rw [← hp]; exact ixT_no (fun j hj => k2 j (by omega))
        subst hpn
        simp (implicitDefEqProofs := false) (disch := omega) only [go_sem, simprocAttr, go_sem, Nat.le_refl, Int.toNat_natCast, Int.toNat_zero, Int.toNat_one, str_eq, cellsV, decide_true, Bool.not_true, Bool.not_false, Tryd.results39]
  · rw [if_neg h4] at hp
    subst hp
    simp (implicitDefEqProofs := false) (disch := omega) only [go_sem, simprocAttr, go_sem, Nat.le_refl, Int.toNat_natCast, Int.toNat_zero, Int.toNat_one, str_eq, cellsV, decide_true, Bool.not_true, Bool.not_false, Tryd.results39]
end Go.Proofs.YtahgjolokkfhjaaDoor

end
section
/-
  slices.Clone of elements of 1 cells: of something, in memory of its own.
-/
open Go Go.Proofs Go.RowKit Go.Lib
namespace Go.Proofs.YtahgjolokkfhjaaDoor
set_option maxRecDepth 4000
set_option linter.unusedVariables false
set_option linter.unusedSimpArgs false
theorem clS_info : ∃ i0, Tryd.prog.info? 9 = some i0 ∧ i0.zero = some (.string ⟨#[]⟩) ∧ i0.size = 1 ∧ i0.bytes = 16 := ⟨_, rfl, rfl, rfl, rfl⟩
set_option maxHeartbeats 4000000 in
set_option maxRecDepth 100000 in
theorem clS_grow (a : Addr) (n c : Nat) (cs : List Value) (w : World) (hn : 0 < n) (hbig : n * 16 ≤ 140737488355328) (hcl : cs.length = n)
    (hcs : ∀ j v, cs[j]? = some v → w.cell? (a.add j) = some v) (h1 : ∀ v ∈ cs, v.oneCell' = true) :
    Calls Tryd.prog 66 #[.slice (some a) n c] w fun e w' => ∃ c', n ≤ c' ∧ c' ≤ maxLen ∧ e = .returned (.slice (some ⟨w.heap.size + 1, 0, none⟩) n c') ∧
      w' = ((w.alloc (.cells #[] 9)).drew).alloc (.cells (cs.toArray ++ Builtin.zeroCells (.string ⟨#[]⟩ : Value).cells (c' - n)) 9) := by
  have mixed : Tryd.prog.follows .mixedOrders = true := by kernel_rfl
  obtain ⟨i0, hi0, hz0, hzs, hzb⟩ := clS_info
  have hsrc : Src Tryd.prog i0.size 23 (.slice (some a) n c) n cs (w.alloc (.cells #[] 9)) := by
    rw [hzs]
    exact Src.ofSlice _ Tryd.underlying23 a n c cs (by omega) (fun j u hj => Lib.cell?_alloc_some _ (hcs j u hj)) h1
  have hold : (Builtin.firstCells i0.size 0 (.slice (some ⟨w.heap.size, 0, none⟩) 0 0)).run Tryd.prog (w.alloc (.cells #[] 9)).drew = .ok #[] (w.alloc (.cells #[] 9)).drew := by
    rw [hzs]
    exact run_firstCells_some _ 1 0 ⟨w.heap.size, 0, none⟩ 0 0 [] (by simp) (fun j v hj => by simp at hj)
  have hrun : ∀ ty, (Builtin.append_ #[23, 23] ty #[.slice (some ⟨w.heap.size, 0, none⟩) 0 0, .slice (some a) n c]).run Tryd.prog (w.alloc (.cells #[] 9)) = _ := fun ty =>
    run_append_grow_src _ 23 23 ty 9 i0 _ Tryd.underlying23 hi0 hz0 (some ⟨w.heap.size, 0, none⟩) 0 0 [] hold _ n cs hsrc (by omega) (by omega) (by rw [hzb]; exact growslice_fits (by omega) (by simpa using hbig))
  have hge := grownCap_ge (w.alloc (.cells #[] 9)) (0 + n) 0 9
  have hle := grownCap_le_maxLen (w.alloc (.cells #[] 9)) (0 + n) 0 9 (by unfold maxLen; omega)
  go_enter Tryd.func66, Tryd.ntmps66
  go_wp2
  rw [Lib.run_eql_slice_nil _ _ _ _ _ _ _ _ Tryd.underlying23]
  simp only [Result.andThen]
  rw [Oper.upon_value]
  go_wp2_with (at_builtin; refine Lib.wpList_append_run _ rfl _ _ _ _ rfl _ _ rfl rfl _ _ (hrun _) ?_)
  go_ret
  simp only [Nat.zero_add] at hge hle ⊢
  exact ⟨_, hge, hle, rfl, rfl⟩
end Go.Proofs.YtahgjolokkfhjaaDoor

end
section
/-
  slices.Clone of elements of 6 cells: of something, in memory of its own.
-/
open Go Go.Proofs Go.RowKit Go.Lib
namespace Go.Proofs.YtahgjolokkfhjaaDoor
set_option maxRecDepth 4000
set_option linter.unusedVariables false
set_option linter.unusedSimpArgs false
theorem clV_info : ∃ i0, Tryd.prog.info? 32 = some i0 ∧ i0.zero = some (.agg #[.int .i64 0, .bool false, .int .i64 0, .string ⟨#[]⟩, .slice none 0 0, .slice none 0 0]) ∧ i0.size = 6 ∧ i0.bytes = 88 := ⟨_, rfl, rfl, rfl, rfl⟩
set_option maxHeartbeats 4000000 in
set_option maxRecDepth 100000 in
theorem clV_grow (a : Addr) (n c : Nat) (cs : List Value) (w : World) (hn : 0 < n) (hbig : n * 88 ≤ 140737488355328) (hcl : cs.length = n * 6)
    (hcs : ∀ j v, cs[j]? = some v → w.cell? (a.add j) = some v) (h1 : ∀ v ∈ cs, v.oneCell' = true) :
    Calls Tryd.prog 63 #[.slice (some a) n c] w fun e w' => ∃ c', n ≤ c' ∧ c' ≤ maxLen ∧ e = .returned (.slice (some ⟨w.heap.size + 1, 0, none⟩) n c') ∧
      w' = ((w.alloc (.cells #[] 32)).drew).alloc (.cells (cs.toArray ++ Builtin.zeroCells (.agg #[.int .i64 0, .bool false, .int .i64 0, .string ⟨#[]⟩, .slice none 0 0, .slice none 0 0] : Value).cells (c' - n)) 32) := by
  have mixed : Tryd.prog.follows .mixedOrders = true := by kernel_rfl
  obtain ⟨i0, hi0, hz0, hzs, hzb⟩ := clV_info
  have hsrc : Src Tryd.prog i0.size 30 (.slice (some a) n c) n cs (w.alloc (.cells #[] 32)) := by
    rw [hzs]
    exact Src.ofSlice _ Tryd.underlying30 a n c cs (by omega) (fun j u hj => Lib.cell?_alloc_some _ (hcs j u hj)) h1
  have hold : (Builtin.firstCells i0.size 0 (.slice (some ⟨w.heap.size, 0, none⟩) 0 0)).run Tryd.prog (w.alloc (.cells #[] 32)).drew = .ok #[] (w.alloc (.cells #[] 32)).drew := by
    rw [hzs]
    exact run_firstCells_some _ 6 0 ⟨w.heap.size, 0, none⟩ 0 0 [] (by simp) (fun j v hj => by simp at hj)
  have hrun : ∀ ty, (Builtin.append_ #[30, 30] ty #[.slice (some ⟨w.heap.size, 0, none⟩) 0 0, .slice (some a) n c]).run Tryd.prog (w.alloc (.cells #[] 32)) = _ := fun ty =>
    run_append_grow_src _ 30 30 ty 32 i0 _ Tryd.underlying30 hi0 hz0 (some ⟨w.heap.size, 0, none⟩) 0 0 [] hold _ n cs hsrc (by omega) (by omega) (by rw [hzb]; exact growslice_fits (by omega) (by simpa using hbig))
  have hge := grownCap_ge (w.alloc (.cells #[] 32)) (0 + n) 0 32
  have hle := grownCap_le_maxLen (w.alloc (.cells #[] 32)) (0 + n) 0 32 (by unfold maxLen; omega)
  go_enter Tryd.func63, Tryd.ntmps63
  go_wp2
  rw [Lib.run_eql_slice_nil _ _ _ _ _ _ _ _ Tryd.underlying30]
  simp only [Result.andThen]
  rw [Oper.upon_value]
  go_wp2_with (at_builtin; refine Lib.wpList_append_run _ rfl _ _ _ _ rfl _ _ rfl rfl _ _ (hrun _) ?_)
  go_ret
  simp only [Nat.zero_add] at hge hle ⊢
  exact ⟨_, hge, hle, rfl, rfl⟩
end Go.Proofs.YtahgjolokkfhjaaDoor

end
section
/-
  slices.Clone of something, as a contract over made slices.
-/
open Go Go.Proofs Go.RowKit Go.Lib Go.Pw
namespace Go.Proofs.YtahgjolokkfhjaaDoor
set_option maxRecDepth 4000
set_option linter.unusedVariables false
set_option linter.unusedSimpArgs false
def CloneRd (P : Program) (F : FuncId) (E : TypeId) (sz by_ : Nat) (z : Value) : Prop := ∀ (a : Addr) (n c : Nat) (cs : List Value) (w : World), 0 < n → n * by_ ≤ 140737488355328 → cs.length = n * sz →
    (∀ j v, cs[j]? = some v → w.cell? (a.add j) = some v) → (∀ v ∈ cs, v.oneCell' = true) →
    Calls P F #[.slice (some a) n c] w fun e w' => ∃ c', n ≤ c' ∧ c' ≤ maxLen ∧ e = .returned (.slice (some ⟨w.heap.size + 1, 0, none⟩) n c') ∧
      w' = ((w.alloc (.cells #[] E)).drew).alloc (.cells (cs.toArray ++ Builtin.zeroCells z.cells (c' - n)) E)
theorem clS_rd : CloneRd Tryd.prog 66 9 1 16 (.string ⟨#[]⟩) := fun a n c cs w h1 h2 h3 h4 h5 => clS_grow a n c cs w h1 h2 (by omega) h4 h5
theorem clV_rd : CloneRd Tryd.prog 63 32 6 88 (.agg #[.int .i64 0, .bool false, .int .i64 0, .string ⟨#[]⟩, .slice none 0 0, .slice none 0 0]) := fun a n c cs w h1 h2 h3 h4 h5 => clV_grow a n c cs w h1 h2 h3 h4 h5
theorem flat_get {sz : Nat} (h0 : 0 < sz) : ∀ {xs : List (List PV)}, (∀ x ∈ xs, x.length = sz) → ∀ k, xs.flatten[k]? = (xs[k / sz]?).bind (·[k % sz]?)
  | [], _, k => by simp
  | x :: r, h, k => by
    have hx := h x (by simp)
    rw [List.flatten_cons]
    by_cases hk : k < sz
    · rw [List.getElem?_append_left (by omega), Nat.div_eq_of_lt hk, Nat.mod_eq_of_lt hk]; rfl
    · rw [List.getElem?_append_right (by omega), flat_get h0 (fun y hy => h y (by simp [hy])) (k - x.length), hx]
      have h1 : k / sz = (k - sz) / sz + 1 := by rw [← Nat.sub_add_cancel (show sz ≤ k by omega)]; simp [Nat.add_div_right _ h0]
      have h2 : k % sz = (k - sz) % sz := by rw [Nat.mod_eq_sub_mod (by omega)]
      rw [h1, h2, List.getElem?_cons_succ]
theorem flat_len {sz : Nat} : ∀ {xs : List (List PV)}, (∀ x ∈ xs, x.length = sz) → xs.flatten.length = xs.length * sz
  | [], _ => by simp
  | x :: r, h => by rw [List.flatten_cons, List.length_append, h x (by simp), flat_len (fun y hy => h y (by simp [hy])), List.length_cons, Nat.succ_mul]; omega
theorem OkI.clone {P : Program} {F : FuncId} {E : TypeId} {sz by_ : Nat} {z : Value} (hent : enters P F = true) (G : CloneRd P F E sz by_ z) (hzs : z.cells.size = sz) (hz1 : ∀ u ∈ z.cells.toList, u.oneCell' = true) (hsz : 0 < sz)
    {st : PS} (xs : List (List PV)) (hx : ∀ x ∈ xs, x.length = sz) (hne : 0 < xs.length) (hbig : xs.length * by_ ≤ 140737488355328) :
    OkI P F [.sl xs] st (fun r st' => ∃ c' rest', xs.length ≤ c' ∧ c' ≤ maxLen ∧ rest'.length = (c' - xs.length) * sz ∧ (∀ a b, PV.ltL a b rest' = true) ∧ r = .ms st.nx 0 xs.length c' ∧
      st' = { st with heap := (st.nx, .box E (xs.flatten ++ rest')) :: st.heap, nx := st.nx + 1 }) := by
  refine ⟨hent, fun own S0 w0 w C vals R hsv hrep => ?_⟩
  obtain ⟨v0, rfl⟩ : ∃ v0, vals = #[v0] := by
    cases vals with
    | mk l => match l, hsv with
      | [a], _ => exact ⟨a, rfl⟩
  have r0 := hrep 0 v0 _ rfl rfl
  cases r0 with
  | frz r0 =>
  cases r0 with
  | sl f hn hc hsz' hA hr =>
  rename_i A n c sz'
  subst hn
  have e1 : sz' = sz := by
    obtain ⟨x, hxm⟩ := List.exists_mem_of_length_pos hne
    rw [← hsz' x hxm, hx x hxm]
  subst e1
  obtain ⟨b, o, rfl, hS⟩ := hA hne
  obtain ⟨cs, hcs⟩ : ∃ cs : List Value, cs = (List.range (xs.length * sz')).map fun k => f (k / sz') (k % sz') := ⟨_, rfl⟩
  have hcl : cs.length = xs.length * sz' := by rw [hcs]; simp
  have hcg : ∀ k v, cs[k]? = some v → k < xs.length * sz' ∧ v = f (k / sz') (k % sz') := fun k v h => by
    have hk : k < xs.length * sz' := by rw [← hcl]; exact (List.getElem?_eq_some_iff.1 h).1
    rw [hcs, List.getElem?_map, List.getElem?_range hk] at h
    exact ⟨hk, (Option.some.inj h).symm⟩
  have hdiv : ∀ k, k < xs.length * sz' → k / sz' < xs.length ∧ k % sz' < sz' := fun k hk => ⟨(Nat.div_lt_iff_lt_mul hsz).2 hk, Nat.mod_lt _ hsz⟩
  have hrepk : ∀ k v, cs[k]? = some v → ∃ p, xs.flatten[k]? = some p ∧ RepF C.S v p := fun k v h => by
    obtain ⟨hk, rfl⟩ := hcg k v h
    obtain ⟨d1, d2⟩ := hdiv k hk
    have g1 : xs[k / sz']? = some xs[k / sz'] := List.getElem?_eq_getElem d1
    have g2 : (xs[k / sz'])[k % sz']? = some ((xs[k / sz'])[k % sz']'(by rw [hx _ (List.getElem_mem d1)]; exact d2)) := List.getElem?_eq_getElem _
    refine ⟨_, ?_, hr _ _ _ _ g1 g2⟩
    rw [flat_get hsz hx, g1]
    exact g2
  refine (G ⟨b, o, none⟩ xs.length c cs w hne hbig hcl (fun k v h => ?_) (fun v hv => ?_)).mono ?_
  · obtain ⟨hk, rfl⟩ := hcg k v h
    obtain ⟨d1, d2⟩ := hdiv k hk
    have := R.stable _ _ _ (hS _ _ d1 d2)
    rw [Addr.add_lit]
    rw [show k / sz' * sz' + k % sz' = k by rw [Nat.mul_comm]; exact Nat.div_add_mod k sz'] at this
    exact this
  · obtain ⟨k, hk⟩ := List.mem_iff_getElem?.1 hv
    obtain ⟨p, _, hp⟩ := hrepk k v hk
    exact hp.one
  rintro e w' ⟨c', h1, h2, rfl, rfl⟩
  have R1 := Rel.drew (Rel.below_ R ((Below.refl _ w).alloc (Nat.le_refl _) (.cells #[] E)))
  have hzc : ∀ (j : Nat) (u : Value), (Builtin.zeroCells z.cells (c' - xs.length))[j]? = some u → u.oneCell' = true := fun j u h => by
    unfold Builtin.zeroCells at h
    rw [Array.getElem?_map] at h
    have hj : j < (c' - xs.length) * z.cells.size := by
      have := (Array.getElem?_eq_some_iff.1 (Option.map_eq_some_iff.1 h).choose_spec.1).1
      simpa using this
    obtain ⟨q, hq1, hq2⟩ := Option.map_eq_some_iff.1 h
    subst hq2
    have hlt : q % z.cells.size < z.cells.size := Nat.mod_lt _ (by omega)
    rw [getElem!_pos z.cells _ hlt]
    exact hz1 _ (by simp)
  have hL : RepL C st.toks (· < st.nx) (· < st.nt) (cs.toArray ++ Builtin.zeroCells z.cells (c' - xs.length)).toList (xs.flatten ++ (Builtin.zeroCells z.cells (c' - xs.length)).toList.map .val) := by
    rw [Array.toList_append]
    refine RepL.app ⟨by simp [hcl, flat_len hx], fun i v p hv hp => ?_⟩ ⟨by simp, fun i v p hv hp => ?_⟩
    · obtain ⟨p', g1, g2⟩ := hrepk i v (by simpa using hv)
      rw [g1] at hp
      obtain rfl := Option.some.inj hp
      exact ⟨g2.one, .frz g2⟩
    · rw [List.getElem?_map, hv] at hp
      obtain rfl := Option.some.inj hp
      have := hzc i v (by simpa using hv)
      exact ⟨this, .frz (.val this)⟩
  have R2 := R1.newObj st.nx (Nat.lt_irrefl _) (U' := (· < st.nx + 1)) (fun i hi => Nat.lt_succ_of_lt hi) (Nat.lt_succ_self _) (.box E (xs.flatten ++ (Builtin.zeroCells z.cells (c' - xs.length)).toList.map .val)) (.cells (cs.toArray ++ Builtin.zeroCells z.cells (c' - xs.length)) E) (fun T ds h => by
      obtain ⟨rfl, rfl⟩ := PObj.box.inj h
      exact ⟨_, rfl, hL⟩) (fun s pos h => by cases h) (st.nx + 1) st.nt
  refine ⟨_, _, _, _, ⟨c', (Builtin.zeroCells z.cells (c' - xs.length)).toList.map .val, h1, h2, ?_, ltL_val _, rfl, rfl⟩, rfl, R2, R1.ext_at _ _ (Nat.lt_irrefl _) (fun i hi => Nat.lt_succ_of_lt hi), ?_⟩
  · simp [Builtin.zeroCells, hzs]
  · have : (C.at st.nx ((w.alloc (.cells #[] E)).drew).heap.size).ρ st.nx = w.heap.size + 1 := by simp [Cx.at]
    rw [← this]
    exact .ms (Nat.lt_succ_self _) h1
end Go.Proofs.YtahgjolokkfhjaaDoor

end
section
/-
  slices.Clone: of nothing, in memory; of something, by its code.
-/
open Go Go.Proofs Go.RowKit Go.Lib Go.Pw
namespace Go.Proofs.YtahgjolokkfhjaaDoor
set_option maxRecDepth 4000
set_option linter.unusedVariables false
set_option linter.unusedSimpArgs false
theorem run_append_empty {P : Program} {t e ty : TypeId} {i : TypeInfo} (ht : P.underlying t = some (.slice e)) (hi : P.info? e = some i) (b : Nat) (a : Addr) (cd c : Nat) (w : World) :
    (Builtin.append_ #[t, t] ty #[.slice (some ⟨b, 0, none⟩) 0 cd, .slice (some a) 0 c]).run P w = .ok (.slice (some ⟨b, 0, none⟩) 0 cd) w := by
  have hs : Src P i.size t (.slice (some a) 0 c) 0 [] w := Src.ofSlice w ht a 0 c [] (by simp) (fun j u hj => by simp at hj) (fun v hv => by cases hv)
  have := run_append_room_src (P := P) (w := w) t t ty e i ht hi b 0 0 cd (.slice (some a) 0 c) 0 [] hs (Nat.zero_le _) (fun j hj => by simp at hj) (fun j hj => by simp at hj)
  simpa [World.setCells] using this
theorem ok_of_empty {P : Program} {f : FuncId} (hent : enters P f = true) (h : ∀ (A : Option Addr) (c : Nat) (w : World), Calls P f #[.slice A 0 c] w fun e w' => ∃ A c', e = .returned (.slice A 0 c') ∧ Below w.heap.size w w') : Ok P f [.sl []] (.sl []) := by
  refine ⟨hent, fun S w vals hkn hS hn hr => ?_⟩
  obtain ⟨v, rfl⟩ : ∃ v, vals = #[v] := by
    cases vals with
    | mk l => match l, hn with
      | [v], _ => exact ⟨v, rfl⟩
  have r := hr 0 v _ rfl rfl
  cases r with
  | frz r =>
  cases r with
  | sl f hn' hc hsz hA hr' =>
  rename_i A n c sz
  have h0 : n = 0 := by simpa using hn'.symm
  subst h0
  refine (h A c w).mono ?_
  rintro e w' ⟨A', c', rfl, hb⟩
  refine ⟨_, S, rfl, SLe.refl _, fun b o u hu => ?_, fun b o u hu => .inl hu, .frz (.sl (sz := 1) (fun _ _ => .nilIface) rfl (Nat.zero_le _) (by simp) (by simp) (by simp)), hb⟩
  have h1 := hS b o u hu
  have hlt : b < w.heap.size := by
    rcases Nat.lt_or_ge b w.heap.size with h' | h'
    · exact h'
    · simp [World.cell?, Array.getElem?_eq_none h'] at h1
  rw [World.cell?_of_block (hb.block b hlt)]
  exact h1
set_option maxHeartbeats 2000000 in
set_option maxRecDepth 100000 in
theorem cloneV_none (c : Nat) (w : World) : Calls Tryd.prog 63 #[.slice none 0 c] w fun e w' => ∃ A c', e = .returned (.slice A 0 c') ∧ Below w.heap.size w w' := by
  go_enter Tryd.func63, Tryd.ntmps63
  go_wp2
  rw [Lib.run_eql_slice_nil _ _ _ _ _ _ _ _ Tryd.underlying30]
  simp only [Result.andThen]
  rw [Oper.upon_value]
  go_wp2
  go_ret
  exact ⟨none, 0, rfl, Below.refl _ _⟩
set_option maxHeartbeats 2000000 in
set_option maxRecDepth 100000 in
theorem cloneV_some (a : Addr) (c : Nat) (w : World) : Calls Tryd.prog 63 #[.slice (some a) 0 c] w fun e w' => ∃ A c', e = .returned (.slice A 0 c') ∧ Below w.heap.size w w' := by
  obtain ⟨i0, hi0, _⟩ : ∃ i0, Tryd.prog.info? 32 = some i0 ∧ True := ⟨_, rfl, trivial⟩
  have hrun := fun (ty : TypeId) (b cd : Nat) (W : World) => run_append_empty (ty := ty) Tryd.underlying30 hi0 b a cd c W
  go_enter Tryd.func63, Tryd.ntmps63
  go_wp2
  rw [Lib.run_eql_slice_nil _ _ _ _ _ _ _ _ Tryd.underlying30]
  simp only [Result.andThen]
  rw [Oper.upon_value]
  go_wp2_with (at_builtin; refine Lib.wpList_append_run _ rfl _ _ _ _ rfl _ _ rfl rfl _ _ (hrun _ _ _ _) ?_)
  go_ret
  exact ⟨some _, 0, rfl, (Below.refl _ _).alloc (Nat.le_refl _) _⟩
set_option maxHeartbeats 2000000 in
theorem cloneV_ok (l : List V) (hl : l.length ≤ 1000000) : Ok Tryd.prog 63 [.sl (encV l)] (.sl (encV l)) := by
  cases l with
  | nil =>
    rw [encV_nil]
    refine ok_of_empty (by kernel_rfl) fun A c w => ?_
    cases A with
    | none => exact cloneV_none c w
    | some a => exact cloneV_some a c w
  | cons x r =>
    refine Ok.of_pwp (by kernel_rfl) Tryd.func63 rfl (by kernel_rfl) (by kernel_rfl) ?_
    simp (implicitDefEqProofs := false) (disch := omega) only [go_sem, simprocAttr, go_sem, Nat.le_refl, cellsV, Tryd.results63]
    refine ⟨⟨_, Tryd.underlying30⟩, by simp [encV_cons], ?_⟩
    refine appZ_any rfl rfl (by rw [encV_len, List.length_nil]; omega) (by rw [encV_len, List.length_nil]; omega) ?_
    simp (implicitDefEqProofs := false) (disch := omega) only [go_sem, simprocAttr, go_sem, Nat.le_refl, cellsV, Tryd.results63]
end Go.Proofs.YtahgjolokkfhjaaDoor

end
section
/-
  A value's copy: the same, in memory of its own.
-/
open Go Go.Proofs Go.Pw Go.RowKit
namespace Go.Proofs.YtahgjolokkfhjaaDoor
set_option maxRecDepth 4000
set_option linter.unusedVariables false
set_option linter.unusedSimpArgs false
def msV (i c : Nat) : List V → PV
  | [] => .sl []
  | x :: r => .ms i 0 (x :: r).length c
def msT (i c : Nat) : List ByteArray → PV
  | [] => .sl []
  | x :: r => .ms i 0 (x :: r).length c
def hpV (i : Nat) (rest : List PV) : List V → List (Nat × PObj)
  | [] => []
  | x :: r => [(i, .box 32 (flatV (x :: r) ++ rest))]
def hpT (i : Nat) (rest : List PV) : List ByteArray → List (Nat × PObj)
  | [] => []
  | x :: r => [(i, .box 9 (flatT (x :: r) ++ rest))]
def CopyQ (v : V) (r : PV) (s : PS) : Prop := ∃ iI cI rI iK cK rK nx nt, iI ≠ iK ∧ iI < nx ∧ iK < nx ∧ v.items.length ≤ cI ∧ cI ≤ maxLen ∧ v.keys.length ≤ cK ∧ cK ≤ maxLen ∧ rI.length = (cI - v.items.length) * 6 ∧ rK.length = cK - v.keys.length ∧ (∀ a b, PV.ltL a b rI = true) ∧ (∀ a b, PV.ltL a b rK = true) ∧
  r = .agg [vI v.kind, vB v.b, vI v.n, vS v.s, msV iI cI v.items, msT iK cK v.keys] ∧ s = ⟨[], hpV iI rI v.items ++ hpT iK rK v.keys, [], nx, nt⟩
theorem flatT_flatten (l : List ByteArray) : (encT l).flatten = flatT l := by
  unfold encT flatT
  induction l with
  | nil => rfl
  | cons x r ih => rw [List.map_cons, List.flatten_cons, ih]; rfl
theorem flatV_flatten (l : List V) : (encV l).flatten = flatV l := by
  rw [encV_map, flatV, List.flatMap_def]
theorem encT_all1 (l : List ByteArray) : ∀ x ∈ encT l, x.length = 1 := fun x hx => by
  obtain ⟨s, _, rfl⟩ := List.mem_map.1 hx
  rfl
theorem encV_all6 (l : List V) : ∀ x ∈ encV l, x.length = 6 := of_eq_true (encV_all l)
theorem one_S : ∀ u ∈ (Value.string ⟨#[]⟩).cells.toList, u.oneCell' = true := by
  intro u hu; simp [Value.cells] at hu; subst hu; rfl
theorem one_V : ∀ u ∈ (Value.agg #[.int .i64 0, .bool false, .int .i64 0, .string ⟨#[]⟩, .slice none 0 0, .slice none 0 0]).cells.toList, u.oneCell' = true := by
  intro u hu; simp [Value.cells] at hu; rcases hu with rfl | rfl | rfl | rfl | rfl | rfl <;> rfl
theorem cloneV_nil : Ok Tryd.prog 63 [.sl []] (.sl []) := by have := cloneV_ok [] (by simp); rwa [encV_nil] at this
set_option maxHeartbeats 2000000 in
set_option maxRecDepth 100000 in
theorem cloneT_none (c : Nat) (w : World) : Calls Tryd.prog 66 #[.slice none 0 c] w fun e w' => ∃ A c', e = .returned (.slice A 0 c') ∧ Below w.heap.size w w' := by
  go_enter Tryd.func66, Tryd.ntmps66
  go_wp2
  rw [Lib.run_eql_slice_nil _ _ _ _ _ _ _ _ Tryd.underlying23]
  simp only [Result.andThen]
  rw [Oper.upon_value]
  go_wp2
  go_ret
  exact ⟨none, 0, rfl, Below.refl _ _⟩
set_option maxHeartbeats 2000000 in
set_option maxRecDepth 100000 in
theorem cloneT_some (a : Addr) (c : Nat) (w : World) : Calls Tryd.prog 66 #[.slice (some a) 0 c] w fun e w' => ∃ A c', e = .returned (.slice A 0 c') ∧ Below w.heap.size w w' := by
  obtain ⟨i0, hi0, _⟩ : ∃ i0, Tryd.prog.info? 9 = some i0 ∧ True := ⟨_, rfl, trivial⟩
  have hrun := fun (ty : TypeId) (b cd : Nat) (W : World) => run_append_empty (ty := ty) Tryd.underlying23 hi0 b a cd c W
  go_enter Tryd.func66, Tryd.ntmps66
  go_wp2
  rw [Lib.run_eql_slice_nil _ _ _ _ _ _ _ _ Tryd.underlying23]
  simp only [Result.andThen]
  rw [Oper.upon_value]
  go_wp2_with (at_builtin; refine Lib.wpList_append_run _ rfl _ _ _ _ rfl _ _ rfl rfl _ _ (hrun _ _ _ _) ?_)
  go_ret
  exact ⟨some _, 0, rfl, (Below.refl _ _).alloc (Nat.le_refl _) _⟩
theorem cloneT_nil : Ok Tryd.prog 66 [.sl []] (.sl []) := by
  refine ok_of_empty (by kernel_rfl) fun A c w => ?_
  cases A with
  | none => exact cloneT_none c w
  | some a => exact cloneT_some a c w
theorem flatV_at {l : List V} {r : List PV} {i : Nat} (h : i < l.length) : (i * 6 + 6 ≤ (flatV l ++ r).length) = True ∧ List.take 6 (List.drop (i * 6) (flatV l ++ r)) = cellsV (l.getD i default) ∧
    List.take (i * 6) (flatV l ++ r) ++ cellsV (l.getD i default) ++ List.drop (i * 6 + 6) (flatV l ++ r) = flatV l ++ r := by
  have h1 : i * 6 + 6 ≤ (flatV l).length := by rw [flatV_len]; omega
  have h2 : List.take 6 (List.drop (i * 6) (flatV l ++ r)) = cellsV (l.getD i default) := by
    rw [List.drop_append_of_le_length (by omega), flatV_drop, List.take_append_of_le_length (by rw [flatV_len, List.length_drop]; omega)]
    have := flatV_take (l.drop i) 1
    rw [Nat.one_mul] at this
    rw [this, drop_consG (d := default) h]
    simp [flatV]
  refine ⟨eq_true (by rw [List.length_append]; omega), h2, ?_⟩
  rw [← h2, List.append_assoc, ← List.drop_drop, List.take_append_drop, List.take_append_drop]

end Go.Proofs.YtahgjolokkfhjaaDoor

end
