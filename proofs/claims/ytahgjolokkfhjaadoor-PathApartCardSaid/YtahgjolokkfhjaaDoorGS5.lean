/-
  Contracts and plain laws on the way to the statement; each says its own conditions.
-/
import Derived.Test.YtahgjolokkfhjaaDoorGS4
import Derived.Lib.DecodeN
import Derived.Laws.RangeAny
import Derived.Lib.RuneCountTail
import Derived.Lib.QuoteLoop
import Derived.Sort.Walk0
import Derived.Shelf.Spec.SlicesInsertGrow
import Derived.Test.YtahgjolokkfhjaaDoorProg
import Derived.Lib.Builder
section
/-
  Contracts and plain laws on the way to the statement; each says its own conditions.
-/
open Go Go.Proofs Go.Pw
namespace Go.Proofs.YtahgjolokkfhjaaDoor
set_option maxRecDepth 4000
set_option linter.unusedVariables false
set_option linter.unusedSimpArgs false
def isF (n : Int) : Bool := decide (0 ≤ n ∧ n < 55296 ∨ 57344 ≤ n ∧ n ≤ 1114111)
theorem ris_ok (n : Int) : Ok Tryd.prog 90 [vI n] (vB (isF n)) := by
  refine Ok.of_pwp (by kernel_rfl) Tryd.func90 rfl (by kernel_rfl) (by kernel_rfl) ?_
  simp (implicitDefEqProofs := false) (disch := omega) only [go_sem, simprocAttr, go_sem, ↓ix_enc, encI_len, encI_take, Nat.le_refl, Tryd.results90]
  repeat' ((first
    | with_reducible refine ifK_split (fun _ => ?_) (fun _ => ?_)) <;> try simp (implicitDefEqProofs := false) (disch := omega) only [go_sem, simprocAttr, go_sem, ↓ix_enc, encI_len, encI_take, Nat.le_refl, Tryd.results90])
  all_goals (congr 2; simp only [isF]; first | (rw [eq_comm, decide_eq_false_iff_not]; omega) | (rw [eq_comm, decide_eq_true_eq]; omega) | (congr 1; apply propext; constructor <;> intro <;> omega))
def bytesF (n : Int) : List Int :=
  if n < 128 then [n] else if n < 2048 then [192 + n / 64, 128 + n % 64] else if n < 65536 then [224 + n / 4096, 128 + n / 64 % 64, 128 + n % 64]
  else [240 + n / 262144, 128 + n / 4096 % 64, 128 + n / 64 % 64, 128 + n % 64]
theorem bytes_ok (n : Int) (h0 : 0 ≤ n) (h1 : n ≤ 1114111) : Ok Tryd.prog 91 [vI n] (.sl (encI (bytesF n))) := by
  refine Ok.of_pwp (by kernel_rfl) Tryd.func91 rfl (by kernel_rfl) (by kernel_rfl) ?_
  unfold bytesF
  simp (implicitDefEqProofs := false) (disch := omega) only [go_sem, simprocAttr, go_sem, ↓ix_enc, encI_len, encI_take, Nat.le_refl, tdivE, tmodE, Tryd.results91]
  repeat' ((first
    | with_reducible refine ifK_split (fun _ => ?_) (fun _ => ?_)) <;> try simp (implicitDefEqProofs := false) (disch := omega) only [go_sem, simprocAttr, go_sem, ↓ix_enc, encI_len, encI_take, Nat.le_refl, tdivE, tmodE, Tryd.results91])
  · rw [if_pos (by omega)]; rfl
  · rw [if_neg (by omega), if_pos (by omega)]; rfl
  · rw [if_neg (by omega), if_neg (by omega), if_pos (by omega)]; rfl
  · rw [if_neg (by omega), if_neg (by omega), if_neg (by omega)]; rfl
theorem bt_range (s : ByteArray) (i : Int) : 0 ≤ bt s i ∧ bt s i ≤ 255 := by
  unfold bt
  have := UInt8.toNat_lt (s.data.toList.getD i.toNat 0)
  omega
def headF : Nat → Int
  | 2 => 192
  | 3 => 224
  | 4 => 240
  | _ => 0
def accF (s : ByteArray) (a : Int) (m : Nat) : Nat → Int
  | 0 => bt s a - headF m
  | j + 1 => accF s a m j * 64 + bt s (a + (j + 1)) - 128
def sameF (b : List Int) (s : ByteArray) (a : Int) (m : Nat) : Nat → Bool
  | 0 => decide ((b.length : Int) = (m : Int))
  | j + 1 => sameF b s a m j && decide (b.getD j 0 = bt s (a + j))
def firstF (s : ByteArray) (a : Int) : Nat → Nat → Int × Int
  | 0, _ => (-1, 0)
  | f + 1, m => if (s.size : Int) < a + m then (-1, 0) else if isF (accF s a m (m - 1)) && sameF (bytesF (accF s a m (m - 1))) s a m m then (accF s a m (m - 1), m) else firstF s a f (m + 1)
theorem accF_step (s : ByteArray) (a : Int) (m j : Nat) (B : Int) (h : -B ≤ accF s a m j ∧ accF s a m j ≤ B) : -(B * 64 + 400) ≤ accF s a m (j + 1) ∧ accF s a m (j + 1) ≤ B * 64 + 400 := by
  have := bt_range s (a + (j + 1))
  simp only [accF]
  omega
theorem accF_range (s : ByteArray) (a : Int) (m : Nat) (j : Nat) (hj : j ≤ 3) : -1000000000 ≤ accF s a m j ∧ accF s a m j ≤ 1000000000 := by
  have b0 := bt_range s a
  have hh : 0 ≤ headF m ∧ headF m ≤ 240 := by unfold headF; split <;> decide
  have h0 : -300 ≤ accF s a m 0 ∧ accF s a m 0 ≤ 300 := by simp only [accF]; omega
  have h1 := accF_step s a m 0 _ h0
  have h2 := accF_step s a m 1 _ h1
  have h3 := accF_step s a m 2 _ h2
  have : j = 0 ∨ j = 1 ∨ j = 2 ∨ j = 3 := by omega
  rcases this with rfl | rfl | rfl | rfl
  · omega
  · simp only [Nat.zero_add] at h1; omega
  · simp only [Nat.reduceAdd] at h2; omega
  · simp only [Nat.reduceAdd] at h3; omega
theorem sameF_false {b : List Int} {s : ByteArray} {a : Int} {m j : Nat} (h : sameF b s a m j = false) : ∀ k, sameF b s a m (j + k) = false
  | 0 => h
  | k + 1 => by rw [← Nat.add_assoc, sameF, sameF_false h k, Bool.false_and]
theorem sameF_len {b : List Int} {s : ByteArray} {a : Int} {m : Nat} : ∀ {j : Nat}, sameF b s a m j = true → b.length = m
  | 0, h => by simp only [sameF, decide_eq_true_eq] at h; omega
  | j + 1, h => by
    simp only [sameF, Bool.and_eq_true] at h
    exact sameF_len h.1
abbrev twoP (n e : Int) : PV := .tup [vI n, vI e]
set_option maxHeartbeats 8000000 in
theorem first_ok (s : ByteArray) (a : Int) (h0 : 0 ≤ a) (h1 : a ≤ s.size) (hs : s.size ≤ 140737488351232) : Ok Tryd.prog 74 [vS s, vI a] (twoP (firstF s a 4 1).1 (firstF s a 4 1).2) := by
  refine Ok.of_pwp (by kernel_rfl) Tryd.func74 rfl (by kernel_rfl) (by kernel_rfl) ?_
  generalize hr : firstF s a 4 1 = r
  simp (implicitDefEqProofs := false) (disch := omega) only [go_sem, simprocAttr, go_sem, ↓ix_enc, encI_len, encI_take, Nat.le_refl]
  refine p_loop (ι := { m : Nat // 1 ≤ m ∧ m ≤ 5 ∧ r = firstF s a (5 - m) m }) (fun m => ⟨[(6, vI m.1), (0, vS s), (1, vI a)], [], [], 0, 0⟩) (fun m => 5 - m.1) ⟨1, by decide, by decide, hr.symm⟩ ?_ ?_
  · refine ⟨?_, ?_, ?_, ?_, ?_, ?_, ?_⟩ <;> simp only [go_sem, simprocAttr, decide_eq_true_eq, Int.natCast_one] <;> try first | omega | ((repeat' (first | exact And.intro rfl (by omega) | (refine And.intro ?_ ?_))) <;> first | rfl | omega | (congr 3; omega) | (congr 2; omega))
  · rintro ⟨m, g1, g2, g3⟩
    have hm : m = 1 ∨ m = 2 ∨ m = 3 ∨ m = 4 ∨ m = 5 := by omega
    simp only
    rcases hm with rfl | rfl | rfl | rfl | rfl
    · simp only [Int.natCast_one]
      simp (implicitDefEqProofs := false) (disch := omega) only [go_sem, simprocAttr, go_sem, ↓ix_enc, encI_len, encI_take, Nat.le_refl]
      with_reducible refine ifK_split (fun hge => ?_) (fun hlt => ?_)
      · simp (implicitDefEqProofs := false) (disch := omega) only [go_sem, simprocAttr, go_sem, ↓ix_enc, encI_len, encI_take, Nat.le_refl, Tryd.results74]
        rw [g3]
        simp only [firstF]
        rw [if_pos (by omega)]
      · have hb := bt_range s a
        simp (implicitDefEqProofs := false) (disch := omega) only [go_sem, simprocAttr, go_sem, ↓ix_enc, encI_len, encI_take, Nat.le_refl]
        refine p_loop (ι := { i : Nat // i < 1 }) (fun i => ⟨[(9, vI (i.1 + 1 : Nat)), (8, vI (accF s a 1 i.1)), (6, vI 1), (0, vS s), (1, vI a)], [], [], 9, 9⟩) (fun i => 1 - i.1) ⟨0, by omega⟩ ?_ ?_
        · simp only [accF, headF]
          refine ⟨?_, ?_, ?_, ?_, ?_, ?_, ?_⟩ <;> simp only [go_sem, simprocAttr, decide_eq_true_eq, Int.natCast_one, Nat.zero_add] <;> try first | omega | ((repeat' (first | exact And.intro rfl (by omega) | (refine And.intro ?_ ?_))) <;> first | rfl | omega | (congr 3; omega) | (congr 2; omega))
        · rintro ⟨i, hi⟩
          simp only
          have hacc := accF_range s a 1 i (by omega)
          simp (implicitDefEqProofs := false) (disch := omega) only [go_sem, simprocAttr, go_sem, ↓ix_enc, encI_len, encI_take, Nat.le_refl]
          · have hi2 : i = 1 - 1 := by omega
            subst hi2
            simp only [Nat.reduceSub] at hacc ⊢
            simp (implicitDefEqProofs := false) (disch := omega) only [go_sem, simprocAttr, go_sem, ↓ix_enc, encI_len, encI_take, Nat.le_refl]
            with_reducible refine CallOk.of (ris_ok _) rfl ?_
            simp (implicitDefEqProofs := false) (disch := omega) only [go_sem, simprocAttr, go_sem, ↓ix_enc, encI_len, encI_take, Nat.le_refl]
            with_reducible refine ifK_bsplit (fun hn => ?_) (fun hn => ?_)
            · have hn' : isF (accF s a 1 (1 - 1)) = false := by simpa using hn
              simp (implicitDefEqProofs := false) (disch := omega) only [go_sem, simprocAttr, go_sem, ↓ix_enc, encI_len, encI_take, Nat.le_refl]
              refine ⟨⟨2, by omega, by omega, ?_⟩, by simp only; omega, ?_⟩
              · rw [g3]
                simp only [firstF]
                rw [if_neg (by omega), hn', Bool.false_and]
                rfl
              · refine ⟨?_, ?_, ?_, ?_, ?_, ?_, ?_⟩ <;> simp only [go_sem, simprocAttr, decide_eq_true_eq, Int.cast_ofNat_Int] <;> try first | omega | ((repeat' (first | exact And.intro rfl (by omega) | (refine And.intro ?_ ?_))) <;> first | rfl | omega | (congr 3; omega) | (congr 2; omega))
            · have hn' : isF (accF s a 1 (1 - 1)) = true := by simpa using hn
              have hp : 0 ≤ accF s a 1 (1 - 1) ∧ accF s a 1 (1 - 1) ≤ 1114111 := by
                unfold isF at hn'
                simp only [decide_eq_true_eq] at hn'
                omega
              simp only [Nat.reduceSub] at hp
              simp (implicitDefEqProofs := false) (disch := omega) only [go_sem, simprocAttr, go_sem, ↓ix_enc, encI_len, encI_take, Nat.le_refl]
              with_reducible refine CallOk.of (bytes_ok _ hp.1 hp.2) rfl ?_
              simp (implicitDefEqProofs := false) (disch := omega) only [go_sem, simprocAttr, go_sem, ↓ix_enc, encI_len, encI_take, Nat.le_refl]
              refine p_loop (ι := { j : Nat // j ≤ 1 }) (fun j => ⟨[(12, vI j.1), (11, vB (sameF (bytesF (accF s a 1 (1 - 1))) s a 1 j.1)), (10, .sl (encI (bytesF (accF s a 1 (1 - 1))))), (8, vI (accF s a 1 (1 - 1))), (6, vI 1), (0, vS s), (1, vI a)], [], [], 9, 9⟩) (fun j => 1 - j.1) ⟨0, by omega⟩ ?_ ?_
              · simp only [sameF, Int.cast_ofNat_Int, Int.natCast_one]
                refine ⟨?_, ?_, ?_, ?_, ?_, ?_, ?_⟩ <;> simp only [go_sem, simprocAttr, decide_eq_true_eq, Int.natCast_zero] <;> try first | omega | ((repeat' (first | exact And.intro rfl (by omega) | (refine And.intro ?_ ?_))) <;> first | rfl | omega | (congr 3; omega) | (congr 2; omega))
              · rintro ⟨j, hj⟩
                simp only
                generalize hbs : bytesF (accF s a 1 (1 - 1)) = B at *
                have hbj := bt_range s (a + j)
                simp (implicitDefEqProofs := false) (disch := omega) only [go_sem, simprocAttr, go_sem, ↓ix_enc, encI_len, encI_take, Nat.le_refl]
                with_reducible refine ifK_bsplit (fun hs1 => ?_) (fun hs1 => ?_)
                · have hlen := sameF_len hs1
                  simp (implicitDefEqProofs := false) (disch := omega) only [go_sem, simprocAttr, go_sem, ↓ix_enc, encI_len, encI_take, Nat.le_refl, hs1]
                  with_reducible refine ifK_split (fun hj1 => ?_) (fun hj1 => ?_)
                  · simp (implicitDefEqProofs := false) (disch := omega) only [go_sem, simprocAttr, go_sem, ↓ix_enc, encI_len, encI_take, Nat.le_refl, hs1]
                    have e3 : sameF B s a 1 (j + 1) = decide (B.getD j 0 = bt s (a + j)) := by simp only [sameF, hs1, Bool.true_and]
                    refine ⟨⟨j + 1, by omega⟩, by simp only; omega, ?_⟩
                    simp only [e3]
                    refine ⟨?_, ?_, ?_, ?_, ?_, ?_, ?_⟩ <;> simp only [go_sem, simprocAttr, decide_eq_true_eq, Int.natCast_add, Int.natCast_one] <;> try first | omega | ((repeat' (first | exact And.intro rfl (by omega) | (refine And.intro ?_ ?_))) <;> first | rfl | omega | (congr 3; omega) | (congr 2; omega))
                  · have hj2 : j = 1 := by omega
                    subst hj2
                    simp (implicitDefEqProofs := false) (disch := omega) only [go_sem, simprocAttr, go_sem, ↓ix_enc, encI_len, encI_take, Nat.le_refl, hs1, Tryd.results74]
                    rw [g3]
                    simp only [firstF]
                    rw [if_neg (by omega), hn', hbs, hs1]
                    rfl
                · have hs2 := sameF_false hs1 (1 - j)
                  rw [show j + (1 - j) = 1 by omega] at hs2
                  simp (implicitDefEqProofs := false) (disch := omega) only [go_sem, simprocAttr, go_sem, ↓ix_enc, encI_len, encI_take, Nat.le_refl, hs1]
                  refine ⟨⟨2, by omega, by omega, ?_⟩, by simp only; omega, ?_⟩
                  · rw [g3]
                    simp only [firstF]
                    rw [if_neg (by omega), hn', hbs, hs2]
                    rfl
                  · refine ⟨?_, ?_, ?_, ?_, ?_, ?_, ?_⟩ <;> simp only [go_sem, simprocAttr, decide_eq_true_eq, Int.cast_ofNat_Int] <;> try first | omega | ((repeat' (first | exact And.intro rfl (by omega) | (refine And.intro ?_ ?_))) <;> first | rfl | omega | (congr 3; omega) | (congr 2; omega))
    · simp only [Int.cast_ofNat_Int]
      simp (implicitDefEqProofs := false) (disch := omega) only [go_sem, simprocAttr, go_sem, ↓ix_enc, encI_len, encI_take, Nat.le_refl]
      with_reducible refine ifK_split (fun hge => ?_) (fun hlt => ?_)
      · simp (implicitDefEqProofs := false) (disch := omega) only [go_sem, simprocAttr, go_sem, ↓ix_enc, encI_len, encI_take, Nat.le_refl, Tryd.results74]
        rw [g3]
        simp only [firstF]
        rw [if_pos (by omega)]
      · have hb := bt_range s a
        simp (implicitDefEqProofs := false) (disch := omega) only [go_sem, simprocAttr, go_sem, ↓ix_enc, encI_len, encI_take, Nat.le_refl]
        refine p_loop (ι := { i : Nat // i < 2 }) (fun i => ⟨[(9, vI (i.1 + 1 : Nat)), (8, vI (accF s a 2 i.1)), (6, vI 2), (0, vS s), (1, vI a)], [], [], 9, 9⟩) (fun i => 2 - i.1) ⟨0, by omega⟩ ?_ ?_
        · simp only [accF, headF]
          refine ⟨?_, ?_, ?_, ?_, ?_, ?_, ?_⟩ <;> simp only [go_sem, simprocAttr, decide_eq_true_eq, Int.natCast_one, Nat.zero_add] <;> try first | omega | ((repeat' (first | exact And.intro rfl (by omega) | (refine And.intro ?_ ?_))) <;> first | rfl | omega | (congr 3; omega) | (congr 2; omega))
        · rintro ⟨i, hi⟩
          simp only
          have hacc := accF_range s a 2 i (by omega)
          simp (implicitDefEqProofs := false) (disch := omega) only [go_sem, simprocAttr, go_sem, ↓ix_enc, encI_len, encI_take, Nat.le_refl]
          with_reducible refine ifK_split (fun hlt2 => ?_) (fun hge2 => ?_)
          · have hacc2 := accF_range s a 2 (i + 1) (by omega)
            have hb2 := bt_range s (a + (i + 1 : Nat))
            have e2 : accF s a 2 (i + 1) = accF s a 2 i * 64 + bt s (a + (i + 1 : Nat)) - 128 := by simp only [accF]; rfl
            simp (implicitDefEqProofs := false) (disch := omega) only [go_sem, simprocAttr, go_sem, ↓ix_enc, encI_len, encI_take, Nat.le_refl]
            refine ⟨⟨i + 1, by omega⟩, by simp only; omega, ?_⟩
            simp only [e2]
            refine ⟨?_, ?_, ?_, ?_, ?_, ?_, ?_⟩ <;> simp only [go_sem, simprocAttr, decide_eq_true_eq, Int.natCast_add, Int.natCast_one] <;> try first | omega | ((repeat' (first | exact And.intro rfl (by omega) | (refine And.intro ?_ ?_))) <;> first | rfl | omega | (congr 3; omega) | (congr 2; omega))
          · have hi2 : i = 2 - 1 := by omega
            subst hi2
            simp only [Nat.reduceSub] at hacc ⊢
            simp (implicitDefEqProofs := false) (disch := omega) only [go_sem, simprocAttr, go_sem, ↓ix_enc, encI_len, encI_take, Nat.le_refl]
            with_reducible refine CallOk.of (ris_ok _) rfl ?_
            simp (implicitDefEqProofs := false) (disch := omega) only [go_sem, simprocAttr, go_sem, ↓ix_enc, encI_len, encI_take, Nat.le_refl]
            with_reducible refine ifK_bsplit (fun hn => ?_) (fun hn => ?_)
            · have hn' : isF (accF s a 2 (2 - 1)) = false := by simpa using hn
              simp (implicitDefEqProofs := false) (disch := omega) only [go_sem, simprocAttr, go_sem, ↓ix_enc, encI_len, encI_take, Nat.le_refl]
              refine ⟨⟨3, by omega, by omega, ?_⟩, by simp only; omega, ?_⟩
              · rw [g3]
                simp only [firstF]
                rw [if_neg (by omega), hn', Bool.false_and]
                rfl
              · refine ⟨?_, ?_, ?_, ?_, ?_, ?_, ?_⟩ <;> simp only [go_sem, simprocAttr, decide_eq_true_eq, Int.cast_ofNat_Int] <;> try first | omega | ((repeat' (first | exact And.intro rfl (by omega) | (refine And.intro ?_ ?_))) <;> first | rfl | omega | (congr 3; omega) | (congr 2; omega))
            · have hn' : isF (accF s a 2 (2 - 1)) = true := by simpa using hn
              have hp : 0 ≤ accF s a 2 (2 - 1) ∧ accF s a 2 (2 - 1) ≤ 1114111 := by
                unfold isF at hn'
                simp only [decide_eq_true_eq] at hn'
                omega
              simp only [Nat.reduceSub] at hp
              simp (implicitDefEqProofs := false) (disch := omega) only [go_sem, simprocAttr, go_sem, ↓ix_enc, encI_len, encI_take, Nat.le_refl]
              with_reducible refine CallOk.of (bytes_ok _ hp.1 hp.2) rfl ?_
              simp (implicitDefEqProofs := false) (disch := omega) only [go_sem, simprocAttr, go_sem, ↓ix_enc, encI_len, encI_take, Nat.le_refl]
              refine p_loop (ι := { j : Nat // j ≤ 2 }) (fun j => ⟨[(12, vI j.1), (11, vB (sameF (bytesF (accF s a 2 (2 - 1))) s a 2 j.1)), (10, .sl (encI (bytesF (accF s a 2 (2 - 1))))), (8, vI (accF s a 2 (2 - 1))), (6, vI 2), (0, vS s), (1, vI a)], [], [], 9, 9⟩) (fun j => 2 - j.1) ⟨0, by omega⟩ ?_ ?_
              · simp only [sameF, Int.cast_ofNat_Int, Int.natCast_one]
                refine ⟨?_, ?_, ?_, ?_, ?_, ?_, ?_⟩ <;> simp only [go_sem, simprocAttr, decide_eq_true_eq, Int.natCast_zero] <;> try first | omega | ((repeat' (first | exact And.intro rfl (by omega) | (refine And.intro ?_ ?_))) <;> first | rfl | omega | (congr 3; omega) | (congr 2; omega))
              · rintro ⟨j, hj⟩
                simp only
                generalize hbs : bytesF (accF s a 2 (2 - 1)) = B at *
                have hbj := bt_range s (a + j)
                simp (implicitDefEqProofs := false) (disch := omega) only [go_sem, simprocAttr, go_sem, ↓ix_enc, encI_len, encI_take, Nat.le_refl]
                with_reducible refine ifK_bsplit (fun hs1 => ?_) (fun hs1 => ?_)
                · have hlen := sameF_len hs1
                  simp (implicitDefEqProofs := false) (disch := omega) only [go_sem, simprocAttr, go_sem, ↓ix_enc, encI_len, encI_take, Nat.le_refl, hs1]
                  with_reducible refine ifK_split (fun hj1 => ?_) (fun hj1 => ?_)
                  · simp (implicitDefEqProofs := false) (disch := omega) only [go_sem, simprocAttr, go_sem, ↓ix_enc, encI_len, encI_take, Nat.le_refl, hs1]
                    have e3 : sameF B s a 2 (j + 1) = decide (B.getD j 0 = bt s (a + j)) := by simp only [sameF, hs1, Bool.true_and]
                    refine ⟨⟨j + 1, by omega⟩, by simp only; omega, ?_⟩
                    simp only [e3]
                    refine ⟨?_, ?_, ?_, ?_, ?_, ?_, ?_⟩ <;> simp only [go_sem, simprocAttr, decide_eq_true_eq, Int.natCast_add, Int.natCast_one] <;> try first | omega | ((repeat' (first | exact And.intro rfl (by omega) | (refine And.intro ?_ ?_))) <;> first | rfl | omega | (congr 3; omega) | (congr 2; omega))
                  · have hj2 : j = 2 := by omega
                    subst hj2
                    simp (implicitDefEqProofs := false) (disch := omega) only [go_sem, simprocAttr, go_sem, ↓ix_enc, encI_len, encI_take, Nat.le_refl, hs1, Tryd.results74]
                    rw [g3]
                    simp only [firstF]
                    rw [if_neg (by omega), hn', hbs, hs1]
                    rfl
                · have hs2 := sameF_false hs1 (2 - j)
                  rw [show j + (2 - j) = 2 by omega] at hs2
                  simp (implicitDefEqProofs := false) (disch := omega) only [go_sem, simprocAttr, go_sem, ↓ix_enc, encI_len, encI_take, Nat.le_refl, hs1]
                  refine ⟨⟨3, by omega, by omega, ?_⟩, by simp only; omega, ?_⟩
                  · rw [g3]
                    simp only [firstF]
                    rw [if_neg (by omega), hn', hbs, hs2]
                    rfl
                  · refine ⟨?_, ?_, ?_, ?_, ?_, ?_, ?_⟩ <;> simp only [go_sem, simprocAttr, decide_eq_true_eq, Int.cast_ofNat_Int] <;> try first | omega | ((repeat' (first | exact And.intro rfl (by omega) | (refine And.intro ?_ ?_))) <;> first | rfl | omega | (congr 3; omega) | (congr 2; omega))
    · simp only [Int.cast_ofNat_Int]
      simp (implicitDefEqProofs := false) (disch := omega) only [go_sem, simprocAttr, go_sem, ↓ix_enc, encI_len, encI_take, Nat.le_refl]
      with_reducible refine ifK_split (fun hge => ?_) (fun hlt => ?_)
      · simp (implicitDefEqProofs := false) (disch := omega) only [go_sem, simprocAttr, go_sem, ↓ix_enc, encI_len, encI_take, Nat.le_refl, Tryd.results74]
        rw [g3]
        simp only [firstF]
        rw [if_pos (by omega)]
      · have hb := bt_range s a
        simp (implicitDefEqProofs := false) (disch := omega) only [go_sem, simprocAttr, go_sem, ↓ix_enc, encI_len, encI_take, Nat.le_refl]
        refine p_loop (ι := { i : Nat // i < 3 }) (fun i => ⟨[(9, vI (i.1 + 1 : Nat)), (8, vI (accF s a 3 i.1)), (6, vI 3), (0, vS s), (1, vI a)], [], [], 9, 9⟩) (fun i => 3 - i.1) ⟨0, by omega⟩ ?_ ?_
        · simp only [accF, headF]
          refine ⟨?_, ?_, ?_, ?_, ?_, ?_, ?_⟩ <;> simp only [go_sem, simprocAttr, decide_eq_true_eq, Int.natCast_one, Nat.zero_add] <;> try first | omega | ((repeat' (first | exact And.intro rfl (by omega) | (refine And.intro ?_ ?_))) <;> first | rfl | omega | (congr 3; omega) | (congr 2; omega))
        · rintro ⟨i, hi⟩
          simp only
          have hacc := accF_range s a 3 i (by omega)
          simp (implicitDefEqProofs := false) (disch := omega) only [go_sem, simprocAttr, go_sem, ↓ix_enc, encI_len, encI_take, Nat.le_refl]
          with_reducible refine ifK_split (fun hlt2 => ?_) (fun hge2 => ?_)
          · have hacc2 := accF_range s a 3 (i + 1) (by omega)
            have hb2 := bt_range s (a + (i + 1 : Nat))
            have e2 : accF s a 3 (i + 1) = accF s a 3 i * 64 + bt s (a + (i + 1 : Nat)) - 128 := by simp only [accF]; rfl
            simp (implicitDefEqProofs := false) (disch := omega) only [go_sem, simprocAttr, go_sem, ↓ix_enc, encI_len, encI_take, Nat.le_refl]
            refine ⟨⟨i + 1, by omega⟩, by simp only; omega, ?_⟩
            simp only [e2]
            refine ⟨?_, ?_, ?_, ?_, ?_, ?_, ?_⟩ <;> simp only [go_sem, simprocAttr, decide_eq_true_eq, Int.natCast_add, Int.natCast_one] <;> try first | omega | ((repeat' (first | exact And.intro rfl (by omega) | (refine And.intro ?_ ?_))) <;> first | rfl | omega | (congr 3; omega) | (congr 2; omega))
          · have hi2 : i = 3 - 1 := by omega
            subst hi2
            simp only [Nat.reduceSub] at hacc ⊢
            simp (implicitDefEqProofs := false) (disch := omega) only [go_sem, simprocAttr, go_sem, ↓ix_enc, encI_len, encI_take, Nat.le_refl]
            with_reducible refine CallOk.of (ris_ok _) rfl ?_
            simp (implicitDefEqProofs := false) (disch := omega) only [go_sem, simprocAttr, go_sem, ↓ix_enc, encI_len, encI_take, Nat.le_refl]
            with_reducible refine ifK_bsplit (fun hn => ?_) (fun hn => ?_)
            · have hn' : isF (accF s a 3 (3 - 1)) = false := by simpa using hn
              simp (implicitDefEqProofs := false) (disch := omega) only [go_sem, simprocAttr, go_sem, ↓ix_enc, encI_len, encI_take, Nat.le_refl]
              refine ⟨⟨4, by omega, by omega, ?_⟩, by simp only; omega, ?_⟩
              · rw [g3]
                simp only [firstF]
                rw [if_neg (by omega), hn', Bool.false_and]
                rfl
              · refine ⟨?_, ?_, ?_, ?_, ?_, ?_, ?_⟩ <;> simp only [go_sem, simprocAttr, decide_eq_true_eq, Int.cast_ofNat_Int] <;> try first | omega | ((repeat' (first | exact And.intro rfl (by omega) | (refine And.intro ?_ ?_))) <;> first | rfl | omega | (congr 3; omega) | (congr 2; omega))
            · have hn' : isF (accF s a 3 (3 - 1)) = true := by simpa using hn
              have hp : 0 ≤ accF s a 3 (3 - 1) ∧ accF s a 3 (3 - 1) ≤ 1114111 := by
                unfold isF at hn'
                simp only [decide_eq_true_eq] at hn'
                omega
              simp only [Nat.reduceSub] at hp
              simp (implicitDefEqProofs := false) (disch := omega) only [go_sem, simprocAttr, go_sem, ↓ix_enc, encI_len, encI_take, Nat.le_refl]
              with_reducible refine CallOk.of (bytes_ok _ hp.1 hp.2) rfl ?_
              simp (implicitDefEqProofs := false) (disch := omega) only [go_sem, simprocAttr, go_sem, ↓ix_enc, encI_len, encI_take, Nat.le_refl]
              refine p_loop (ι := { j : Nat // j ≤ 3 }) (fun j => ⟨[(12, vI j.1), (11, vB (sameF (bytesF (accF s a 3 (3 - 1))) s a 3 j.1)), (10, .sl (encI (bytesF (accF s a 3 (3 - 1))))), (8, vI (accF s a 3 (3 - 1))), (6, vI 3), (0, vS s), (1, vI a)], [], [], 9, 9⟩) (fun j => 3 - j.1) ⟨0, by omega⟩ ?_ ?_
              · simp only [sameF, Int.cast_ofNat_Int, Int.natCast_one]
                refine ⟨?_, ?_, ?_, ?_, ?_, ?_, ?_⟩ <;> simp only [go_sem, simprocAttr, decide_eq_true_eq, Int.natCast_zero] <;> try first | omega | ((repeat' (first | exact And.intro rfl (by omega) | (refine And.intro ?_ ?_))) <;> first | rfl | omega | (congr 3; omega) | (congr 2; omega))
              · rintro ⟨j, hj⟩
                simp only
                generalize hbs : bytesF (accF s a 3 (3 - 1)) = B at *
                have hbj := bt_range s (a + j)
                simp (implicitDefEqProofs := false) (disch := omega) only [go_sem, simprocAttr, go_sem, ↓ix_enc, encI_len, encI_take, Nat.le_refl]
                with_reducible refine ifK_bsplit (fun hs1 => ?_) (fun hs1 => ?_)
                · have hlen := sameF_len hs1
                  simp (implicitDefEqProofs := false) (disch := omega) only [go_sem, simprocAttr, go_sem, ↓ix_enc, encI_len, encI_take, Nat.le_refl, hs1]
                  with_reducible refine ifK_split (fun hj1 => ?_) (fun hj1 => ?_)
                  · simp (implicitDefEqProofs := false) (disch := omega) only [go_sem, simprocAttr, go_sem, ↓ix_enc, encI_len, encI_take, Nat.le_refl, hs1]
                    have e3 : sameF B s a 3 (j + 1) = decide (B.getD j 0 = bt s (a + j)) := by simp only [sameF, hs1, Bool.true_and]
                    refine ⟨⟨j + 1, by omega⟩, by simp only; omega, ?_⟩
                    simp only [e3]
                    refine ⟨?_, ?_, ?_, ?_, ?_, ?_, ?_⟩ <;> simp only [go_sem, simprocAttr, decide_eq_true_eq, Int.natCast_add, Int.natCast_one] <;> try first | omega | ((repeat' (first | exact And.intro rfl (by omega) | (refine And.intro ?_ ?_))) <;> first | rfl | omega | (congr 3; omega) | (congr 2; omega))
                  · have hj2 : j = 3 := by omega
                    subst hj2
                    simp (implicitDefEqProofs := false) (disch := omega) only [go_sem, simprocAttr, go_sem, ↓ix_enc, encI_len, encI_take, Nat.le_refl, hs1, Tryd.results74]
                    rw [g3]
                    simp only [firstF]
                    rw [if_neg (by omega), hn', hbs, hs1]
                    rfl
                · have hs2 := sameF_false hs1 (3 - j)
                  rw [show j + (3 - j) = 3 by omega] at hs2
                  simp (implicitDefEqProofs := false) (disch := omega) only [go_sem, simprocAttr, go_sem, ↓ix_enc, encI_len, encI_take, Nat.le_refl, hs1]
                  refine ⟨⟨4, by omega, by omega, ?_⟩, by simp only; omega, ?_⟩
                  · rw [g3]
                    simp only [firstF]
                    rw [if_neg (by omega), hn', hbs, hs2]
                    rfl
                  · refine ⟨?_, ?_, ?_, ?_, ?_, ?_, ?_⟩ <;> simp only [go_sem, simprocAttr, decide_eq_true_eq, Int.cast_ofNat_Int] <;> try first | omega | ((repeat' (first | exact And.intro rfl (by omega) | (refine And.intro ?_ ?_))) <;> first | rfl | omega | (congr 3; omega) | (congr 2; omega))
    · simp only [Int.cast_ofNat_Int]
      simp (implicitDefEqProofs := false) (disch := omega) only [go_sem, simprocAttr, go_sem, ↓ix_enc, encI_len, encI_take, Nat.le_refl]
      with_reducible refine ifK_split (fun hge => ?_) (fun hlt => ?_)
      · simp (implicitDefEqProofs := false) (disch := omega) only [go_sem, simprocAttr, go_sem, ↓ix_enc, encI_len, encI_take, Nat.le_refl, Tryd.results74]
        rw [g3]
        simp only [firstF]
        rw [if_pos (by omega)]
      · have hb := bt_range s a
        simp (implicitDefEqProofs := false) (disch := omega) only [go_sem, simprocAttr, go_sem, ↓ix_enc, encI_len, encI_take, Nat.le_refl]
        refine p_loop (ι := { i : Nat // i < 4 }) (fun i => ⟨[(9, vI (i.1 + 1 : Nat)), (8, vI (accF s a 4 i.1)), (6, vI 4), (0, vS s), (1, vI a)], [], [], 9, 9⟩) (fun i => 4 - i.1) ⟨0, by omega⟩ ?_ ?_
        · simp only [accF, headF]
          refine ⟨?_, ?_, ?_, ?_, ?_, ?_, ?_⟩ <;> simp only [go_sem, simprocAttr, decide_eq_true_eq, Int.natCast_one, Nat.zero_add] <;> try first | omega | ((repeat' (first | exact And.intro rfl (by omega) | (refine And.intro ?_ ?_))) <;> first | rfl | omega | (congr 3; omega) | (congr 2; omega))
        · rintro ⟨i, hi⟩
          simp only
          have hacc := accF_range s a 4 i (by omega)
          simp (implicitDefEqProofs := false) (disch := omega) only [go_sem, simprocAttr, go_sem, ↓ix_enc, encI_len, encI_take, Nat.le_refl]
          with_reducible refine ifK_split (fun hlt2 => ?_) (fun hge2 => ?_)
          · have hacc2 := accF_range s a 4 (i + 1) (by omega)
            have hb2 := bt_range s (a + (i + 1 : Nat))
            have e2 : accF s a 4 (i + 1) = accF s a 4 i * 64 + bt s (a + (i + 1 : Nat)) - 128 := by simp only [accF]; rfl
            simp (implicitDefEqProofs := false) (disch := omega) only [go_sem, simprocAttr, go_sem, ↓ix_enc, encI_len, encI_take, Nat.le_refl]
            refine ⟨⟨i + 1, by omega⟩, by simp only; omega, ?_⟩
            simp only [e2]
            refine ⟨?_, ?_, ?_, ?_, ?_, ?_, ?_⟩ <;> simp only [go_sem, simprocAttr, decide_eq_true_eq, Int.natCast_add, Int.natCast_one] <;> try first | omega | ((repeat' (first | exact And.intro rfl (by omega) | (refine And.intro ?_ ?_))) <;> first | rfl | omega | (congr 3; omega) | (congr 2; omega))
          · have hi2 : i = 4 - 1 := by omega
            subst hi2
            simp only [Nat.reduceSub] at hacc ⊢
            simp (implicitDefEqProofs := false) (disch := omega) only [go_sem, simprocAttr, go_sem, ↓ix_enc, encI_len, encI_take, Nat.le_refl]
            with_reducible refine CallOk.of (ris_ok _) rfl ?_
            simp (implicitDefEqProofs := false) (disch := omega) only [go_sem, simprocAttr, go_sem, ↓ix_enc, encI_len, encI_take, Nat.le_refl]
            with_reducible refine ifK_bsplit (fun hn => ?_) (fun hn => ?_)
            · have hn' : isF (accF s a 4 (4 - 1)) = false := by simpa using hn
              simp (implicitDefEqProofs := false) (disch := omega) only [go_sem, simprocAttr, go_sem, ↓ix_enc, encI_len, encI_take, Nat.le_refl]
              refine ⟨⟨5, by omega, by omega, ?_⟩, by simp only; omega, ?_⟩
              · rw [g3]
                simp only [firstF]
                rw [if_neg (by omega), hn', Bool.false_and]
                rfl
              · refine ⟨?_, ?_, ?_, ?_, ?_, ?_, ?_⟩ <;> simp only [go_sem, simprocAttr, decide_eq_true_eq, Int.cast_ofNat_Int] <;> try first | omega | ((repeat' (first | exact And.intro rfl (by omega) | (refine And.intro ?_ ?_))) <;> first | rfl | omega | (congr 3; omega) | (congr 2; omega))
            · have hn' : isF (accF s a 4 (4 - 1)) = true := by simpa using hn
              have hp : 0 ≤ accF s a 4 (4 - 1) ∧ accF s a 4 (4 - 1) ≤ 1114111 := by
                unfold isF at hn'
                simp only [decide_eq_true_eq] at hn'
                omega
              simp only [Nat.reduceSub] at hp
              simp (implicitDefEqProofs := false) (disch := omega) only [go_sem, simprocAttr, go_sem, ↓ix_enc, encI_len, encI_take, Nat.le_refl]
              with_reducible refine CallOk.of (bytes_ok _ hp.1 hp.2) rfl ?_
              simp (implicitDefEqProofs := false) (disch := omega) only [go_sem, simprocAttr, go_sem, ↓ix_enc, encI_len, encI_take, Nat.le_refl]
              refine p_loop (ι := { j : Nat // j ≤ 4 }) (fun j => ⟨[(12, vI j.1), (11, vB (sameF (bytesF (accF s a 4 (4 - 1))) s a 4 j.1)), (10, .sl (encI (bytesF (accF s a 4 (4 - 1))))), (8, vI (accF s a 4 (4 - 1))), (6, vI 4), (0, vS s), (1, vI a)], [], [], 9, 9⟩) (fun j => 4 - j.1) ⟨0, by omega⟩ ?_ ?_
              · simp only [sameF, Int.cast_ofNat_Int, Int.natCast_one]
                refine ⟨?_, ?_, ?_, ?_, ?_, ?_, ?_⟩ <;> simp only [go_sem, simprocAttr, decide_eq_true_eq, Int.natCast_zero] <;> try first | omega | ((repeat' (first | exact And.intro rfl (by omega) | (refine And.intro ?_ ?_))) <;> first | rfl | omega | (congr 3; omega) | (congr 2; omega))
              · rintro ⟨j, hj⟩
                simp only
                generalize hbs : bytesF (accF s a 4 (4 - 1)) = B at *
                have hbj := bt_range s (a + j)
                simp (implicitDefEqProofs := false) (disch := omega) only [go_sem, simprocAttr, go_sem, ↓ix_enc, encI_len, encI_take, Nat.le_refl]
                with_reducible refine ifK_bsplit (fun hs1 => ?_) (fun hs1 => ?_)
                · have hlen := sameF_len hs1
                  simp (implicitDefEqProofs := false) (disch := omega) only [go_sem, simprocAttr, go_sem, ↓ix_enc, encI_len, encI_take, Nat.le_refl, hs1]
                  with_reducible refine ifK_split (fun hj1 => ?_) (fun hj1 => ?_)
                  · simp (implicitDefEqProofs := false) (disch := omega) only [go_sem, simprocAttr, go_sem, ↓ix_enc, encI_len, encI_take, Nat.le_refl, hs1]
                    have e3 : sameF B s a 4 (j + 1) = decide (B.getD j 0 = bt s (a + j)) := by simp only [sameF, hs1, Bool.true_and]
                    refine ⟨⟨j + 1, by omega⟩, by simp only; omega, ?_⟩
                    simp only [e3]
                    refine ⟨?_, ?_, ?_, ?_, ?_, ?_, ?_⟩ <;> simp only [go_sem, simprocAttr, decide_eq_true_eq, Int.natCast_add, Int.natCast_one] <;> try first | omega | ((repeat' (first | exact And.intro rfl (by omega) | (refine And.intro ?_ ?_))) <;> first | rfl | omega | (congr 3; omega) | (congr 2; omega))
                  · have hj2 : j = 4 := by omega
                    subst hj2
                    simp (implicitDefEqProofs := false) (disch := omega) only [go_sem, simprocAttr, go_sem, ↓ix_enc, encI_len, encI_take, Nat.le_refl, hs1, Tryd.results74]
                    rw [g3]
                    simp only [firstF]
                    rw [if_neg (by omega), hn', hbs, hs1]
                    rfl
                · have hs2 := sameF_false hs1 (4 - j)
                  rw [show j + (4 - j) = 4 by omega] at hs2
                  simp (implicitDefEqProofs := false) (disch := omega) only [go_sem, simprocAttr, go_sem, ↓ix_enc, encI_len, encI_take, Nat.le_refl, hs1]
                  refine ⟨⟨5, by omega, by omega, ?_⟩, by simp only; omega, ?_⟩
                  · rw [g3]
                    simp only [firstF]
                    rw [if_neg (by omega), hn', hbs, hs2]
                    rfl
                  · refine ⟨?_, ?_, ?_, ?_, ?_, ?_, ?_⟩ <;> simp only [go_sem, simprocAttr, decide_eq_true_eq, Int.cast_ofNat_Int] <;> try first | omega | ((repeat' (first | exact And.intro rfl (by omega) | (refine And.intro ?_ ?_))) <;> first | rfl | omega | (congr 3; omega) | (congr 2; omega))
    · simp only [Int.cast_ofNat_Int]
      simp (implicitDefEqProofs := false) (disch := omega) only [go_sem, simprocAttr, go_sem, ↓ix_enc, encI_len, encI_take, Nat.le_refl, Tryd.results74]
      rw [g3]
      rfl

end Go.Proofs.YtahgjolokkfhjaaDoor

end
section
/-
  Contracts and plain laws on the way to the statement; each says its own conditions.
-/

open Go Go.Proofs Go.Pw
namespace Go.Proofs.YtahgjolokkfhjaaDoor
set_option maxRecDepth 4000
set_option linter.unusedVariables false
set_option linter.unusedSimpArgs false
def byteN (s : ByteArray) (i : Nat) : Nat := (s.data.toList.getD i 0).toNat
theorem byteN_lt (s : ByteArray) (i : Nat) : byteN s i < 256 := UInt8.toNat_lt _
theorem bt_byteN (s : ByteArray) (i : Nat) : bt s i = byteN s i := rfl
theorem get!_byteN (s : ByteArray) (i : Nat) : (s.get! i).toNat = byteN s i := by
  unfold byteN
  cases s with
  | mk a =>
    show (a[i]!).toNat = _
    rw [getElem!_def, List.getD_eq_getElem?_getD]
    simp only [Array.getElem?_toList]
    cases a[i]? <;> rfl
def goodN (r : Nat × Nat) : Int × Int := if r = (65533, 1) then (-1, 0) else (r.1, r.2)
theorem try1 (s : ByteArray) (i : Nat) : (isF (accF s i 1 0) && sameF (bytesF (accF s i 1 0)) s i 1 1) = decide (byteN s i < 128) := by
  have hb := byteN_lt s i
  have e : accF s i 1 0 = byteN s i := by simp [accF, headF, bt_byteN]
  rw [e]
  simp only [sameF, isF, Int.natCast_zero, Int.add_zero, bt_byteN]
  unfold bytesF
  rw [Bool.eq_iff_iff]
  simp only [Bool.and_eq_true, decide_eq_true_eq]
  split
  · simp; omega
  · rw [if_pos (by omega)]
    simp
    omega
theorem try2 (s : ByteArray) (i : Nat) : (isF (accF s i 2 1) && sameF (bytesF (accF s i 2 1)) s i 2 2) = decide (194 ≤ byteN s i ∧ byteN s i < 224 ∧ 128 ≤ byteN s (i + 1) ∧ byteN s (i + 1) < 192) := by
  have hb := byteN_lt s i
  have hb1 := byteN_lt s (i + 1)
  have e : accF s i 2 1 = ((byteN s i : Int) - 192) * 64 + byteN s (i + 1) - 128 := by
    have : ((i : Int) + (((0 : Nat) : Int) + 1)) = ((i + 1 : Nat) : Int) := by omega
    simp only [accF, headF, bt_byteN, this]
  rw [e]
  have e1 : ((i : Int) + ((1 : Nat) : Int)) = ((i + 1 : Nat) : Int) := by omega
  simp only [sameF, isF, Int.natCast_zero, Int.add_zero, bt_byteN, e1]
  generalize byteN s i = x at *
  generalize byteN s (i + 1) = y at *
  unfold bytesF
  rw [Bool.eq_iff_iff]
  simp only [Bool.and_eq_true, decide_eq_true_eq]
  repeat' split
  all_goals simp
  all_goals omega
theorem try3 (s : ByteArray) (i : Nat) : (isF (accF s i 3 2) && sameF (bytesF (accF s i 3 2)) s i 3 3) = decide (224 ≤ byteN s i ∧ byteN s i < 240 ∧ 128 ≤ byteN s (i + 1) ∧ byteN s (i + 1) < 192 ∧ 128 ≤ byteN s (i + 2) ∧ byteN s (i + 2) < 192 ∧
    2048 ≤ (byteN s i - 224) * 4096 + (byteN s (i + 1) - 128) * 64 + (byteN s (i + 2) - 128) ∧ ((byteN s i - 224) * 4096 + (byteN s (i + 1) - 128) * 64 + (byteN s (i + 2) - 128) < 55296 ∨ 57344 ≤ (byteN s i - 224) * 4096 + (byteN s (i + 1) - 128) * 64 + (byteN s (i + 2) - 128))) := by
  have hb := byteN_lt s i
  have hb1 := byteN_lt s (i + 1)
  have hb2 := byteN_lt s (i + 2)
  have e : accF s i 3 2 = (((byteN s i : Int) - 224) * 64 + byteN s (i + 1) - 128) * 64 + byteN s (i + 2) - 128 := by
    have h1 : ((i : Int) + (((0 : Nat) : Int) + 1)) = ((i + 1 : Nat) : Int) := by omega
    have h2 : ((i : Int) + (((1 : Nat) : Int) + 1)) = ((i + 2 : Nat) : Int) := by omega
    simp only [accF, headF, bt_byteN, h1, h2]
  rw [e]
  have e1 : ((i : Int) + ((1 : Nat) : Int)) = ((i + 1 : Nat) : Int) := by omega
  have e2 : ((i : Int) + ((2 : Nat) : Int)) = ((i + 2 : Nat) : Int) := by omega
  simp only [sameF, isF, Int.natCast_zero, Int.add_zero, bt_byteN, e1, e2]
  generalize byteN s i = x at *
  generalize byteN s (i + 1) = y at *
  generalize byteN s (i + 2) = z at *
  unfold bytesF
  rw [Bool.eq_iff_iff]
  simp only [Bool.and_eq_true, decide_eq_true_eq]
  repeat' split
  all_goals simp
  all_goals omega
theorem try4 (s : ByteArray) (i : Nat) : (isF (accF s i 4 3) && sameF (bytesF (accF s i 4 3)) s i 4 4) = decide (240 ≤ byteN s i ∧ byteN s i < 248 ∧ 128 ≤ byteN s (i + 1) ∧ byteN s (i + 1) < 192 ∧ 128 ≤ byteN s (i + 2) ∧ byteN s (i + 2) < 192 ∧ 128 ≤ byteN s (i + 3) ∧ byteN s (i + 3) < 192 ∧
    65536 ≤ (byteN s i - 240) * 262144 + (byteN s (i + 1) - 128) * 4096 + (byteN s (i + 2) - 128) * 64 + (byteN s (i + 3) - 128) ∧ (byteN s i - 240) * 262144 + (byteN s (i + 1) - 128) * 4096 + (byteN s (i + 2) - 128) * 64 + (byteN s (i + 3) - 128) ≤ 1114111) := by
  have hb := byteN_lt s i
  have hb1 := byteN_lt s (i + 1)
  have hb2 := byteN_lt s (i + 2)
  have hb3 := byteN_lt s (i + 3)
  have e : accF s i 4 3 = ((((byteN s i : Int) - 240) * 64 + byteN s (i + 1) - 128) * 64 + byteN s (i + 2) - 128) * 64 + byteN s (i + 3) - 128 := by
    have h1 : ((i : Int) + (((0 : Nat) : Int) + 1)) = ((i + 1 : Nat) : Int) := by omega
    have h2 : ((i : Int) + (((1 : Nat) : Int) + 1)) = ((i + 2 : Nat) : Int) := by omega
    have h3 : ((i : Int) + (((2 : Nat) : Int) + 1)) = ((i + 3 : Nat) : Int) := by omega
    simp only [accF, headF, bt_byteN, h1, h2, h3]
  rw [e]
  have e1 : ((i : Int) + ((1 : Nat) : Int)) = ((i + 1 : Nat) : Int) := by omega
  have e2 : ((i : Int) + ((2 : Nat) : Int)) = ((i + 2 : Nat) : Int) := by omega
  have e3 : ((i : Int) + ((3 : Nat) : Int)) = ((i + 3 : Nat) : Int) := by omega
  simp only [sameF, isF, Int.natCast_zero, Int.add_zero, bt_byteN, e1, e2, e3]
  generalize byteN s i = x at *
  generalize byteN s (i + 1) = y at *
  generalize byteN s (i + 2) = z at *
  generalize byteN s (i + 3) = t at *
  unfold bytesF
  rw [Bool.eq_iff_iff]
  simp only [Bool.and_eq_true, decide_eq_true_eq]
  repeat' split
  all_goals simp
  all_goals omega
theorem acc1 (s : ByteArray) (i : Nat) : accF s i 1 0 = byteN s i := by simp [accF, headF, bt_byteN]
theorem acc2 (s : ByteArray) (i : Nat) : accF s i 2 1 = ((byteN s i : Int) - 192) * 64 + byteN s (i + 1) - 128 := by
  have : ((i : Int) + (((0 : Nat) : Int) + 1)) = ((i + 1 : Nat) : Int) := by omega
  simp only [accF, headF, bt_byteN, this]
theorem acc3 (s : ByteArray) (i : Nat) : accF s i 3 2 = (((byteN s i : Int) - 224) * 64 + byteN s (i + 1) - 128) * 64 + byteN s (i + 2) - 128 := by
  have h1 : ((i : Int) + (((0 : Nat) : Int) + 1)) = ((i + 1 : Nat) : Int) := by omega
  have h2 : ((i : Int) + (((1 : Nat) : Int) + 1)) = ((i + 2 : Nat) : Int) := by omega
  simp only [accF, headF, bt_byteN, h1, h2]
theorem acc4 (s : ByteArray) (i : Nat) : accF s i 4 3 = ((((byteN s i : Int) - 240) * 64 + byteN s (i + 1) - 128) * 64 + byteN s (i + 2) - 128) * 64 + byteN s (i + 3) - 128 := by
  have h1 : ((i : Int) + (((0 : Nat) : Int) + 1)) = ((i + 1 : Nat) : Int) := by omega
  have h2 : ((i : Int) + (((1 : Nat) : Int) + 1)) = ((i + 2 : Nat) : Int) := by omega
  have h3 : ((i : Int) + (((2 : Nat) : Int) + 1)) = ((i + 3 : Nat) : Int) := by omega
  simp only [accF, headF, bt_byteN, h1, h2, h3]
set_option maxHeartbeats 4000000 in
/-- What the reference finds first is what the model's decode finds. -/
theorem first_decode (s : ByteArray) (i : Nat) (h : i < s.size) : firstF s i 4 1 = goodN (Utf8.decode s i) := by
  rw [Lib.decode_at]
  simp only [get!_byteN]
  have hb := byteN_lt s i
  have hb1 := byteN_lt s (i + 1)
  have hb2 := byteN_lt s (i + 2)
  have hb3 := byteN_lt s (i + 3)
  simp only [firstF, Nat.reduceSub, Nat.reduceAdd, try1, try2, try3, try4]
  simp only [acc1, acc2, acc3, acc4, decide_eq_true_eq]
  unfold Lib.decodeN
  generalize byteN s i = x at *
  generalize byteN s (i + 1) = y at *
  generalize byteN s (i + 2) = z at *
  generalize byteN s (i + 3) = t at *
  rw [if_neg (by omega)]
  unfold goodN
  repeat' split
  all_goals first
    | rfl
    | (exfalso; omega)
    | exact absurd rfl (by assumption)
    | exact Prod.ext (by simp only; omega) rfl
    | (simp only [Prod.mk.injEq] at *; omega)

end Go.Proofs.YtahgjolokkfhjaaDoor

end
section
/-
  Contracts and plain laws on the way to the statement; each says its own conditions.
-/
open Go Go.Proofs Go.Pw
namespace Go.Proofs.YtahgjolokkfhjaaDoor
set_option maxRecDepth 4000
set_option linter.unusedVariables false
set_option linter.unusedSimpArgs false
abbrev vR (n : Int) : PV := .val (.int .i32 n)
def runeLenF (n : Int) : Int := if n < 0 then -1 else if n ≤ 127 then 1 else if n ≤ 2047 then 2 else if 55296 ≤ n ∧ n ≤ 57343 then -1 else if n ≤ 65535 then 3 else if n ≤ 1114111 then 4 else -1
theorem runeLen_ok (n : Int) : Ok Tryd.prog 101 [vR n] (vI (runeLenF n)) := by
  refine Ok.of_pwp (by kernel_rfl) Tryd.func101 rfl (by kernel_rfl) (by kernel_rfl) ?_
  unfold runeLenF
  simp (implicitDefEqProofs := false) (disch := omega) only [go_sem, simprocAttr, go_sem, ↓ix_enc, encI_len, encI_take, Nat.le_refl, Tryd.results101]
  repeat' ((first
    | with_reducible refine ifK_split (fun _ => ?_) (fun _ => ?_)) <;> try simp (implicitDefEqProofs := false) (disch := omega) only [go_sem, simprocAttr, go_sem, ↓ix_enc, encI_len, encI_take, Nat.le_refl, Tryd.results101])
  all_goals (congr 2; repeat' split)
  all_goals first | rfl | (exfalso; omega)
def hasPF (s p : ByteArray) : Bool := decide (p.size ≤ s.size) && decide (s.extract 0 p.size = p)
theorem hasP2_ok (s p : ByteArray) : Ok Tryd.prog 117 [vS s, vS p] (vB (hasPF s p)) := by
  refine Ok.of_pwp (by kernel_rfl) Tryd.func117 rfl (by kernel_rfl) (by kernel_rfl) ?_
  simp (implicitDefEqProofs := false) (disch := omega) only [go_sem, simprocAttr, go_sem, ↓ix_enc, encI_len, encI_take, Nat.le_refl, Tryd.results117]
  with_reducible refine ifK_split (fun h => ?_) (fun h => ?_)
  · simp (implicitDefEqProofs := false) (disch := omega) only [go_sem, simprocAttr, go_sem, ↓ix_enc, encI_len, encI_take, Nat.le_refl, Tryd.results117]
    unfold hasPF
    rw [decide_eq_true (by omega : p.size ≤ s.size), Bool.true_and]
  · simp (implicitDefEqProofs := false) (disch := omega) only [go_sem, simprocAttr, go_sem, ↓ix_enc, encI_len, encI_take, Nat.le_refl, Tryd.results117]
    unfold hasPF
    rw [decide_eq_false (by omega : ¬ p.size ≤ s.size), Bool.false_and]
theorem hasP_ok (s p : ByteArray) : Ok Tryd.prog 102 [vS s, vS p] (vB (hasPF s p)) := by
  refine Ok.of_pwp (by kernel_rfl) Tryd.func102 rfl (by kernel_rfl) (by kernel_rfl) ?_
  simp (implicitDefEqProofs := false) (disch := omega) only [go_sem, simprocAttr, go_sem, ↓ix_enc, encI_len, encI_take, Nat.le_refl, Tryd.results102]
  with_reducible refine CallOk.of (hasP2_ok _ _) rfl ?_
  simp (implicitDefEqProofs := false) (disch := omega) only [go_sem, simprocAttr, go_sem, ↓ix_enc, encI_len, encI_take, Nat.le_refl, Tryd.results102]
def decF (s : ByteArray) : Int × Int := if s.size = 0 then (-1, 0) else if ((Utf8.decode s 0).1 : Int) = 65533 ∧ hasPF s ⟨#[239, 191, 189]⟩ = false then (-1, 0) else ((Utf8.decode s 0).1, runeLenF (Utf8.decode s 0).1)
set_option maxHeartbeats 1000000 in
theorem decode_ok0 (s : ByteArray) (hs : s.size ≤ 140737488351232) : Ok Tryd.prog 85 [vS s] (twoP (decF s).1 (decF s).2) := by
  refine Ok.of_pwp (by kernel_rfl) Tryd.func85 rfl (by kernel_rfl) (by kernel_rfl) ?_
  have hle := decode_le s 0
  generalize hr : decF s = r
  unfold decF at hr
  simp (implicitDefEqProofs := false) (disch := omega) only [go_sem, simprocAttr, go_sem, ↓ix_enc, encI_len, encI_take, Nat.le_refl]
  refine p_loop (ι := Unit) (fun _ => ⟨[(8, .ptr 3 0), (0, vS s)], [(3, .iter s 0)], [], 4, 4⟩) (fun _ => 0) () ?_ ?_
  · refine ⟨?_, ?_, ?_, ?_, ?_, ?_, ?_⟩ <;> simp only [go_sem, simprocAttr, decide_eq_true_eq, Nat.le_refl] <;> try first | omega | ((repeat' (first | exact And.intro rfl (by omega) | (refine And.intro ?_ ?_))) <;> first | rfl | omega | (congr 3; omega) | (congr 2; omega))
  · intro _
    simp (implicitDefEqProofs := false) (disch := omega) only [go_sem, simprocAttr, go_sem, ↓ix_enc, encI_len, encI_take, Nat.le_refl]
    with_reducible refine ifK_split (fun h => ?_) (fun h => ?_)
    · rw [if_neg (by omega)] at hr
      simp (implicitDefEqProofs := false) (disch := omega) only [go_sem, simprocAttr, go_sem, ↓ix_enc, encI_len, encI_take, Nat.le_refl]
      with_reducible refine CallOk.of (runeLen_ok _) rfl ?_
      simp (implicitDefEqProofs := false) (disch := omega) only [go_sem, simprocAttr, go_sem, ↓ix_enc, encI_len, encI_take, Nat.le_refl]
      with_reducible refine ifK_split (fun h2 => ?_) (fun h2 => ?_)
      · simp (implicitDefEqProofs := false) (disch := omega) only [go_sem, simprocAttr, go_sem, ↓ix_enc, encI_len, encI_take, Nat.le_refl]
        with_reducible refine CallOk.of (hasP_ok _ _) rfl ?_
        simp (implicitDefEqProofs := false) (disch := omega) only [go_sem, simprocAttr, go_sem, ↓ix_enc, encI_len, encI_take, Nat.le_refl]
        with_reducible refine ifK_bsplit (fun h3 => ?_) (fun h3 => ?_)
        · simp (implicitDefEqProofs := false) (disch := omega) only [go_sem, simprocAttr, go_sem, ↓ix_enc, encI_len, encI_take, Nat.le_refl, Tryd.results85]
          rw [if_pos ⟨by omega, by simpa using h3⟩] at hr
          rw [← hr]
        · simp (implicitDefEqProofs := false) (disch := omega) only [go_sem, simprocAttr, go_sem, ↓ix_enc, encI_len, encI_take, Nat.le_refl, Tryd.results85]
          rw [if_neg (by rintro ⟨_, h4⟩; rw [h4] at h3; cases h3)] at hr
          rw [← hr]
      · simp (implicitDefEqProofs := false) (disch := omega) only [go_sem, simprocAttr, go_sem, ↓ix_enc, encI_len, encI_take, Nat.le_refl, Tryd.results85]
        rw [if_neg (by rintro ⟨h4, _⟩; exact h2 h4)] at hr
        rw [← hr]
    · simp (implicitDefEqProofs := false) (disch := omega) only [go_sem, simprocAttr, go_sem, ↓ix_enc, encI_len, encI_take, Nat.le_refl, Tryd.results85]
      rw [if_pos (by omega)] at hr
      rw [← hr]

end Go.Proofs.YtahgjolokkfhjaaDoor

end
section
/-
  Contracts and plain laws on the way to the statement; each says its own conditions.
-/

open Go Go.Proofs Go.Pw
namespace Go.Proofs.YtahgjolokkfhjaaDoor
set_option maxRecDepth 4000
set_option linter.unusedVariables false
set_option linter.unusedSimpArgs false
theorem hasPF_eq (s : ByteArray) : hasPF s ⟨#[239, 191, 189]⟩ = decide (3 ≤ s.size ∧ byteN s 0 = 239 ∧ byteN s 1 = 191 ∧ byteN s 2 = 189) := by
  have e : ∀ (p : ByteArray), (s.extract 0 p.size = p) = ((s.data.toList.take p.size) = p.data.toList) := fun p => by
    rw [← str_eq]
    simp
  unfold hasPF byteN
  rw [Bool.eq_iff_iff]
  simp only [Bool.and_eq_true, decide_eq_true_eq]
  rw [e]
  rw [show (⟨#[239, 191, 189]⟩ : ByteArray).size = 3 from rfl, show (⟨#[239, 191, 189]⟩ : ByteArray).data.toList = [239, 191, 189] from rfl]
  have hsz : s.size = s.data.toList.length := (Array.length_toList).symm
  rw [hsz]
  generalize s.data.toList = l
  have k0 : ∀ x : UInt8, (x.toNat = 239) = (x = 239) := fun x => propext ⟨fun h => UInt8.toNat_inj.1 h, fun h => by rw [h]; rfl⟩
  have k1 : ∀ x : UInt8, (x.toNat = 191) = (x = 191) := fun x => propext ⟨fun h => UInt8.toNat_inj.1 h, fun h => by rw [h]; rfl⟩
  have k2 : ∀ x : UInt8, (x.toNat = 189) = (x = 189) := fun x => propext ⟨fun h => UInt8.toNat_inj.1 h, fun h => by rw [h]; rfl⟩
  match l with
  | [] => simp
  | [a] => simp
  | [a, b] => simp
  | a :: b :: c :: r => simp [k0, k1, k2]
set_option maxHeartbeats 4000000 in
theorem decN_shape (n x y z t : Nat) (hn : 0 < n) (hb : x < 256) (hb1 : y < 256) (hb2 : z < 256) (hb3 : t < 256) :
    (Lib.decodeN n x y z t = (65533, 1) ∧ ¬ (3 ≤ n ∧ x = 239 ∧ y = 191 ∧ z = 189)) ∨
    (Lib.decodeN n x y z t ≠ (65533, 1) ∧ runeLenF (Lib.decodeN n x y z t).1 = (Lib.decodeN n x y z t).2 ∧ ((Lib.decodeN n x y z t).1 = 65533 → (3 ≤ n ∧ x = 239 ∧ y = 191 ∧ z = 189))) := by
  have nope : ∀ a b : Nat, (a ≠ 65533 ∨ b ≠ 1) → (a, b) ≠ (65533, 1) := fun a b h e => by
    rw [Prod.mk.injEq] at e
    omega
  unfold Lib.decodeN
  repeat' split
  all_goals first
    | exact .inl ⟨rfl, by omega⟩
    | (refine .inr ⟨nope _ _ (by omega), ?_, fun h => by simp only at h; omega⟩
       unfold runeLenF
       simp only
       repeat' split
       all_goals omega)
/-- What the program decodes is what the model's decode finds. -/
theorem decF_good (s : ByteArray) (h : 0 < s.size) : decF s = goodN (Utf8.decode s 0) := by
  unfold decF
  rw [if_neg (by omega), hasPF_eq, Lib.decode_at]
  simp only [get!_byteN, decide_eq_false_iff_not, Nat.zero_add]
  have sh := decN_shape (s.size - 0) (byteN s 0) (byteN s 1) (byteN s 2) (byteN s 3) (by omega) (byteN_lt s 0) (byteN_lt s 1) (byteN_lt s 2) (byteN_lt s 3)
  generalize Lib.decodeN (s.size - 0) (byteN s 0) (byteN s 1) (byteN s 2) (byteN s 3) = r at *
  unfold goodN
  rcases sh with ⟨rfl, h2⟩ | ⟨h1, h2, h3⟩
  · rw [if_pos rfl, if_pos ⟨rfl, by omega⟩]
  · rw [if_neg h1, if_neg (by rintro ⟨h4, h5⟩; exact h5 (by have := h3 (by omega); omega)), h2]
end Go.Proofs.YtahgjolokkfhjaaDoor

end
section
/-
  Contracts and plain laws on the way to the statement; each says its own conditions.
-/
open Go Go.Proofs Go.Pw
namespace Go.Proofs.YtahgjolokkfhjaaDoor
set_option maxRecDepth 4000
set_option linter.unusedVariables false
set_option linter.unusedSimpArgs false
theorem dec_pos (s : ByteArray) (i : Nat) (h : i < s.size) : 1 ≤ (Utf8.decode s i).2 ∧ i + (Utf8.decode s i).2 ≤ s.size := by
  refine ⟨Lib.decode_width_pos s i h, ?_⟩
  rw [Lib.decode_at]
  have := Lib.decodeN_width_le (s.size - i) (s.get! i).toNat (s.get! (i + 1)).toNat (s.get! (i + 2)).toNat (s.get! (i + 3)).toNat (by omega)
  omega
/-- The points of bytes from a place on, as far as they are some; where that ends. -/
def scan (s : ByteArray) (i : Nat) : List Int × Nat :=
  if h : i < s.size then
    if Utf8.decode s i = (65533, 1) then ([], i) else (((Utf8.decode s i).1 : Int) :: (scan s (i + (Utf8.decode s i).2)).1, (scan s (i + (Utf8.decode s i).2)).2)
  else ([], i)
termination_by s.size - i
decreasing_by all_goals (have := dec_pos s i h; omega)
theorem scan_end {s : ByteArray} {i : Nat} (h : ¬ i < s.size) : scan s i = ([], i) := by rw [scan, dif_neg h]
theorem scan_bad {s : ByteArray} {i : Nat} (h : i < s.size) (hb : Utf8.decode s i = (65533, 1)) : scan s i = ([], i) := by rw [scan, dif_pos h, if_pos hb]
theorem scan_step {s : ByteArray} {i : Nat} (h : i < s.size) (hb : ¬ Utf8.decode s i = (65533, 1)) : scan s i = (((Utf8.decode s i).1 : Int) :: (scan s (i + (Utf8.decode s i).2)).1, (scan s (i + (Utf8.decode s i).2)).2) := by rw [scan, dif_pos h, if_neg hb]
theorem scan_len (s : ByteArray) (i : Nat) (hi : i ≤ s.size) : i ≤ (scan s i).2 ∧ (scan s i).2 ≤ s.size ∧ (scan s i).1.length ≤ s.size - i := by
  by_cases h : i < s.size
  · by_cases hb : Utf8.decode s i = (65533, 1)
    · rw [scan_bad h hb]; exact ⟨by simp, by simpa using hi, by simp⟩
    · have hp := dec_pos s i h
      have ih := scan_len s (i + (Utf8.decode s i).2) hp.2
      rw [scan_step h hb]
      simp only [List.length_cons]
      omega
  · rw [scan_end h]; exact ⟨by simp, by simpa using hi, by simp⟩
termination_by s.size - i
theorem first_good {s : ByteArray} {i : Nat} (h : i < s.size) (hb : ¬ Utf8.decode s i = (65533, 1)) : firstF s i 4 1 = (((Utf8.decode s i).1 : Int), ((Utf8.decode s i).2 : Int)) := by rw [first_decode s i h, goodN, if_neg hb]
theorem first_bad {s : ByteArray} {i : Nat} (h : i < s.size) (hb : Utf8.decode s i = (65533, 1)) : firstF s i 4 1 = (-1, 0) := by rw [first_decode s i h, goodN, if_pos hb]
theorem decF_tail {s : ByteArray} {i : Nat} (h : i < s.size) : decF (s.extract i s.size) = goodN (Utf8.decode s i) := by
  rw [decF_good _ (by rw [Lib.tail_size]; omega), Lib.tail_decode, Nat.add_zero]
def rptsS (s : ByteArray) (i k : Nat) (xs : List Int) : PS :=
  ⟨[(4, rowI k xs), (5, vI i), (0, vS s)], [], tokI k 3 xs, 0, k + 1⟩
set_option maxHeartbeats 4000000 in
theorem rpoints_ok (s : ByteArray) (hs : s.size ≤ 1000000) : Ok Tryd.prog 57 [vS s] (.tup [.sl (encI (scan s 0).1), vI (scan s 0).2]) := by
  refine Ok.of_pwp (by kernel_rfl) Tryd.func57 rfl (by kernel_rfl) (by kernel_rfl) ?_
  generalize hr : scan s 0 = r
  simp (implicitDefEqProofs := false) (disch := omega) only [go_sem, simprocAttr, go_sem, ↓ix_enc, encI_len, encI_take, Nat.le_refl, Tryd.results57]
  refine p_loop (ι := { p : Nat × Nat × List Int // p.1 ≤ s.size ∧ p.2.2.length ≤ p.1 ∧ r = (p.2.2 ++ (scan s p.1).1, (scan s p.1).2) }) (fun p => rptsS s p.1.1 p.1.2.1 p.1.2.2) (fun p => s.size - p.1.1) ⟨(0, 0, []), Nat.zero_le _, Nat.zero_le _, by simp [hr]⟩ ?_ ?_
  · simp only [rptsS, rowI, tokI]
    refine ⟨?_, ?_, ?_, ?_, ?_, ?_, ?_⟩ <;> simp only [go_sem, simprocAttr, decide_eq_true_eq, Int.natCast_zero] <;> try first | omega | ((repeat' (first | exact And.intro rfl (by omega) | (refine And.intro ?_ ?_))) <;> first | rfl | omega | (congr 3; omega) | (congr 2; omega))
  · rintro ⟨⟨i, k, xs⟩, h1, h2, h3⟩
    simp only at h1 h2 h3
    simp only [rptsS]
    simp (implicitDefEqProofs := false) (disch := omega) only [go_sem, simprocAttr, go_sem, ↓ix_enc, encI_len, encI_take, Nat.le_refl, Tryd.results57]
    with_reducible refine ifK_split (fun hlt => ?_) (fun hge => ?_)
    · have hlt' : i < s.size := by omega
      have f := first_ok s i (by omega) (by omega) (by omega)
      by_cases hb : Utf8.decode s i = (65533, 1)
      · rw [first_bad hlt' hb] at f
        rw [scan_bad hlt' hb] at h3
        simp (implicitDefEqProofs := false) (disch := omega) only [go_sem, simprocAttr, go_sem, ↓ix_enc, encI_len, encI_take, Nat.le_refl, Tryd.results57]
        with_reducible refine CallOk.of f rfl ?_
        simp (implicitDefEqProofs := false) (disch := omega) only [go_sem, simprocAttr, go_sem, ↓ix_enc, encI_len, encI_take, Nat.le_refl, Tryd.results57]
        simp only [List.append_nil] at h3
        cases xs with
        | nil =>
          simp only [rowI]
          simp (implicitDefEqProofs := false) (disch := omega) only [go_sem, simprocAttr, go_sem, ↓ix_enc, encI_len, encI_take, Nat.le_refl, Tryd.results57]
          rw [h3]; rfl
        | cons x q =>
          simp only [rowI]
          simp (implicitDefEqProofs := false) (disch := omega) only [go_sem, simprocAttr, go_sem, ↓ix_enc, encI_len, encI_take, Nat.le_refl, Tryd.results57]
          rw [h3]
      · rw [first_good hlt' hb] at f
        have hp := dec_pos s i hlt'
        rw [scan_step hlt' hb] at h3
        generalize Utf8.decode s i = d at *
        simp (implicitDefEqProofs := false) (disch := omega) only [go_sem, simprocAttr, go_sem, ↓ix_enc, encI_len, encI_take, Nat.le_refl, Tryd.results57]
        with_reducible refine CallOk.of f rfl ?_
        have hd0 : ¬ ((d.2 : Int) = 0) := by omega
        cases xs with
        | nil =>
          simp only [rowI, tokI]
          simp (implicitDefEqProofs := false) (disch := omega) only [go_sem, simprocAttr, go_sem, ↓ix_enc, encI_len, encI_take, Nat.le_refl, Tryd.results57]
          refine ⟨⟨(i + d.2, k + 1 + 4 + 8 + 2 + 3, [(d.1 : Int)]), by simp only; omega, by simp only [List.length_singleton]; omega, by simpa using h3⟩, by simp only; omega, ?_⟩
          simp only [rptsS, rowI, tokI, ← encI_one]
          refine ⟨?_, ?_, ?_, ?_, ?_, ?_, ?_⟩ <;> simp only [go_sem, simprocAttr, decide_eq_true_eq, Int.natCast_add, List.length_singleton, ite_self] <;> try first | omega | ((repeat' (first | exact And.intro rfl (by omega) | (refine And.intro ?_ ?_))) <;> first | rfl | omega | (congr 3; omega) | (congr 2; omega))
        | cons x q =>
          simp only [List.length_cons] at h2
          have hq : q.length ≤ 1000000 := by omega
          simp only [rowI, tokI]
          simp (implicitDefEqProofs := false) (disch := omega) only [go_sem, simprocAttr, go_sem, ↓ix_enc, encI_len, encI_take, Nat.le_refl, Tryd.results57]
          refine ⟨⟨(i + d.2, k, x :: (q ++ [(d.1 : Int)])), by simp only; omega, by simp only [List.length_cons, List.length_append, List.length_nil]; omega, by simpa using h3⟩, by simp only; omega, ?_⟩
          simp only [rptsS, rowI, tokI]
          refine ⟨?_, ?_, ?_, ?_, ?_, ?_, ?_⟩ <;> simp only [go_sem, simprocAttr, decide_eq_true_eq, Int.natCast_add, encI_snoc, List.cons_append, List.length_cons, List.length_append, List.length_singleton] <;> try first | omega | ((repeat' (first | exact And.intro rfl (by omega) | (refine And.intro ?_ ?_))) <;> first | rfl | omega | (congr 3; omega) | (congr 2; omega))
    · rw [scan_end (by omega)] at h3
      simp only [List.append_nil] at h3
      cases xs with
      | nil =>
        simp only [rowI]
        simp (implicitDefEqProofs := false) (disch := omega) only [go_sem, simprocAttr, go_sem, ↓ix_enc, encI_len, encI_take, Nat.le_refl, Tryd.results57]
        rw [h3]; rfl
      | cons x q =>
        simp only [rowI]
        simp (implicitDefEqProofs := false) (disch := omega) only [go_sem, simprocAttr, go_sem, ↓ix_enc, encI_len, encI_take, Nat.le_refl, Tryd.results57]
        rw [h3]
theorem rvalid_ok (s : ByteArray) (hs : s.size ≤ 1000000) : Ok Tryd.prog 33 [vS s] (vB (decide ((scan s 0).2 = s.size))) := by
  have e : decide (((scan s 0).2 : Int) = (s.size : Int)) = decide ((scan s 0).2 = s.size) := decide_eq_decide.2 (by omega)
  rw [← e]
  refine Ok.of_pwp (by kernel_rfl) Tryd.func33 rfl (by kernel_rfl) (by kernel_rfl) ?_
  simp (implicitDefEqProofs := false) (disch := omega) only [go_sem, simprocAttr, go_sem, ↓ix_enc, encI_len, encI_take, Nat.le_refl, Tryd.results33]
  with_reducible refine CallOk.of (rpoints_ok s hs) rfl ?_
  simp (implicitDefEqProofs := false) (disch := omega) only [go_sem, simprocAttr, go_sem, ↓ix_enc, encI_len, encI_take, Nat.le_refl, Tryd.results33]

end Go.Proofs.YtahgjolokkfhjaaDoor

end
section
/-
  glyph.Valid; the points of points' bytes.
-/
open Go Go.Proofs Go.Pw Go.RowKit
namespace Go.Proofs.YtahgjolokkfhjaaDoor
set_option maxRecDepth 4000
set_option linter.unusedVariables false
set_option linter.unusedSimpArgs false
theorem v1_ok (n : Int) : Ok Tryd.prog 70 [vI n] (.tup []) := by
  refine Ok.of_pwp (by kernel_rfl) Tryd.func70 rfl (by kernel_rfl) (by kernel_rfl) ?_
  simp (implicitDefEqProofs := false) (disch := omega) only [go_sem, simprocAttr, go_sem, Nat.le_refl, ↓ix_enc, encI_len, Tryd.results70]
set_option maxHeartbeats 4000000 in
theorem walk0_ok (s : ByteArray) (hs : s.size ≤ 1000000) : Ok Tryd.prog 69 [vS s, .fn 70 []] (vI (scan s 0).2) := by
  refine Ok.of_pwp (by kernel_rfl) Tryd.func69 rfl (by kernel_rfl) (by kernel_rfl) ?_
  generalize hr : (scan s 0).2 = rr
  simp (implicitDefEqProofs := false) (disch := omega) only [go_sem, simprocAttr, go_sem, Nat.le_refl, ↓ix_enc, encI_len, Tryd.results69]
  refine p_loop (ι := { i : Nat // i ≤ s.size ∧ rr = (scan s i).2 })
    (fun p => ⟨[(5, vI p.1), (0, vS s), (1, .fn 70 [])], [], [], 0, 0⟩) (fun p => s.size - p.1) ⟨0, Nat.zero_le _, hr.symm⟩ ?_ ?_
  · refine ⟨?_, ?_, ?_, ?_, ?_, ?_, ?_⟩ <;> simp only [go_sem, simprocAttr, decide_eq_true_eq, Int.natCast_zero] <;> try first | omega | ((repeat' (first | exact And.intro rfl (by omega) | (refine And.intro ?_ ?_))) <;> first | rfl | omega | (congr 3; omega) | (congr 2; omega))
  · rintro ⟨i, h1, h5⟩
    simp only at h1 h5 ⊢
    simp (implicitDefEqProofs := false) (disch := omega) only [go_sem, simprocAttr, go_sem, Nat.le_refl, ↓ix_enc, encI_len, Tryd.results69]
    with_reducible refine ifK_split (fun hlt => ?_) (fun hge => ?_)
    · have hlt' : i < s.size := by omega
      have d := decode_ok0 (s.extract i s.size) (by rw [Lib.tail_size]; omega)
      rw [decF_tail hlt'] at d
      simp (implicitDefEqProofs := false) (disch := omega) only [go_sem, simprocAttr, go_sem, Nat.le_refl, ↓ix_enc, encI_len, Tryd.results69]
      by_cases hb : Utf8.decode s i = (65533, 1)
      · rw [hb] at d
        rw [scan_bad hlt' hb] at h5
        simp only [goodN, if_true] at d
        with_reducible refine CallOk.of d rfl ?_
        simp (implicitDefEqProofs := false) (disch := omega) only [go_sem, simprocAttr, go_sem, Nat.le_refl, ↓ix_enc, encI_len, Tryd.results69]
        rw [h5]
      · rw [goodN, if_neg hb] at d
        have hp := dec_pos s i hlt'
        rw [scan_step hlt' hb] at h5
        generalize Utf8.decode s i = q at *
        with_reducible refine CallOk.of d rfl ?_
        have hd0 : ¬ ((q.2 : Int) = 0) := by omega
        simp (implicitDefEqProofs := false) (disch := omega) only [go_sem, simprocAttr, go_sem, Nat.le_refl, ↓ix_enc, encI_len, Tryd.results69]
        with_reducible refine CallOk.of (v1_ok _) rfl ?_
        simp (implicitDefEqProofs := false) (disch := omega) only [go_sem, simprocAttr, go_sem, Nat.le_refl, ↓ix_enc, encI_len, Tryd.results69]
        refine ⟨⟨i + q.2, by omega, h5⟩, by simp only; omega, ?_⟩
        refine ⟨?_, ?_, ?_, ?_, ?_, ?_, ?_⟩ <;> simp only [go_sem, simprocAttr, decide_eq_true_eq, Int.natCast_add] <;> try first | omega | ((repeat' (first | exact And.intro rfl (by omega) | (refine And.intro ?_ ?_))) <;> first | rfl | omega | (congr 3; omega) | (congr 2; omega))
    · rw [scan_end (by omega)] at h5
      simp (implicitDefEqProofs := false) (disch := omega) only [go_sem, simprocAttr, go_sem, Nat.le_refl, ↓ix_enc, encI_len, Tryd.results69]
      rw [h5]
def validF (s : ByteArray) : PV := if (scan s 0).2 = s.size then .tup [vI 0, vB true] else .tup [vI (scan s 0).2, vB false]
theorem valid_ok (s : ByteArray) (hs : s.size ≤ 1000000) : Ok Tryd.prog 54 [vS s] (validF s) := by
  refine Ok.of_pwp (by kernel_rfl) Tryd.func54 rfl (by kernel_rfl) (by kernel_rfl) ?_
  unfold validF
  have hl := scan_len s 0 (Nat.zero_le _)
  have w0 := walk0_ok s hs
  simp (implicitDefEqProofs := false) (disch := omega) only [go_sem, simprocAttr, go_sem, Nat.le_refl, ↓ix_enc, encI_len, Tryd.results54]
  with_reducible refine CallOk.of w0 rfl ?_
  simp (implicitDefEqProofs := false) (disch := omega) only [go_sem, simprocAttr, go_sem, Nat.le_refl, ↓ix_enc, encI_len, Tryd.results54]
  with_reducible refine ifK_split (fun hlt => ?_) (fun hge => ?_)
  · rw [if_neg (by omega)]
    simp (implicitDefEqProofs := false) (disch := omega) only [go_sem, simprocAttr, go_sem, Nat.le_refl, ↓ix_enc, encI_len, Tryd.results54]
  · rw [if_pos (by omega)]
    simp (implicitDefEqProofs := false) (disch := omega) only [go_sem, simprocAttr, go_sem, Nat.le_refl, ↓ix_enc, encI_len, Tryd.results54]
end Go.Proofs.YtahgjolokkfhjaaDoor

end
section
/-
  Texts: lists of them, their order, slices.BinarySearch over them; value.text.
-/
open Go Go.Proofs Go.Pw Go.RowKit
namespace Go.Proofs.YtahgjolokkfhjaaDoor
set_option maxRecDepth 4000
set_option linter.unusedVariables false
set_option linter.unusedSimpArgs false
def encT (l : List ByteArray) : List (List PV) := l.map fun s => [vS s]
theorem encT_len (l : List ByteArray) : (encT l).length = l.length := by simp [encT]
theorem encT_get (l : List ByteArray) (i : Nat) : (encT l).getD i [] = if i < l.length then [vS (l.getD i ByteArray.empty)] else [] := by
  unfold encT
  by_cases h : i < l.length
  · simp [h, List.getD_eq_getElem?_getD]
  · rw [if_neg h, List.getD_eq_getElem?_getD, List.getElem?_eq_none (by simpa using h)]; rfl
theorem encT_take (l : List ByteArray) (n : Nat) : (encT l).take n = encT (l.take n) := by simp [encT, List.map_take]
theorem encT_drop (l : List ByteArray) (n : Nat) : (encT l).drop n = encT (l.drop n) := by simp [encT, List.map_drop]
theorem encT_app (l m : List ByteArray) : encT l ++ encT m = encT (l ++ m) := by simp [encT]
theorem encT_one (s : ByteArray) : [[PV.val (.string s)]] = encT [s] := by simp [encT]
theorem encT_nil : encT [] = [] := rfl
theorem ix_T {a : List ByteArray} {i : Int} {K : PV → Prop} (h0 : 0 ≤ i) (h1 : i < (a.length : Int)) : ixP 1 i K (.sl (encT a)) = K (.fp [vS (a.getD i.toNat ByteArray.empty)]) := by
  have h : i.toNat < a.length := by omega
  simp only [ixP, encT_get, if_pos h, encT_len, List.length_singleton, h0, h1, true_and]
theorem ix_Tr {a : List ByteArray} {i : Int} {k : Nat} {K : PV → Prop} (h0 : 0 ≤ i) (h1 : i < (a.length : Int)) : ixP 1 i K (.row k (encT a)) = K (.fp [vS (a.getD i.toNat ByteArray.empty)]) := by
  have h : i.toNat < a.length := by omega
  simp only [ixP, encT_get, if_pos h, encT_len, List.length_singleton, h0, h1, true_and]
theorem encT_all (l : List ByteArray) : (∀ x ∈ encT l, x.length = 1) = True := eq_true (fun x hx => by
  obtain ⟨n, _, rfl⟩ := List.mem_map.1 hx
  rfl)
theorem fz_encT : ∀ (l : List ByteArray), fzLL (encT l) = some (encT l)
  | [] => rfl
  | x :: r => by
    have ih := fz_encT r
    unfold encT at ih ⊢
    rw [List.map_cons, fzLL, ih]
    rfl
attribute [go_sem ↓ 2000] ix_T ix_Tr
attribute [go_sem] encT_len encT_all fz_encT
/-- Ahead, of texts. -/
def ltT (a b : ByteArray) : Bool := Op.bytesLess a.data.toList b.data.toList
theorem ltT_lt (a b : ByteArray) : ltT a b = true ↔ a.data.toList < b.data.toList := by unfold ltT; rw [bytesLess_eq]; simp
theorem byte_ext {a b : ByteArray} (h : a.data.toList = b.data.toList) : a = b := by cases a; cases b; simp at h; rw [h]
theorem ltT_irr (a : ByteArray) : ltT a a = false := by
  cases h : ltT a a with
  | false => rfl
  | true => exact absurd ((ltT_lt a a).1 h) (List.lt_irrefl _)
theorem ltT_trans {a b c : ByteArray} (h : ltT a b = true) (k : ltT b c = true) : ltT a c = true := (ltT_lt _ _).2 (List.lt_trans ((ltT_lt _ _).1 h) ((ltT_lt _ _).1 k))
theorem ltT_tri (a b : ByteArray) : ltT a b = true ∨ a = b ∨ ltT b a = true := by
  rcases Decidable.em (a.data.toList < b.data.toList) with h | h
  · exact .inl ((ltT_lt _ _).2 h)
  · rcases Decidable.em (b.data.toList < a.data.toList) with k | k
    · exact .inr (.inr ((ltT_lt _ _).2 k))
    · exact .inr (.inl (byte_ext (List.le_antisymm (List.not_lt.1 k) (List.not_lt.1 h))))
theorem isNaNc_ok (s : ByteArray) : Ok Tryd.prog 92 [vS s] (vB false) := by
  refine Ok.of_pwp (by kernel_rfl) Tryd.func92 rfl (by kernel_rfl) (by kernel_rfl) ?_
  simp (implicitDefEqProofs := false) (disch := omega) only [go_sem, simprocAttr, go_sem, Nat.le_refl, Tryd.results92]
theorem isNaNs_ok (s : ByteArray) : Ok Tryd.prog 77 [vS s] (vB false) := by
  refine Ok.of_pwp (by kernel_rfl) Tryd.func77 rfl (by kernel_rfl) (by kernel_rfl) ?_
  simp (implicitDefEqProofs := false) (disch := omega) only [go_sem, simprocAttr, go_sem, Nat.le_refl, Tryd.results77]
theorem lessT_ok (a b : ByteArray) : Ok Tryd.prog 76 [vS a, vS b] (vB (ltT a b)) := by
  refine Ok.of_pwp (by kernel_rfl) Tryd.func76 rfl (by kernel_rfl) (by kernel_rfl) ?_
  unfold ltT
  simp (implicitDefEqProofs := false) (disch := omega) only [go_sem, simprocAttr, go_sem, Nat.le_refl, Tryd.results76]
  with_reducible refine CallOk.of (isNaNc_ok a) rfl ?_
  simp (implicitDefEqProofs := false) (disch := omega) only [go_sem, simprocAttr, go_sem, Nat.le_refl, Tryd.results76]
/-- Where a text stands, or would. -/
def posT (l : List ByteArray) (t : ByteArray) : Nat := (l.takeWhile fun s => ltT s t).length
def foundT (l : List ByteArray) (t : ByteArray) : Bool := decide (posT l t < l.length) && decide (l.getD (posT l t) ByteArray.empty = t)
def SortT (l : List ByteArray) : Prop := l.Pairwise fun a b => ltT a b = true
theorem posT_le (l : List ByteArray) (t : ByteArray) : posT l t ≤ l.length := (List.takeWhile_sublist _).length_le
theorem posT_of {l : List ByteArray} {t : ByteArray} {i : Nat} (hi : i ≤ l.length) (h1 : ∀ k, k < i → ltT (l.getD k ByteArray.empty) t = true) (h2 : i < l.length → ltT (l.getD i ByteArray.empty) t = false) : posT l t = i := by
  unfold posT
  induction l generalizing i with
  | nil => simp at hi ⊢; omega
  | cons x r ih =>
    cases i with
    | zero =>
      have := h2 (by simp)
      simp at this
      rw [List.takeWhile_cons, this]
      rfl
    | succ i =>
      have h0 := h1 0 (by omega)
      simp at h0
      rw [List.takeWhile_cons, h0]
      simp only [if_true, List.length_cons]
      rw [ih (i := i) (by simp at hi; omega) (fun k hk => by have := h1 (k + 1) (by omega); simpa using this) (fun hk => by have := h2 (by simp; omega); simpa using this)]
theorem SortT.get {l : List ByteArray} (h : SortT l) {i j : Nat} (hij : i < j) (hj : j < l.length) : ltT (l.getD i ByteArray.empty) (l.getD j ByteArray.empty) = true := by
  have := List.pairwise_iff_getElem.1 h i j (by omega) hj hij
  rw [List.getD_eq_getElem?_getD, List.getD_eq_getElem?_getD, List.getElem?_eq_getElem (by omega), List.getElem?_eq_getElem hj]
  exact this
set_option maxHeartbeats 4000000 in
theorem bs_ok (l : List ByteArray) (t : ByteArray) (hs : SortT l) (hl : l.length ≤ 1000000000) : Ok Tryd.prog 60 [.sl (encT l), vS t] (.tup [vI (posT l t), vB (foundT l t)]) := by
  refine Ok.of_pwp (by kernel_rfl) Tryd.func60 rfl (by kernel_rfl) (by kernel_rfl) ?_
  simp (implicitDefEqProofs := false) (disch := omega) only [go_sem, simprocAttr, go_sem, Nat.le_refl, Tryd.results60]
  refine p_loop (ι := { p : Nat × Nat // p.1 ≤ p.2 ∧ p.2 ≤ l.length ∧ (∀ k, k < p.1 → ltT (l.getD k ByteArray.empty) t = true) ∧ (∀ k, p.2 ≤ k → k < l.length → ltT (l.getD k ByteArray.empty) t = false) })
    (fun p => ⟨[(7, vI p.1.1), (8, vI p.1.2), (6, vI l.length), (0, .sl (encT l)), (1, vS t)], [], [], 0, 0⟩) (fun p => p.1.2 - p.1.1) ⟨(0, l.length), Nat.zero_le _, Nat.le_refl _, fun k h => absurd h (Nat.not_lt_zero _), fun k h h' => absurd h' (by simp only at h; omega)⟩ ?_ ?_
  · refine ⟨?_, ?_, ?_, ?_, ?_, ?_, ?_⟩ <;> simp only [go_sem, simprocAttr, decide_eq_true_eq, Int.natCast_zero] <;> try first | omega | ((repeat' (first | exact And.intro rfl (by omega) | (refine And.intro ?_ ?_))) <;> first | rfl | omega | (congr 3; omega) | (congr 2; omega))
  · rintro ⟨⟨i, j⟩, h1, h2, h3, h4⟩
    simp only at h1 h2 h3 h4 ⊢
    simp (implicitDefEqProofs := false) (disch := omega) only [go_sem, simprocAttr, go_sem, Nat.le_refl, Tryd.results60]
    with_reducible refine ifK_split (fun hlt => ?_) (fun hge => ?_)
    · have hw1 : IntKind.wrap .u64 ((i : Int) + (j : Int)) = (i : Int) + (j : Int) := by rw [IntKind.wrap_u64]; omega
      have hd : ((i : Int) + (j : Int)).fdiv (2 ^ min 1 64) = (((i + j) / 2 : Nat) : Int) := by
        have : ((2 : Int) ^ min 1 64) = 2 := by decide
        rw [this, Int.fdiv_eq_ediv_of_nonneg _ (by decide)]
        omega
      have hm1 : (i + j) / 2 < j := by omega
      have hm0 : i ≤ (i + j) / 2 := by omega
      simp (implicitDefEqProofs := false) (disch := omega) only [go_sem, simprocAttr, go_sem, Nat.le_refl, hw1, hd, Tryd.results60]
      generalize hq : (i + j) / 2 = m at *
      have hml : m < l.length := by omega
      simp (implicitDefEqProofs := false) (disch := omega) only [go_sem, simprocAttr, go_sem, Nat.le_refl, hw1, hd, Tryd.results60]
      with_reducible refine CallOk.of (lessT_ok (l.getD m ByteArray.empty) t) rfl ?_
      simp (implicitDefEqProofs := false) (disch := omega) only [go_sem, simprocAttr, go_sem, Nat.le_refl, Tryd.results60]
      cases hc : ltT (l.getD m ByteArray.empty) t with
      | true =>
        simp (implicitDefEqProofs := false) (disch := omega) only [go_sem, simprocAttr, go_sem, Nat.le_refl, Tryd.results60]
        refine ⟨⟨(m + 1, j), by simp only; omega, h2, fun k hk => ?_, h4⟩, by simp only; omega, ?_⟩
        · simp only at hk
          rcases Nat.lt_or_eq_of_le (Nat.le_of_lt_succ hk) with h | h
          · exact ltT_trans (hs.get h hml) hc
          · rw [h]; exact hc
        · refine ⟨?_, ?_, ?_, ?_, ?_, ?_, ?_⟩ <;> simp only [go_sem, simprocAttr, decide_eq_true_eq, Int.natCast_add, Int.natCast_one] <;> try first | omega | ((repeat' (first | exact And.intro rfl (by omega) | (refine And.intro ?_ ?_))) <;> first | rfl | omega | (congr 3; omega) | (congr 2; omega))
      | false =>
        simp (implicitDefEqProofs := false) (disch := omega) only [go_sem, simprocAttr, go_sem, Nat.le_refl, Tryd.results60]
        refine ⟨⟨(i, m), by simp only; omega, by simp only; omega, h3, fun k hk hkl => ?_⟩, by simp only; omega, ?_⟩
        · simp only at hk
          rcases Nat.lt_or_eq_of_le hk with h | h
          · cases hx : ltT (l.getD k ByteArray.empty) t with
            | false => rfl
            | true => rw [ltT_trans (hs.get h hkl) hx] at hc; cases hc
          · rw [← h]; exact hc
        · refine ⟨?_, ?_, ?_, ?_, ?_, ?_, ?_⟩ <;> simp only [go_sem, simprocAttr, decide_eq_true_eq, ] <;> try first | omega | ((repeat' (first | exact And.intro rfl (by omega) | (refine And.intro ?_ ?_))) <;> first | rfl | omega | (congr 3; omega) | (congr 2; omega))
    · have hij : i = j := by omega
      subst hij
      have hp : posT l t = i := posT_of h2 h3 (fun h => h4 i (Nat.le_refl _) h)
      unfold foundT
      rw [hp]
      by_cases hi : i < l.length
      · simp (implicitDefEqProofs := false) (disch := omega) only [go_sem, simprocAttr, go_sem, Nat.le_refl, Tryd.results60]
        by_cases he : l.getD i ByteArray.empty = t
        · rw [he, decide_eq_true hi, decide_eq_true rfl, Bool.and_self]
          simp (implicitDefEqProofs := false) (disch := omega) only [go_sem, simprocAttr, go_sem, Nat.le_refl, Tryd.results60]
        · rw [decide_eq_true hi, decide_eq_false he, Bool.and_false]
          simp (implicitDefEqProofs := false) (disch := omega) only [go_sem, simprocAttr, go_sem, Nat.le_refl, Tryd.results60]
          with_reducible refine CallOk.of (isNaNs_ok (l.getD i ByteArray.empty)) rfl ?_
          simp (implicitDefEqProofs := false) (disch := omega) only [go_sem, simprocAttr, go_sem, Nat.le_refl, Tryd.results60]
      · rw [decide_eq_false hi, Bool.false_and]
        simp (implicitDefEqProofs := false) (disch := omega) only [go_sem, simprocAttr, go_sem, Nat.le_refl, Tryd.results60]
end Go.Proofs.YtahgjolokkfhjaaDoor

end
section
/-
  value.text, and whether all of a list of texts are texts.
-/
open Go Go.Proofs Go.Pw Go.RowKit
namespace Go.Proofs.YtahgjolokkfhjaaDoor
set_option maxRecDepth 4000
set_option linter.unusedVariables false
set_option linter.unusedSimpArgs false
/-- Bytes that are a text. -/
def isT (s : ByteArray) : Bool := decide ((scan s 0).2 = s.size)
def fewT (l : List ByteArray) : Prop := ∀ s ∈ l, s.size ≤ 1000000
theorem fewT.get {l : List ByteArray} (h : fewT l) (i : Nat) : (l.getD i ByteArray.empty).size ≤ 1000000 := by
  by_cases hi : i < l.length
  · rw [List.getD_eq_getElem?_getD, List.getElem?_eq_getElem hi]; exact h _ (List.getElem_mem hi)
  · rw [List.getD_eq_getElem?_getD, List.getElem?_eq_none (by omega)]; exact Nat.zero_le _
theorem text_ok (s : ByteArray) (hs : s.size ≤ 1000000) : Ok Tryd.prog 51 [vS s] (vB (isT s)) := by
  refine Ok.of_pwp (by kernel_rfl) Tryd.func51 rfl (by kernel_rfl) (by kernel_rfl) ?_
  have v := valid_ok s hs
  unfold isT
  unfold validF at v
  by_cases h : (scan s 0).2 = s.size
  · rw [if_pos h] at v
    rw [decide_eq_true h]
    simp (implicitDefEqProofs := false) (disch := omega) only [go_sem, simprocAttr, go_sem, Nat.le_refl, Tryd.results51]
    with_reducible refine CallOk.of (v) rfl ?_
    simp (implicitDefEqProofs := false) (disch := omega) only [go_sem, simprocAttr, go_sem, Nat.le_refl, Tryd.results51]
  · rw [if_neg h] at v
    rw [decide_eq_false h]
    simp (implicitDefEqProofs := false) (disch := omega) only [go_sem, simprocAttr, go_sem, Nat.le_refl, Tryd.results51]
    with_reducible refine CallOk.of (v) rfl ?_
    simp (implicitDefEqProofs := false) (disch := omega) only [go_sem, simprocAttr, go_sem, Nat.le_refl, Tryd.results51]
theorem o1_ok (s : ByteArray) (hs : s.size ≤ 1000000) : Ok Tryd.prog 59 [vS s] (vB (!isT s)) := by
  refine Ok.of_pwp (by kernel_rfl) Tryd.func59 rfl (by kernel_rfl) (by kernel_rfl) ?_
  simp (implicitDefEqProofs := false) (disch := omega) only [go_sem, simprocAttr, go_sem, Nat.le_refl, Tryd.results59]
  with_reducible refine CallOk.of (text_ok s hs) rfl ?_
  simp (implicitDefEqProofs := false) (disch := omega) only [go_sem, simprocAttr, go_sem, Nat.le_refl, Tryd.results59]
def idxT (l : List ByteArray) : Int := if l.any (fun s => !isT s) = true then (l.findIdx (fun s => !isT s) : Int) else -1
theorem take_snocG {α : Type} {a : List α} {d : α} {k : Nat} (h : k < a.length) : a.take (k + 1) = a.take k ++ [a.getD k d] := by
  rw [List.take_succ_eq_append_getElem h, List.getD_eq_getElem?_getD, List.getElem?_eq_getElem h]; rfl
set_option maxHeartbeats 4000000 in
theorem idxS_ok (l : List ByteArray) (hf : fewT l) (hl : l.length ≤ 140737488351232) : Ok Tryd.prog 75 [.sl (encT l), .fn 59 []] (vI (idxT l)) := by
  refine Ok.of_pwp (by kernel_rfl) Tryd.func75 rfl (by kernel_rfl) (by kernel_rfl) ?_
  generalize hr : idxT l = rr
  simp (implicitDefEqProofs := false) (disch := omega) only [go_sem, simprocAttr, go_sem, Nat.le_refl, Tryd.results75]
  refine p_loop (ι := { i : Nat // i ≤ l.length ∧ (l.take i).any (fun s => !isT s) = false }) (fun p => ⟨[(8, vI p.1), (7, vI l.length), (0, .sl (encT l)), (1, .fn 59 [])], [], [], 0, 0⟩) (fun p => l.length - p.1) ⟨0, Nat.zero_le _, rfl⟩ ?_ ?_
  · refine ⟨?_, ?_, ?_, ?_, ?_, ?_, ?_⟩ <;> simp only [go_sem, simprocAttr, decide_eq_true_eq, Int.natCast_zero] <;> try first | omega | ((repeat' (first | exact And.intro rfl (by omega) | (refine And.intro ?_ ?_))) <;> first | rfl | omega | (congr 3; omega) | (congr 2; omega))
  · rintro ⟨i, h1, h2⟩
    simp only
    simp (implicitDefEqProofs := false) (disch := omega) only [go_sem, simprocAttr, go_sem, Nat.le_refl, Tryd.results75]
    with_reducible refine ifK_split (fun hlt => ?_) (fun hge => ?_)
    · have hi : i < l.length := by omega
      simp (implicitDefEqProofs := false) (disch := omega) only [go_sem, simprocAttr, go_sem, Nat.le_refl, Tryd.results75]
      with_reducible refine CallOk.of (o1_ok (l.getD i ByteArray.empty) (hf.get i)) rfl ?_
      have eg : l.getD i ByteArray.empty = l[i] := by rw [List.getD_eq_getElem?_getD, List.getElem?_eq_getElem hi]; rfl
      cases hw : (!isT (l.getD i ByteArray.empty)) with
      | true =>
        simp (implicitDefEqProofs := false) (disch := omega) only [go_sem, simprocAttr, go_sem, Nat.le_refl, Tryd.results75]
        rw [← hr, idxT, if_pos (List.any_eq_true.2 ⟨l[i], List.getElem_mem hi, by rw [← eg]; exact hw⟩)]
        have : l.findIdx (fun s => !isT s) = i := by
          rw [List.findIdx_eq hi]
          refine ⟨by rw [← eg]; exact hw, fun j hj => ?_⟩
          have := List.any_eq_false.1 h2 (l[j]) (by rw [List.mem_take_iff_getElem]; exact ⟨j, by omega, rfl⟩)
          simpa using this
        rw [this]
      | false =>
        simp (implicitDefEqProofs := false) (disch := omega) only [go_sem, simprocAttr, go_sem, Nat.le_refl, Tryd.results75]
        refine ⟨⟨i + 1, by omega, by rw [take_snocG (d := ByteArray.empty) hi, List.any_append, h2, List.any_cons, hw]; rfl⟩, by simp only; omega, ?_⟩
        refine ⟨?_, ?_, ?_, ?_, ?_, ?_, ?_⟩ <;> simp only [go_sem, simprocAttr, decide_eq_true_eq, Int.natCast_add, Int.natCast_one] <;> try first | omega | ((repeat' (first | exact And.intro rfl (by omega) | (refine And.intro ?_ ?_))) <;> first | rfl | omega | (congr 3; omega) | (congr 2; omega))
    · rw [List.take_of_length_le (by omega)] at h2
      simp (implicitDefEqProofs := false) (disch := omega) only [go_sem, simprocAttr, go_sem, Nat.le_refl, Tryd.results75]
      rw [← hr, idxT, h2]
      rfl
theorem contS_ok (l : List ByteArray) (hf : fewT l) (hl : l.length ≤ 140737488351232) : Ok Tryd.prog 58 [.sl (encT l), .fn 59 []] (vB (l.any fun s => !isT s)) := by
  refine Ok.of_pwp (by kernel_rfl) Tryd.func58 rfl (by kernel_rfl) (by kernel_rfl) ?_
  simp (implicitDefEqProofs := false) (disch := omega) only [go_sem, simprocAttr, go_sem, Nat.le_refl, Tryd.results58]
  with_reducible refine CallOk.of (idxS_ok l hf hl) rfl ?_
  cases h : l.any (fun s => !isT s) with
  | true =>
    have e : idxT l = (l.findIdx (fun s => !isT s) : Int) := by rw [idxT, h]; rfl
    rw [e]
    simp (implicitDefEqProofs := false) (disch := omega) only [go_sem, simprocAttr, go_sem, Nat.le_refl, Tryd.results58]
    rw [decide_eq_true (by omega)]
  | false =>
    have e : idxT l = -1 := by rw [idxT, h]; rfl
    rw [e]
    simp (implicitDefEqProofs := false) (disch := omega) only [go_sem, simprocAttr, go_sem, Nat.le_refl, Tryd.results58]
end Go.Proofs.YtahgjolokkfhjaaDoor

end
section
/-
  copy of elements of several cells, as an equation.
-/
open Go Go.Proofs Go.RowKit
namespace Go.Proofs.YtahgjolokkfhjaaDoor
set_option maxRecDepth 4000
set_option linter.unusedVariables false
set_option linter.unusedSimpArgs false
theorem run_copy_cellsN {P : Program} (w : World) (dT sT ty elem : TypeId) (sz b o dLen dCap : Nat) (a : Addr) (sLen sCap : Nat) (cs : List Value)
    (hu : P.underlying dT = some (.slice elem)) (hs : (P.info? elem).map (·.size) = some sz) (hn : cs.length = Nat.min sLen dLen * sz)
    (hsrc : ∀ j v, cs[j]? = some v → w.cell? (a.add j) = some v) (hc : ∀ j, j < cs.length → (w.cell? ⟨b, o + j, none⟩).isSome = true) (hf : ∀ j, j < cs.length → w.frozen? ⟨b, o + j, none⟩ = false) (h1 : ∀ v ∈ cs, v.oneCell' = true) :
    (Builtin.copy_ #[dT, sT] ty #[.slice (some ⟨b, o, none⟩) dLen dCap, .slice (some a) sLen sCap]).run P w = .ok (goInt (Nat.min sLen dLen)) (w.setCells b o cs) := by
  have hl := run_loadCells_list (P := P) w a cs hsrc
  have hst := run_storeCells_cells (P := P) b o cs 0 w (by simpa using hc) (by simpa using hf) h1
  cases hq : P.info? elem with
  | none => simp [hq] at hs
  | some i =>
    have hi : i.size = sz := by simpa [hq] using hs
    simp [Builtin.copy_, run_underlying hu, Builtin.lenOf, Builtin.firstCells, sizeOf, typeInfo, hq, hi, ← hn, hl, hst]
end Go.Proofs.YtahgjolokkfhjaaDoor

end
section
/-
  slices.Insert of elements of 1 cells: its four roads, each said whole (after the kit's own proof for elements of one cell).
-/
open Go Go.Proofs Go.RowKit Go.Lib
namespace Go.Proofs.YtahgjolokkfhjaaDoor
set_option maxRecDepth 4000
set_option linter.unusedVariables false
set_option linter.unusedSimpArgs false
theorem insS_info : ∃ i0, Tryd.prog.info? 9 = some i0 ∧ i0.zero = some (.string ⟨#[]⟩) ∧ i0.size = 1 ∧ i0.bytes = 16 := ⟨_, rfl, rfl, rfl, rfl⟩
set_option maxHeartbeats 4000000 in
set_option maxRecDepth 100000 in
theorem insS_shift (b off n c i vb voff m vc : Nat) (cs vs : List Value) (w : World) (hi : i < n) (hm : 0 < m) (hroom : n + m ≤ c) (hc63 : c ≤ 9223372036854775807) (hvb : vb ≠ b)
    (hcl : cs.length = n) (hvl : vs.length = m)
    (hcs : ∀ j v, cs[j]? = some v → w.cell? ⟨b, off + j, none⟩ = some v) (hsp : ∀ j, j < (n + m) → (w.cell? ⟨b, off + j, none⟩).isSome = true) (hfz : ∀ j, j < (n + m) → w.frozen? ⟨b, off + j, none⟩ = false)
    (hvs : ∀ j v, vs[j]? = some v → w.cell? ⟨vb, voff + j, none⟩ = some v) (h1c : ∀ v ∈ cs, v.oneCell' = true) (h1v : ∀ v ∈ vs, v.oneCell' = true)
    (tA tB : TypeId) (kA kB : Nat) (hsa : w.shape? vb = some (tA, kA)) (hsb : w.shape? b = some (tB, kB)) (hkB : kB ≠ 0) (hfa : w.frozen? ⟨vb, voff, none⟩ = false) (hfe : w.frozen? ⟨vb, kA, none⟩ = false) :
    Calls Tryd.prog 61 #[.slice (some ⟨b, off, none⟩) n c, .int .i64 i, .slice (some ⟨vb, voff, none⟩) m vc] w fun e w' =>
      e = .returned (.slice (some ⟨b, off, none⟩) (n + m) c) ∧ w' = (w.drew.setCells b (off + (i + m)) (cs.drop (i))).setCells b (off + i) vs := by
  have hz1 : ¬ ((m : Int) = 0) := by omega
  have hz2 : ¬ ((i : Int) = (n : Int)) := by omega
  obtain ⟨i0, hi0, hz0, hzs, hzb⟩ := insS_info
  have hsz : (Tryd.prog.info? 9).map (·.size) = some 1 := by rw [hi0]; simp [hzs]
  have hov : ∀ lb cb, (callFunc 78 #[.slice (some ⟨vb, voff, none⟩) m vc, .slice (some ⟨b, off + (i + m), none⟩) lb cb]).run Tryd.prog w = .ok (.value (.bool false)) w := fun lb cb => by
    rw [run_callFunc_extern Tryd.func78 (by kernel_rfl) (by kernel_rfl) (by kernel_rfl) (e := Extern.SlicesOverlaps.overlaps #[23, 23] #[4]) (by kernel_rfl),
      Lib.run_overlaps_apart w 23 4 9 Tryd.underlying23 1 (fun w => by simp [sizeOf, typeInfo, hi0, hzs]) ⟨vb, voff, none⟩ ⟨b, off + (i + m), none⟩ m vc lb cb hvb tA tB kA kB hsa hsb hkB hfa hfe]
    rfl
  have hdl : (cs.drop (i)).length = (n - i) := by have := List.length_drop (i := i) (l := cs); omega
  have mixed : Tryd.prog.follows .mixedOrders = true := by kernel_rfl
  have hw1 : IntKind.i64.wrap ((i : Int) + (m : Int)) = (i : Int) + (m : Int) := by rw [IntKind.wrap_i64]; omega
  have hb1 : (0 : Int) ≤ (i : Int) + (m : Int) := by omega
  have hin : i ≤ n := by omega
  have htn : ((i : Int) + (m : Int)).toNat = i + m := by omega
  have hb2 : ¬ (c = i + m) := by omega
  have hb3 : (i : Int) ≤ (n : Int) + (m : Int) := by omega
  have hb4 : ¬ (c = i) := by omega
  have hcp1 : ∀ ty dc sc, (Builtin.copy_ #[23, 23] ty #[.slice (some ⟨b, off + (i + m), none⟩) (n + m - (i + m)) dc, .slice (some ⟨b, off + i, none⟩) (n + m - i) sc]).run Tryd.prog w.drew = .ok (goInt (Nat.min (n + m - i) (n + m - (i + m)))) (w.drew.setCells b (off + (i + m)) (cs.drop (i))) := fun ty dc sc =>
    run_copy_cellsN w.drew _ _ ty 9 1 b (off + (i + m)) (n + m - (i + m)) dc ⟨b, off + i, none⟩ (n + m - i) sc (cs.drop (i)) Tryd.underlying23 hsz (by rw [hdl]; simp only [Nat.min_def]; split <;> omega)
      (fun j v hj => by rw [Addr.add_lit, Nat.add_assoc]; exact hcs (i + j) v (by rwa [List.getElem?_drop] at hj))
      (fun j hj => by rw [Nat.add_assoc]; exact hsp _ (by omega)) (fun j hj => by rw [Nat.add_assoc]; exact hfz _ (by omega)) (fun v hv => h1c v (List.mem_of_mem_drop hv))
  obtain ⟨W1, hW1⟩ : ∃ W1, W1 = w.drew.setCells b (off + (i + m)) (cs.drop (i)) := ⟨_, rfl⟩
  have hsp1 : ∀ k, k < (n + m) → (W1.cell? ⟨b, off + k, none⟩).isSome = true := fun k hk => by
    rw [hW1]
    exact isSome_setCells b _ _ _ (fun j hj => by rw [Nat.add_assoc]; exact hsp _ (by omega)) _ (hsp k hk)
  have hcp2 : ∀ (W : World), (∀ x, W.cell? x = W1.cell? x) → (∀ x, W.frozen? x = W1.frozen? x) → ∀ ty dc, (Builtin.copy_ #[23, 23] ty #[.slice (some ⟨b, off + i, none⟩) (n + m - i) dc, .slice (some ⟨vb, voff, none⟩) m vc]).run Tryd.prog W = .ok (goInt (Nat.min m (n + m - i))) (W.setCells b (off + i) vs) := fun W hWc hWf ty dc =>
    run_copy_cellsN W _ _ ty 9 1 b (off + i) (n + m - i) dc ⟨vb, voff, none⟩ m vc vs Tryd.underlying23 hsz (by rw [hvl]; simp only [Nat.min_def]; split <;> omega)
      (fun j v hj => by
        rw [Addr.add_lit, hWc, hW1, World.cell?_setCells_out b _ _ _ _ (fun h _ => absurd h hvb)]
        exact hvs j v hj)
      (fun j hj => by rw [hWc, Nat.add_assoc]; exact hsp1 _ (by omega)) (fun j hj => by rw [hWf, hW1, World.frozen?_setCells, Nat.add_assoc]; exact hfz _ (by omega)) h1v
  rw [← hW1] at hcp1
  go_enter Tryd.func61, Tryd.ntmps61
  go_wp2_with (simp only [hov])
  go_region_law_o (refine step_copy_runI rfl _ _ 23 23 rfl _ _ (by simp [Act.eval, Act.put]) (by simp [Act.eval, Act.put]) (hcp1 _ _ _) ?_)
  go_wp2_with (at_builtin; refine wpList_copy_runI _ rfl _ _ 23 23 rfl _ _ rfl rfl (hcp2 _ (fun _ => rfl) (fun _ => rfl) _ _) ?_)
  go_ret
  first | exact ⟨rfl, rfl⟩ | exact ⟨rfl, by rw [hW1]⟩
set_option maxHeartbeats 4000000 in
set_option maxRecDepth 100000 in
theorem insS_end_room (b off n c vb voff m vc : Nat) (vs : List Value) (w : World) (hm : 0 < m) (hroom : n + m ≤ c) (hc63 : c ≤ 9223372036854775807)
    (hvl : vs.length = m) (hsp : ∀ j, j < m → (w.cell? ⟨b, off + n + j, none⟩).isSome = true) (hfz : ∀ j, j < m → w.frozen? ⟨b, off + n + j, none⟩ = false)
    (hvs : ∀ j v, vs[j]? = some v → w.cell? ⟨vb, voff + j, none⟩ = some v) (h1v : ∀ v ∈ vs, v.oneCell' = true) :
    Calls Tryd.prog 61 #[.slice (some ⟨b, off, none⟩) n c, .int .i64 n, .slice (some ⟨vb, voff, none⟩) m vc] w fun e w' =>
      e = .returned (.slice (some ⟨b, off, none⟩) (n + m) c) ∧ w' = w.setCells b (off + n) vs := by
  have mixed : Tryd.prog.follows .mixedOrders = true := by kernel_rfl
  obtain ⟨i0, hi0, hz0, hzs, hzb⟩ := insS_info
  have hz1 : ¬ ((m : Int) = 0) := by omega
  have hsrc : Src Tryd.prog i0.size 23 (.slice (some ⟨vb, voff, none⟩) m vc) m vs w := by
    rw [hzs]
    exact Src.ofSlice w Tryd.underlying23 ⟨vb, voff, none⟩ m vc vs (by omega) (fun j u hj => by rw [Addr.add_lit]; exact hvs j u hj) h1v
  have hrun : ∀ ty, (Builtin.append_ #[23, 23] ty #[.slice (some ⟨b, off, none⟩) n c, .slice (some ⟨vb, voff, none⟩) m vc]).run Tryd.prog w = .ok (.slice (some ⟨b, off, none⟩) (n + m) c) (w.setCells b (off + n) vs) := fun ty => by
    have := run_append_room_src w 23 23 ty 9 i0 Tryd.underlying23 hi0 b off n c _ m vs hsrc hroom (by simp only [hzs, hvl, Nat.mul_one]; exact hsp) (by simp only [hzs, hvl, Nat.mul_one]; exact hfz)
    simp only [hzs, Nat.mul_one] at this
    exact this
  go_enter Tryd.func61, Tryd.ntmps61
  go_wp2_with (at_builtin; refine Lib.wpList_append_run _ rfl _ _ _ _ rfl _ _ rfl rfl _ _ (hrun _) ?_)
  go_ret
  exact ⟨rfl, rfl⟩
set_option maxHeartbeats 4000000 in
set_option maxRecDepth 100000 in
theorem insS_end_grow (base : Option Addr) (n c vb voff m vc : Nat) (cs vs : List Value) (w : World) (hm : 0 < m) (hnc : n ≤ c) (hroom : c < n + m) (hbig : (n + m) * 16 ≤ 140737488355328)
    (hcl : cs.length = n) (hvl : vs.length = m) (hnil : base = none → n = 0)
    (hcs : ∀ a, base = some a → ∀ j v, cs[j]? = some v → w.cell? (a.add j) = some v)
    (hvs : ∀ j v, vs[j]? = some v → w.cell? ⟨vb, voff + j, none⟩ = some v) (h1v : ∀ v ∈ vs, v.oneCell' = true) :
    Calls Tryd.prog 61 #[.slice base n c, .int .i64 n, .slice (some ⟨vb, voff, none⟩) m vc] w fun e w' =>
      e = .returned (.slice (some ⟨w.heap.size, 0, none⟩) (n + m) (grownCap w (n + m) c 9)) ∧
      w' = w.drew.alloc (.cells ((cs ++ vs).toArray ++ Builtin.zeroCells (.string ⟨#[]⟩ : Value).cells (grownCap w (n + m) c 9 - (n + m))) 9) := by
  have mixed : Tryd.prog.follows .mixedOrders = true := by kernel_rfl
  obtain ⟨i0, hi0, hz0, hzs, hzb⟩ := insS_info
  have hz1 : ¬ ((m : Int) = 0) := by omega
  have hsrc : Src Tryd.prog i0.size 23 (.slice (some ⟨vb, voff, none⟩) m vc) m vs w := by
    rw [hzs]
    exact Src.ofSlice w Tryd.underlying23 ⟨vb, voff, none⟩ m vc vs (by omega) (fun j u hj => by rw [Addr.add_lit]; exact hvs j u hj) h1v
  have hold : (Builtin.firstCells i0.size n (.slice base n c)).run Tryd.prog w.drew = .ok cs.toArray w.drew := by
    rw [hzs]
    cases base with
    | none =>
      have h0 := hnil rfl
      subst h0
      have hc0 : cs = [] := List.length_eq_zero_iff.1 (by omega)
      rw [hc0]
      exact run_firstCells_none w.drew 1 0 0 c
    | some a => exact run_firstCells_some w.drew 1 n a n c cs (by omega) (fun j v hj => hcs a rfl j v hj)
  have hrun : ∀ ty, (Builtin.append_ #[23, 23] ty #[.slice base n c, .slice (some ⟨vb, voff, none⟩) m vc]).run Tryd.prog w = _ := fun ty =>
    run_append_grow_src w 23 23 ty 9 i0 _ Tryd.underlying23 hi0 hz0 base n c cs hold _ m vs hsrc hroom (by omega) (by rw [hzb]; exact growslice_fits hroom hbig)
  go_enter Tryd.func61, Tryd.ntmps61
  cases base with
  | none =>
    have h0 := hnil rfl
    subst h0
    go_wp2_with (at_builtin; refine Lib.wpList_append_run _ rfl _ _ _ _ rfl _ _ rfl rfl _ _ (hrun _) ?_)
    go_ret
    exact ⟨rfl, rfl⟩
  | some a =>
    obtain ⟨ab, ao, asp⟩ := a
    go_wp2_with (at_builtin; refine Lib.wpList_append_run _ rfl _ _ _ _ rfl _ _ rfl rfl _ _ (hrun _) ?_)
    all_goals (go_ret; exact ⟨rfl, rfl⟩)
set_option maxHeartbeats 4000000 in
set_option maxRecDepth 100000 in
theorem insS_grow (b off n c i vb voff m vc : Nat) (cs vs : List Value) (w : World) (hi : i < n) (hm : 0 < m) (hnc : n ≤ c) (hroom : c < n + m) (hbig : (n + m) * 16 ≤ 140737488355328)
    (hcl : cs.length = n) (hvl : vs.length = m)
    (hcs : ∀ j v, cs[j]? = some v → w.cell? ⟨b, off + j, none⟩ = some v)
    (hvs : ∀ j v, vs[j]? = some v → w.cell? ⟨vb, voff + j, none⟩ = some v) (h1c : ∀ v ∈ cs, v.oneCell' = true) (h1v : ∀ v ∈ vs, v.oneCell' = true) :
    Calls Tryd.prog 61 #[.slice (some ⟨b, off, none⟩) n c, .int .i64 i, .slice (some ⟨vb, voff, none⟩) m vc] w fun e w' =>
      e = .returned (.slice (some ⟨w.heap.size, 0, none⟩) (n + m) (grownCap w (n + m) c 9)) ∧
      w' = (((w.alloc (.cells ((cs.take (i)).toArray ++ Builtin.zeroCells (.string ⟨#[]⟩ : Value).cells (n + m - i) ++ Builtin.zeroCells (.string ⟨#[]⟩ : Value).cells (grownCap w (n + m) c 9 - (n + m))) 9)).drew.setCells w.heap.size (i) vs).drew).setCells w.heap.size ((i + m)) (cs.drop (i)) := by
  have mixed : Tryd.prog.follows .mixedOrders = true := by kernel_rfl
  obtain ⟨i0, hi0, hz0, hzs, hzb⟩ := insS_info
  have hz1 : ¬ ((m : Int) = 0) := by omega
  have hz2 : ¬ ((i : Int) = (n : Int)) := by omega
  have hz3 : (c : Int) < (n : Int) + (m : Int) := by omega
  have hsz : (Tryd.prog.info? 9).map (·.size) = some 1 := by rw [hi0]; simp [hzs]
  have hbw : b < w.heap.size := block_lt_of_cell (hcs 0 _ (List.getElem?_eq_getElem (by omega)))
  have hvw : vb < w.heap.size := block_lt_of_cell (hvs 0 _ (List.getElem?_eq_getElem (by omega)))
  have hkk : (n : Int) + (m : Int) - (i : Int) = ((n + m - i : Nat) : Int) := by omega
  have hik : i + (n + m - i) = n + m := by omega
  have hold : (Builtin.firstCells i0.size i (.slice (some ⟨b, off, none⟩) i c)).run Tryd.prog w.drew = .ok (cs.take (i)).toArray w.drew := by
    rw [hzs]
    exact run_firstCells_some w.drew 1 i ⟨b, off, none⟩ i c (cs.take (i)) (by rw [List.length_take]; omega) (fun j v hj => by
      rw [Addr.add_lit]
      rw [List.getElem?_take] at hj
      split at hj
      · exact hcs j v hj
      · cases hj)
  have hrz : ∀ ty, (Builtin.append_ #[23, 3] ty #[.slice (some ⟨b, off, none⟩) i c, .int .i64 ((n : Int) + (m : Int) - (i : Int))]).run Tryd.prog w =
      .ok (.slice (some ⟨w.heap.size, 0, none⟩) (n + m) (grownCap w (n + m) c 9)) (w.drew.alloc (.cells ((cs.take (i)).toArray ++ Builtin.zeroCells (.string ⟨#[]⟩ : Value).cells (n + m - i) ++ Builtin.zeroCells (.string ⟨#[]⟩ : Value).cells (grownCap w (n + m) c 9 - (n + m))) 9)) := fun ty => by
    have h := Lib.run_append_grow_zeros w 23 3 ty 9 i0 _ .i64 .i64 Tryd.underlying23 Tryd.underlying3 hi0 hz0 (some ⟨b, off, none⟩) i c (cs.take (i)) hold (n + m - i) (by omega) (by omega) (by omega) (by omega) (by rw [hzb]; omega) (by rw [hzb, hik]; exact growslice_fits hroom hbig)
    rw [hik] at h
    rw [hkk]
    exact h
  obtain ⟨G, hG⟩ : ∃ G, G = grownCap w (n + m) c 9 := ⟨_, rfl⟩
  obtain ⟨ROW, hROW⟩ : ∃ ROW : Array Value, ROW = (cs.take (i)).toArray ++ Builtin.zeroCells (.string ⟨#[]⟩ : Value).cells (n + m - i) ++ Builtin.zeroCells (.string ⟨#[]⟩ : Value).cells (G - (n + m)) := ⟨_, rfl⟩
  rw [← hG] at hrz ⊢
  rw [← hROW] at hrz ⊢
  have hRl : (n + m) ≤ ROW.size := by
    rw [hROW]
    simp [Builtin.zeroCells, Value.cells]
    omega
  obtain ⟨W1, hW1⟩ : ∃ W1, W1 = w.drew.alloc (.cells ROW 9) := ⟨_, rfl⟩
  rw [← hW1] at hrz
  have hN : ∀ j, j < (n + m) → (W1.cell? ⟨w.heap.size, j, none⟩).isSome = true := fun j hj => by
    rw [hW1, World.cell?_alloc_at (w := w.drew) ROW _ w.heap.size j rfl, Array.getElem?_eq_getElem (by omega)]; rfl
  have hNf : ∀ j, W1.frozen? ⟨w.heap.size, j, none⟩ = false := fun j => by rw [hW1]; exact World.frozen?_alloc_at (w := w.drew) ROW _ w.heap.size j rfl
  have hOb : ∀ j v, w.cell? ⟨b, j, none⟩ = some v → W1.cell? ⟨b, j, none⟩ = some v := fun j v h => by rw [hW1, World.cell?_alloc_past (w := w.drew) _ b j hbw]; exact h
  have hOv : ∀ j v, w.cell? ⟨vb, j, none⟩ = some v → W1.cell? ⟨vb, j, none⟩ = some v := fun j v h => by rw [hW1, World.cell?_alloc_past (w := w.drew) _ vb j hvw]; exact h
  have hcpA : ∀ (W : World), (∀ x, W.cell? x = W1.cell? x) → (∀ x, W.frozen? x = W1.frozen? x) → ∀ ty dc, (Builtin.copy_ #[23, 23] ty #[.slice (some ⟨w.heap.size, i, none⟩) (n + m - i) dc, .slice (some ⟨vb, voff, none⟩) m vc]).run Tryd.prog W = .ok (goInt (Nat.min m (n + m - i))) (W.setCells w.heap.size (i) vs) := fun W hWc hWf ty dc =>
    run_copy_cellsN W _ _ ty 9 1 w.heap.size (i) (n + m - i) dc ⟨vb, voff, none⟩ m vc vs Tryd.underlying23 hsz (by rw [hvl]; simp only [Nat.min_def]; split <;> omega)
      (fun j v hj => by rw [Addr.add_lit, hWc]; exact hOv _ v (hvs j v hj))
      (fun j hj => by rw [hWc]; exact hN _ (by omega)) (fun j hj => by rw [hWf]; exact hNf _) h1v
  have hGn : n + m ≤ G := by rw [hG]; exact grownCap_ge w _ _ _
  have hG63 : G ≤ 9223372036854775807 := by
    have := grownCap_le_maxLen w (n + m) c 9 (by unfold maxLen; omega)
    rw [← hG] at this
    unfold maxLen at this
    omega
  have hGi : ¬ (G = i) := by omega
  have hGim : ¬ (G = i + m) := by omega
  have hci : ¬ (c = i) := by omega
  have hbN : b ≠ w.heap.size := by omega
  have hdl : (cs.drop (i)).length = (n - i) := by have := List.length_drop (i := i) (l := cs); omega
  have hcpB : ∀ (W : World), (∀ x, W.cell? x = (W1.setCells w.heap.size (i) vs).cell? x) → (∀ x, W.frozen? x = (W1.setCells w.heap.size (i) vs).frozen? x) → ∀ ty dc sc, (Builtin.copy_ #[23, 23] ty #[.slice (some ⟨w.heap.size, (i + m), none⟩) (n + m - (i + m)) dc, .slice (some ⟨b, off + i, none⟩) (n - i) sc]).run Tryd.prog W = .ok (goInt (Nat.min (n - i) (n + m - (i + m)))) (W.setCells w.heap.size ((i + m)) (cs.drop (i))) := fun W hWc hWf ty dc sc =>
    run_copy_cellsN W _ _ ty 9 1 w.heap.size ((i + m)) (n + m - (i + m)) dc ⟨b, off + i, none⟩ (n - i) sc (cs.drop (i)) Tryd.underlying23 hsz (by rw [hdl]; simp only [Nat.min_def]; split <;> omega)
      (fun j v hj => by
        rw [Addr.add_lit, hWc, World.cell?_setCells_out _ _ _ _ _ (fun h _ => absurd h hbN), Nat.add_assoc]
        exact hOb _ v (hcs (i + j) v (by rwa [List.getElem?_drop] at hj)))
      (fun j hj => by rw [hWc]; exact isSome_setCells _ _ _ _ (fun t ht => hN _ (by omega)) _ (hN _ (by omega)))
      (fun j hj => by rw [hWf, World.frozen?_setCells]; exact hNf _) (fun v hv => h1c v (List.mem_of_mem_drop hv))
  subst hW1
  have hE1 : ∀ x, ((w.alloc (.cells ROW 9)).drew).cell? x = (w.drew.alloc (.cells ROW 9)).cell? x := fun x => rfl
  have hE2 : ∀ x, ((w.alloc (.cells ROW 9)).drew).frozen? x = (w.drew.alloc (.cells ROW 9)).frozen? x := fun x => rfl
  have hF1 : ∀ x, (((w.alloc (.cells ROW 9)).drew.setCells w.heap.size (i) vs).drew).cell? x = ((w.drew.alloc (.cells ROW 9)).setCells w.heap.size (i) vs).cell? x := fun x => rfl
  have hF2 : ∀ x, (((w.alloc (.cells ROW 9)).drew.setCells w.heap.size (i) vs).drew).frozen? x = ((w.drew.alloc (.cells ROW 9)).setCells w.heap.size (i) vs).frozen? x := fun x => rfl
  have hw1 : IntKind.i64.wrap ((i : Int) + (m : Int)) = (i : Int) + (m : Int) := by rw [IntKind.wrap_i64]; omega
  have hb1 : (0 : Int) ≤ (i : Int) + (m : Int) := by omega
  have hin : i ≤ n := by omega
  have htn : ((i : Int) + (m : Int)).toNat = i + m := by omega
  have hb3 : (i : Int) ≤ (n : Int) := by omega
  clear hkk hik hold hROW hG hRl
  go_enter Tryd.func61, Tryd.ntmps61
  go_wp2_with (first
    | (at_builtin; refine Lib.wpList_append_run _ rfl _ _ _ _ rfl _ _ rfl rfl _ _ (hrz _) ?_)
    | (at_builtin; refine wpList_copy_runI _ rfl _ _ 23 23 rfl _ _ rfl rfl (hcpA _ hE1 hE2 _ _) ?_)
    | (at_builtin; refine wpList_copy_runI _ rfl _ _ 23 23 rfl _ _ rfl rfl (hcpB _ (fun _ => rfl) (fun _ => rfl) _ _ _) ?_))
  go_region_law_o (refine step_copy_runI rfl _ _ 23 23 rfl (.slice (some ⟨w.heap.size, (i + m), none⟩) (n + m - (i + m)) (G - (i + m))) (.slice (some ⟨b, off + i, none⟩) (n - i) (c - i)) (by simp [Act.eval, Act.put]) (by simp [Act.eval, Act.put]) (hcpB _ hF1 hF2 3 (G - (i + m)) (c - i)) ?_)
  go_wp2
  go_ret
  exact ⟨rfl, rfl⟩
end Go.Proofs.YtahgjolokkfhjaaDoor

end
section
/-
  slices.Insert of elements of 6 cells: its four roads, each said whole (after the kit's own proof for elements of one cell).
-/
open Go Go.Proofs Go.RowKit Go.Lib
namespace Go.Proofs.YtahgjolokkfhjaaDoor
set_option maxRecDepth 4000
set_option linter.unusedVariables false
set_option linter.unusedSimpArgs false
theorem insV_info : ∃ i0, Tryd.prog.info? 32 = some i0 ∧ i0.zero = some (.agg #[.int .i64 0, .bool false, .int .i64 0, .string ⟨#[]⟩, .slice none 0 0, .slice none 0 0]) ∧ i0.size = 6 ∧ i0.bytes = 88 := ⟨_, rfl, rfl, rfl, rfl⟩
set_option maxHeartbeats 4000000 in
set_option maxRecDepth 100000 in
theorem insV_shift (b off n c i vb voff m vc : Nat) (cs vs : List Value) (w : World) (hi : i < n) (hm : 0 < m) (hroom : n + m ≤ c) (hc63 : c ≤ 9223372036854775807) (hvb : vb ≠ b)
    (hcl : cs.length = n * 6) (hvl : vs.length = m * 6)
    (hcs : ∀ j v, cs[j]? = some v → w.cell? ⟨b, off + j, none⟩ = some v) (hsp : ∀ j, j < (n + m) * 6 → (w.cell? ⟨b, off + j, none⟩).isSome = true) (hfz : ∀ j, j < (n + m) * 6 → w.frozen? ⟨b, off + j, none⟩ = false)
    (hvs : ∀ j v, vs[j]? = some v → w.cell? ⟨vb, voff + j, none⟩ = some v) (h1c : ∀ v ∈ cs, v.oneCell' = true) (h1v : ∀ v ∈ vs, v.oneCell' = true)
    (tA tB : TypeId) (kA kB : Nat) (hsa : w.shape? vb = some (tA, kA)) (hsb : w.shape? b = some (tB, kB)) (hkB : kB ≠ 0) (hfa : w.frozen? ⟨vb, voff, none⟩ = false) (hfe : w.frozen? ⟨vb, kA, none⟩ = false) :
    Calls Tryd.prog 62 #[.slice (some ⟨b, off, none⟩) n c, .int .i64 i, .slice (some ⟨vb, voff, none⟩) m vc] w fun e w' =>
      e = .returned (.slice (some ⟨b, off, none⟩) (n + m) c) ∧ w' = (w.drew.setCells b (off + (i + m) * 6) (cs.drop (i * 6))).setCells b (off + i * 6) vs := by
  have hz1 : ¬ ((m : Int) = 0) := by omega
  have hz2 : ¬ ((i : Int) = (n : Int)) := by omega
  obtain ⟨i0, hi0, hz0, hzs, hzb⟩ := insV_info
  have hsz : (Tryd.prog.info? 32).map (·.size) = some 6 := by rw [hi0]; simp [hzs]
  have hov : ∀ lb cb, (callFunc 80 #[.slice (some ⟨vb, voff, none⟩) m vc, .slice (some ⟨b, off + (i + m) * 6, none⟩) lb cb]).run Tryd.prog w = .ok (.value (.bool false)) w := fun lb cb => by
    rw [run_callFunc_extern Tryd.func80 (by kernel_rfl) (by kernel_rfl) (by kernel_rfl) (e := Extern.SlicesOverlaps.overlaps #[30, 30] #[4]) (by kernel_rfl),
      Lib.run_overlaps_apart w 30 4 32 Tryd.underlying30 6 (fun w => by simp [sizeOf, typeInfo, hi0, hzs]) ⟨vb, voff, none⟩ ⟨b, off + (i + m) * 6, none⟩ m vc lb cb hvb tA tB kA kB hsa hsb hkB hfa hfe]
    rfl
  have hdl : (cs.drop (i * 6)).length = (n - i) * 6 := by have := List.length_drop (i := i * 6) (l := cs); omega
  have mixed : Tryd.prog.follows .mixedOrders = true := by kernel_rfl
  have hw1 : IntKind.i64.wrap ((i : Int) + (m : Int)) = (i : Int) + (m : Int) := by rw [IntKind.wrap_i64]; omega
  have hb1 : (0 : Int) ≤ (i : Int) + (m : Int) := by omega
  have hin : i ≤ n := by omega
  have htn : ((i : Int) + (m : Int)).toNat = i + m := by omega
  have hb2 : ¬ (c = i + m) := by omega
  have hb3 : (i : Int) ≤ (n : Int) + (m : Int) := by omega
  have hb4 : ¬ (c = i) := by omega
  have hcp1 : ∀ ty dc sc, (Builtin.copy_ #[30, 30] ty #[.slice (some ⟨b, off + (i + m) * 6, none⟩) (n + m - (i + m)) dc, .slice (some ⟨b, off + i * 6, none⟩) (n + m - i) sc]).run Tryd.prog w.drew = .ok (goInt (Nat.min (n + m - i) (n + m - (i + m)))) (w.drew.setCells b (off + (i + m) * 6) (cs.drop (i * 6))) := fun ty dc sc =>
    run_copy_cellsN w.drew _ _ ty 32 6 b (off + (i + m) * 6) (n + m - (i + m)) dc ⟨b, off + i * 6, none⟩ (n + m - i) sc (cs.drop (i * 6)) Tryd.underlying30 hsz (by rw [hdl]; simp only [Nat.min_def]; split <;> omega)
      (fun j v hj => by rw [Addr.add_lit, Nat.add_assoc]; exact hcs (i * 6 + j) v (by rwa [List.getElem?_drop] at hj))
      (fun j hj => by rw [Nat.add_assoc]; exact hsp _ (by omega)) (fun j hj => by rw [Nat.add_assoc]; exact hfz _ (by omega)) (fun v hv => h1c v (List.mem_of_mem_drop hv))
  obtain ⟨W1, hW1⟩ : ∃ W1, W1 = w.drew.setCells b (off + (i + m) * 6) (cs.drop (i * 6)) := ⟨_, rfl⟩
  have hsp1 : ∀ k, k < (n + m) * 6 → (W1.cell? ⟨b, off + k, none⟩).isSome = true := fun k hk => by
    rw [hW1]
    exact isSome_setCells b _ _ _ (fun j hj => by rw [Nat.add_assoc]; exact hsp _ (by omega)) _ (hsp k hk)
  have hcp2 : ∀ (W : World), (∀ x, W.cell? x = W1.cell? x) → (∀ x, W.frozen? x = W1.frozen? x) → ∀ ty dc, (Builtin.copy_ #[30, 30] ty #[.slice (some ⟨b, off + i * 6, none⟩) (n + m - i) dc, .slice (some ⟨vb, voff, none⟩) m vc]).run Tryd.prog W = .ok (goInt (Nat.min m (n + m - i))) (W.setCells b (off + i * 6) vs) := fun W hWc hWf ty dc =>
    run_copy_cellsN W _ _ ty 32 6 b (off + i * 6) (n + m - i) dc ⟨vb, voff, none⟩ m vc vs Tryd.underlying30 hsz (by rw [hvl]; simp only [Nat.min_def]; split <;> omega)
      (fun j v hj => by
        rw [Addr.add_lit, hWc, hW1, World.cell?_setCells_out b _ _ _ _ (fun h _ => absurd h hvb)]
        exact hvs j v hj)
      (fun j hj => by rw [hWc, Nat.add_assoc]; exact hsp1 _ (by omega)) (fun j hj => by rw [hWf, hW1, World.frozen?_setCells, Nat.add_assoc]; exact hfz _ (by omega)) h1v
  rw [← hW1] at hcp1
  go_enter Tryd.func62, Tryd.ntmps62
  go_wp2_with (simp only [hov])
  go_region_law_o (refine step_copy_runI rfl _ _ 30 30 rfl _ _ (by simp [Act.eval, Act.put]) (by simp [Act.eval, Act.put]) (hcp1 _ _ _) ?_)
  go_wp2_with (at_builtin; refine wpList_copy_runI _ rfl _ _ 30 30 rfl _ _ rfl rfl (hcp2 _ (fun _ => rfl) (fun _ => rfl) _ _) ?_)
  go_ret
  first | exact ⟨rfl, rfl⟩ | exact ⟨rfl, by rw [hW1]⟩
set_option maxHeartbeats 4000000 in
set_option maxRecDepth 100000 in
theorem insV_end_room (b off n c vb voff m vc : Nat) (vs : List Value) (w : World) (hm : 0 < m) (hroom : n + m ≤ c) (hc63 : c ≤ 9223372036854775807)
    (hvl : vs.length = m * 6) (hsp : ∀ j, j < m * 6 → (w.cell? ⟨b, off + n * 6 + j, none⟩).isSome = true) (hfz : ∀ j, j < m * 6 → w.frozen? ⟨b, off + n * 6 + j, none⟩ = false)
    (hvs : ∀ j v, vs[j]? = some v → w.cell? ⟨vb, voff + j, none⟩ = some v) (h1v : ∀ v ∈ vs, v.oneCell' = true) :
    Calls Tryd.prog 62 #[.slice (some ⟨b, off, none⟩) n c, .int .i64 n, .slice (some ⟨vb, voff, none⟩) m vc] w fun e w' =>
      e = .returned (.slice (some ⟨b, off, none⟩) (n + m) c) ∧ w' = w.setCells b (off + n * 6) vs := by
  have mixed : Tryd.prog.follows .mixedOrders = true := by kernel_rfl
  obtain ⟨i0, hi0, hz0, hzs, hzb⟩ := insV_info
  have hz1 : ¬ ((m : Int) = 0) := by omega
  have hsrc : Src Tryd.prog i0.size 30 (.slice (some ⟨vb, voff, none⟩) m vc) m vs w := by
    rw [hzs]
    exact Src.ofSlice w Tryd.underlying30 ⟨vb, voff, none⟩ m vc vs (by omega) (fun j u hj => by rw [Addr.add_lit]; exact hvs j u hj) h1v
  have hrun : ∀ ty, (Builtin.append_ #[30, 30] ty #[.slice (some ⟨b, off, none⟩) n c, .slice (some ⟨vb, voff, none⟩) m vc]).run Tryd.prog w = .ok (.slice (some ⟨b, off, none⟩) (n + m) c) (w.setCells b (off + n * 6) vs) := fun ty => by
    have := run_append_room_src w 30 30 ty 32 i0 Tryd.underlying30 hi0 b off n c _ m vs hsrc hroom (by simp only [hzs, hvl, Nat.mul_one]; exact hsp) (by simp only [hzs, hvl, Nat.mul_one]; exact hfz)
    simp only [hzs, Nat.mul_one] at this
    exact this
  go_enter Tryd.func62, Tryd.ntmps62
  go_wp2_with (at_builtin; refine Lib.wpList_append_run _ rfl _ _ _ _ rfl _ _ rfl rfl _ _ (hrun _) ?_)
  go_ret
  exact ⟨rfl, rfl⟩
set_option maxHeartbeats 4000000 in
set_option maxRecDepth 100000 in
theorem insV_end_grow (base : Option Addr) (n c vb voff m vc : Nat) (cs vs : List Value) (w : World) (hm : 0 < m) (hnc : n ≤ c) (hroom : c < n + m) (hbig : (n + m) * 88 ≤ 140737488355328)
    (hcl : cs.length = n * 6) (hvl : vs.length = m * 6) (hnil : base = none → n = 0)
    (hcs : ∀ a, base = some a → ∀ j v, cs[j]? = some v → w.cell? (a.add j) = some v)
    (hvs : ∀ j v, vs[j]? = some v → w.cell? ⟨vb, voff + j, none⟩ = some v) (h1v : ∀ v ∈ vs, v.oneCell' = true) :
    Calls Tryd.prog 62 #[.slice base n c, .int .i64 n, .slice (some ⟨vb, voff, none⟩) m vc] w fun e w' =>
      e = .returned (.slice (some ⟨w.heap.size, 0, none⟩) (n + m) (grownCap w (n + m) c 32)) ∧
      w' = w.drew.alloc (.cells ((cs ++ vs).toArray ++ Builtin.zeroCells (.agg #[.int .i64 0, .bool false, .int .i64 0, .string ⟨#[]⟩, .slice none 0 0, .slice none 0 0] : Value).cells (grownCap w (n + m) c 32 - (n + m))) 32) := by
  have mixed : Tryd.prog.follows .mixedOrders = true := by kernel_rfl
  obtain ⟨i0, hi0, hz0, hzs, hzb⟩ := insV_info
  have hz1 : ¬ ((m : Int) = 0) := by omega
  have hsrc : Src Tryd.prog i0.size 30 (.slice (some ⟨vb, voff, none⟩) m vc) m vs w := by
    rw [hzs]
    exact Src.ofSlice w Tryd.underlying30 ⟨vb, voff, none⟩ m vc vs (by omega) (fun j u hj => by rw [Addr.add_lit]; exact hvs j u hj) h1v
  have hold : (Builtin.firstCells i0.size n (.slice base n c)).run Tryd.prog w.drew = .ok cs.toArray w.drew := by
    rw [hzs]
    cases base with
    | none =>
      have h0 := hnil rfl
      subst h0
      have hc0 : cs = [] := List.length_eq_zero_iff.1 (by omega)
      rw [hc0]
      exact run_firstCells_none w.drew 6 0 0 c
    | some a => exact run_firstCells_some w.drew 6 n a n c cs (by omega) (fun j v hj => hcs a rfl j v hj)
  have hrun : ∀ ty, (Builtin.append_ #[30, 30] ty #[.slice base n c, .slice (some ⟨vb, voff, none⟩) m vc]).run Tryd.prog w = _ := fun ty =>
    run_append_grow_src w 30 30 ty 32 i0 _ Tryd.underlying30 hi0 hz0 base n c cs hold _ m vs hsrc hroom (by omega) (by rw [hzb]; exact growslice_fits hroom hbig)
  go_enter Tryd.func62, Tryd.ntmps62
  cases base with
  | none =>
    have h0 := hnil rfl
    subst h0
    go_wp2_with (at_builtin; refine Lib.wpList_append_run _ rfl _ _ _ _ rfl _ _ rfl rfl _ _ (hrun _) ?_)
    go_ret
    exact ⟨rfl, rfl⟩
  | some a =>
    obtain ⟨ab, ao, asp⟩ := a
    go_wp2_with (at_builtin; refine Lib.wpList_append_run _ rfl _ _ _ _ rfl _ _ rfl rfl _ _ (hrun _) ?_)
    all_goals (go_ret; exact ⟨rfl, rfl⟩)
set_option maxHeartbeats 4000000 in
set_option maxRecDepth 100000 in
theorem insV_grow (b off n c i vb voff m vc : Nat) (cs vs : List Value) (w : World) (hi : i < n) (hm : 0 < m) (hnc : n ≤ c) (hroom : c < n + m) (hbig : (n + m) * 88 ≤ 140737488355328)
    (hcl : cs.length = n * 6) (hvl : vs.length = m * 6)
    (hcs : ∀ j v, cs[j]? = some v → w.cell? ⟨b, off + j, none⟩ = some v)
    (hvs : ∀ j v, vs[j]? = some v → w.cell? ⟨vb, voff + j, none⟩ = some v) (h1c : ∀ v ∈ cs, v.oneCell' = true) (h1v : ∀ v ∈ vs, v.oneCell' = true) :
    Calls Tryd.prog 62 #[.slice (some ⟨b, off, none⟩) n c, .int .i64 i, .slice (some ⟨vb, voff, none⟩) m vc] w fun e w' =>
      e = .returned (.slice (some ⟨w.heap.size, 0, none⟩) (n + m) (grownCap w (n + m) c 32)) ∧
      w' = (((w.alloc (.cells ((cs.take (i * 6)).toArray ++ Builtin.zeroCells (.agg #[.int .i64 0, .bool false, .int .i64 0, .string ⟨#[]⟩, .slice none 0 0, .slice none 0 0] : Value).cells (n + m - i) ++ Builtin.zeroCells (.agg #[.int .i64 0, .bool false, .int .i64 0, .string ⟨#[]⟩, .slice none 0 0, .slice none 0 0] : Value).cells (grownCap w (n + m) c 32 - (n + m))) 32)).drew.setCells w.heap.size (i * 6) vs).drew).setCells w.heap.size ((i + m) * 6) (cs.drop (i * 6)) := by
  have mixed : Tryd.prog.follows .mixedOrders = true := by kernel_rfl
  obtain ⟨i0, hi0, hz0, hzs, hzb⟩ := insV_info
  have hz1 : ¬ ((m : Int) = 0) := by omega
  have hz2 : ¬ ((i : Int) = (n : Int)) := by omega
  have hz3 : (c : Int) < (n : Int) + (m : Int) := by omega
  have hsz : (Tryd.prog.info? 32).map (·.size) = some 6 := by rw [hi0]; simp [hzs]
  have hbw : b < w.heap.size := block_lt_of_cell (hcs 0 _ (List.getElem?_eq_getElem (by omega)))
  have hvw : vb < w.heap.size := block_lt_of_cell (hvs 0 _ (List.getElem?_eq_getElem (by omega)))
  have hkk : (n : Int) + (m : Int) - (i : Int) = ((n + m - i : Nat) : Int) := by omega
  have hik : i + (n + m - i) = n + m := by omega
  have hold : (Builtin.firstCells i0.size i (.slice (some ⟨b, off, none⟩) i c)).run Tryd.prog w.drew = .ok (cs.take (i * 6)).toArray w.drew := by
    rw [hzs]
    exact run_firstCells_some w.drew 6 i ⟨b, off, none⟩ i c (cs.take (i * 6)) (by rw [List.length_take]; omega) (fun j v hj => by
      rw [Addr.add_lit]
      rw [List.getElem?_take] at hj
      split at hj
      · exact hcs j v hj
      · cases hj)
  have hrz : ∀ ty, (Builtin.append_ #[30, 3] ty #[.slice (some ⟨b, off, none⟩) i c, .int .i64 ((n : Int) + (m : Int) - (i : Int))]).run Tryd.prog w =
      .ok (.slice (some ⟨w.heap.size, 0, none⟩) (n + m) (grownCap w (n + m) c 32)) (w.drew.alloc (.cells ((cs.take (i * 6)).toArray ++ Builtin.zeroCells (.agg #[.int .i64 0, .bool false, .int .i64 0, .string ⟨#[]⟩, .slice none 0 0, .slice none 0 0] : Value).cells (n + m - i) ++ Builtin.zeroCells (.agg #[.int .i64 0, .bool false, .int .i64 0, .string ⟨#[]⟩, .slice none 0 0, .slice none 0 0] : Value).cells (grownCap w (n + m) c 32 - (n + m))) 32)) := fun ty => by
    have h := Lib.run_append_grow_zeros w 30 3 ty 32 i0 _ .i64 .i64 Tryd.underlying30 Tryd.underlying3 hi0 hz0 (some ⟨b, off, none⟩) i c (cs.take (i * 6)) hold (n + m - i) (by omega) (by omega) (by omega) (by omega) (by rw [hzb]; omega) (by rw [hzb, hik]; exact growslice_fits hroom hbig)
    rw [hik] at h
    rw [hkk]
    exact h
  obtain ⟨G, hG⟩ : ∃ G, G = grownCap w (n + m) c 32 := ⟨_, rfl⟩
  obtain ⟨ROW, hROW⟩ : ∃ ROW : Array Value, ROW = (cs.take (i * 6)).toArray ++ Builtin.zeroCells (.agg #[.int .i64 0, .bool false, .int .i64 0, .string ⟨#[]⟩, .slice none 0 0, .slice none 0 0] : Value).cells (n + m - i) ++ Builtin.zeroCells (.agg #[.int .i64 0, .bool false, .int .i64 0, .string ⟨#[]⟩, .slice none 0 0, .slice none 0 0] : Value).cells (G - (n + m)) := ⟨_, rfl⟩
  rw [← hG] at hrz ⊢
  rw [← hROW] at hrz ⊢
  have hRl : (n + m) * 6 ≤ ROW.size := by
    rw [hROW]
    simp [Builtin.zeroCells, Value.cells]
    omega
  obtain ⟨W1, hW1⟩ : ∃ W1, W1 = w.drew.alloc (.cells ROW 32) := ⟨_, rfl⟩
  rw [← hW1] at hrz
  have hN : ∀ j, j < (n + m) * 6 → (W1.cell? ⟨w.heap.size, j, none⟩).isSome = true := fun j hj => by
    rw [hW1, World.cell?_alloc_at (w := w.drew) ROW _ w.heap.size j rfl, Array.getElem?_eq_getElem (by omega)]; rfl
  have hNf : ∀ j, W1.frozen? ⟨w.heap.size, j, none⟩ = false := fun j => by rw [hW1]; exact World.frozen?_alloc_at (w := w.drew) ROW _ w.heap.size j rfl
  have hOb : ∀ j v, w.cell? ⟨b, j, none⟩ = some v → W1.cell? ⟨b, j, none⟩ = some v := fun j v h => by rw [hW1, World.cell?_alloc_past (w := w.drew) _ b j hbw]; exact h
  have hOv : ∀ j v, w.cell? ⟨vb, j, none⟩ = some v → W1.cell? ⟨vb, j, none⟩ = some v := fun j v h => by rw [hW1, World.cell?_alloc_past (w := w.drew) _ vb j hvw]; exact h
  have hcpA : ∀ (W : World), (∀ x, W.cell? x = W1.cell? x) → (∀ x, W.frozen? x = W1.frozen? x) → ∀ ty dc, (Builtin.copy_ #[30, 30] ty #[.slice (some ⟨w.heap.size, i * 6, none⟩) (n + m - i) dc, .slice (some ⟨vb, voff, none⟩) m vc]).run Tryd.prog W = .ok (goInt (Nat.min m (n + m - i))) (W.setCells w.heap.size (i * 6) vs) := fun W hWc hWf ty dc =>
    run_copy_cellsN W _ _ ty 32 6 w.heap.size (i * 6) (n + m - i) dc ⟨vb, voff, none⟩ m vc vs Tryd.underlying30 hsz (by rw [hvl]; simp only [Nat.min_def]; split <;> omega)
      (fun j v hj => by rw [Addr.add_lit, hWc]; exact hOv _ v (hvs j v hj))
      (fun j hj => by rw [hWc]; exact hN _ (by omega)) (fun j hj => by rw [hWf]; exact hNf _) h1v
  have hGn : n + m ≤ G := by rw [hG]; exact grownCap_ge w _ _ _
  have hG63 : G ≤ 9223372036854775807 := by
    have := grownCap_le_maxLen w (n + m) c 32 (by unfold maxLen; omega)
    rw [← hG] at this
    unfold maxLen at this
    omega
  have hGi : ¬ (G = i) := by omega
  have hGim : ¬ (G = i + m) := by omega
  have hci : ¬ (c = i) := by omega
  have hbN : b ≠ w.heap.size := by omega
  have hdl : (cs.drop (i * 6)).length = (n - i) * 6 := by have := List.length_drop (i := i * 6) (l := cs); omega
  have hcpB : ∀ (W : World), (∀ x, W.cell? x = (W1.setCells w.heap.size (i * 6) vs).cell? x) → (∀ x, W.frozen? x = (W1.setCells w.heap.size (i * 6) vs).frozen? x) → ∀ ty dc sc, (Builtin.copy_ #[30, 30] ty #[.slice (some ⟨w.heap.size, (i + m) * 6, none⟩) (n + m - (i + m)) dc, .slice (some ⟨b, off + i * 6, none⟩) (n - i) sc]).run Tryd.prog W = .ok (goInt (Nat.min (n - i) (n + m - (i + m)))) (W.setCells w.heap.size ((i + m) * 6) (cs.drop (i * 6))) := fun W hWc hWf ty dc sc =>
    run_copy_cellsN W _ _ ty 32 6 w.heap.size ((i + m) * 6) (n + m - (i + m)) dc ⟨b, off + i * 6, none⟩ (n - i) sc (cs.drop (i * 6)) Tryd.underlying30 hsz (by rw [hdl]; simp only [Nat.min_def]; split <;> omega)
      (fun j v hj => by
        rw [Addr.add_lit, hWc, World.cell?_setCells_out _ _ _ _ _ (fun h _ => absurd h hbN), Nat.add_assoc]
        exact hOb _ v (hcs (i * 6 + j) v (by rwa [List.getElem?_drop] at hj)))
      (fun j hj => by rw [hWc]; exact isSome_setCells _ _ _ _ (fun t ht => hN _ (by omega)) _ (hN _ (by omega)))
      (fun j hj => by rw [hWf, World.frozen?_setCells]; exact hNf _) (fun v hv => h1c v (List.mem_of_mem_drop hv))
  subst hW1
  have hE1 : ∀ x, ((w.alloc (.cells ROW 32)).drew).cell? x = (w.drew.alloc (.cells ROW 32)).cell? x := fun x => rfl
  have hE2 : ∀ x, ((w.alloc (.cells ROW 32)).drew).frozen? x = (w.drew.alloc (.cells ROW 32)).frozen? x := fun x => rfl
  have hF1 : ∀ x, (((w.alloc (.cells ROW 32)).drew.setCells w.heap.size (i * 6) vs).drew).cell? x = ((w.drew.alloc (.cells ROW 32)).setCells w.heap.size (i * 6) vs).cell? x := fun x => rfl
  have hF2 : ∀ x, (((w.alloc (.cells ROW 32)).drew.setCells w.heap.size (i * 6) vs).drew).frozen? x = ((w.drew.alloc (.cells ROW 32)).setCells w.heap.size (i * 6) vs).frozen? x := fun x => rfl
  have hw1 : IntKind.i64.wrap ((i : Int) + (m : Int)) = (i : Int) + (m : Int) := by rw [IntKind.wrap_i64]; omega
  have hb1 : (0 : Int) ≤ (i : Int) + (m : Int) := by omega
  have hin : i ≤ n := by omega
  have htn : ((i : Int) + (m : Int)).toNat = i + m := by omega
  have hb3 : (i : Int) ≤ (n : Int) := by omega
  clear hkk hik hold hROW hG hRl
  go_enter Tryd.func62, Tryd.ntmps62
  go_wp2_with (first
    | (at_builtin; refine Lib.wpList_append_run _ rfl _ _ _ _ rfl _ _ rfl rfl _ _ (hrz _) ?_)
    | (at_builtin; refine wpList_copy_runI _ rfl _ _ 30 30 rfl _ _ rfl rfl (hcpA _ hE1 hE2 _ _) ?_)
    | (at_builtin; refine wpList_copy_runI _ rfl _ _ 30 30 rfl _ _ rfl rfl (hcpB _ (fun _ => rfl) (fun _ => rfl) _ _ _) ?_))
  go_region_law_o (refine step_copy_runI rfl _ _ 30 30 rfl (.slice (some ⟨w.heap.size, (i + m) * 6, none⟩) (n + m - (i + m)) (G - (i + m))) (.slice (some ⟨b, off + i * 6, none⟩) (n - i) (c - i)) (by simp [Act.eval, Act.put]) (by simp [Act.eval, Act.put]) (hcpB _ hF1 hF2 3 (G - (i + m)) (c - i)) ?_)
  go_wp2
  go_ret
  exact ⟨rfl, rfl⟩
end Go.Proofs.YtahgjolokkfhjaaDoor

end
section
/-
  slices.Insert of one element, out of its four roads: where the new row lies, what it holds, and that no other block has turned.
-/
open Go Go.Proofs Go.RowKit Go.Lib Go.Pw
namespace Go.Proofs.YtahgjolokkfhjaaDoor
set_option maxRecDepth 4000
set_option linter.unusedVariables false
set_option linter.unusedSimpArgs false
def setL : Nat → List Value → Array Value → Array Value
  | _, [], us => us
  | o, v :: r, us => setL (o + 1) r (us.setIfInBounds o v)
theorem setL_size : ∀ (vs : List Value) (o : Nat) (us : Array Value), (setL o vs us).size = us.size
  | [], _, _ => rfl
  | v :: r, o, us => by rw [setL, setL_size r]; simp
theorem setL_out : ∀ (vs : List Value) (o : Nat) (us : Array Value) (j : Nat), (j < o ∨ o + vs.length ≤ j) → (setL o vs us)[j]? = us[j]?
  | [], _, _, _, _ => rfl
  | v :: r, o, us, j, h => by
    rw [setL, setL_out r (o + 1) _ j (by simp at h; omega), Array.getElem?_setIfInBounds_ne (by simp at h; omega)]
theorem setL_in : ∀ (vs : List Value) (o : Nat) (us : Array Value) (j : Nat), j < vs.length → o + j < us.size → (setL o vs us)[o + j]? = vs[j]?
  | [], _, _, j, h, _ => by simp at h
  | v :: r, o, us, 0, h, h' => by
    rw [setL, setL_out r (o + 1) _ _ (by omega)]
    simp at h' ⊢
    simp [h']
  | v :: r, o, us, j + 1, h, h' => by
    have := setL_in r (o + 1) (us.setIfInBounds o v) j (by simp at h; omega) (by simp; omega)
    rw [setL, show o + (j + 1) = o + 1 + j by omega, this]
    rfl
theorem setL_one {vs : List Value} (hv : ∀ v ∈ vs, v.oneCell' = true) : ∀ (o : Nat) (us : Array Value), (∀ (j : Nat) (u : Value), us[j]? = some u → u.oneCell' = true) → ∀ (j : Nat) (u : Value), (setL o vs us)[j]? = some u → u.oneCell' = true := by
  induction vs with
  | nil => exact fun o us h => h
  | cons v r ih =>
    intro o us h
    rw [setL]
    refine ih (fun x hx => hv x (by simp [hx])) (o + 1) _ (fun j u hu => ?_)
    by_cases e : o = j
    · subst e
      by_cases hl : o < us.size
      · rw [Array.getElem?_setIfInBounds_self_of_lt hl] at hu
        obtain rfl := Option.some.inj hu
        exact hv _ (by simp)
      · rw [Array.getElem?_eq_none (by simpa using hl)] at hu; cases hu
    · rw [Array.getElem?_setIfInBounds_ne e] at hu
      exact h j u hu
theorem heap_setCells {b : Nat} {E : TypeId} {f : Nat × Nat} : ∀ (vs : List Value) (o : Nat) (w : World) (us : Array Value), w.heap[b]? = some (.cells us E f) → (w.setCells b o vs).heap[b]? = some (.cells (setL o vs us) E f)
  | [], _, _, _, h => h
  | v :: r, o, w, us, h => by
    rw [World.setCells, setL]
    refine heap_setCells r (o + 1) _ _ ?_
    unfold World.setCell
    simp [Array.getElem?_modify, h]
theorem size_setCells_ {b : Nat} : ∀ (vs : List Value) (o : Nat) (w : World), (w.setCells b o vs).heap.size = w.heap.size
  | [], _, _ => rfl
  | v :: r, o, w => by rw [World.setCells, size_setCells_ r]; simp [World.setCell]
theorem other_setCells_ {b k : Nat} (h : k ≠ b) : ∀ (vs : List Value) (o : Nat) (w : World), (w.setCells b o vs).heap[k]? = w.heap[k]?
  | [], _, _ => rfl
  | v :: r, o, w => by
    rw [World.setCells, other_setCells_ h r]
    simp [World.setCell, Array.getElem?_modify, Ne.symm h]
theorem rest_setCells_ {b : Nat} : ∀ (vs : List Value) (o : Nat) (w : World), (w.setCells b o vs).os = w.os ∧ (w.setCells b o vs).tape = w.tape ∧ (w.setCells b o vs).output = w.output
  | [], _, _ => ⟨rfl, rfl, rfl⟩
  | v :: r, o, w => rest_setCells_ r (o + 1) (w.setCell ⟨b, o, none⟩ v)

/-- The four roads, at one element. -/
structure Roads (P : Program) (F : FuncId) (E : TypeId) (sz by_ : Nat) (z : Value) : Prop where
  shift : ∀ (b n c i vb vc : Nat) (cs vs : List Value) (w : World), i < n → n + 1 ≤ c → c ≤ 9223372036854775807 → vb ≠ b → cs.length = n * sz → vs.length = sz →
    (∀ j v, cs[j]? = some v → w.cell? ⟨b, 0 + j, none⟩ = some v) → (∀ j, j < (n + 1) * sz → (w.cell? ⟨b, 0 + j, none⟩).isSome = true) → (∀ j, j < (n + 1) * sz → w.frozen? ⟨b, 0 + j, none⟩ = false) →
    (∀ j v, vs[j]? = some v → w.cell? ⟨vb, 0 + j, none⟩ = some v) → (∀ v ∈ cs, v.oneCell' = true) → (∀ v ∈ vs, v.oneCell' = true) →
    ∀ (tA tB : TypeId) (kA kB : Nat), w.shape? vb = some (tA, kA) → w.shape? b = some (tB, kB) → kB ≠ 0 → w.frozen? ⟨vb, 0, none⟩ = false → w.frozen? ⟨vb, kA, none⟩ = false →
    Calls P F #[.slice (some ⟨b, 0, none⟩) n c, .int .i64 i, .slice (some ⟨vb, 0, none⟩) 1 vc] w fun e w' =>
      e = .returned (.slice (some ⟨b, 0, none⟩) (n + 1) c) ∧ w' = (w.drew.setCells b (0 + (i + 1) * sz) (cs.drop (i * sz))).setCells b (0 + i * sz) vs
  end_room : ∀ (b n c vb vc : Nat) (vs : List Value) (w : World), n + 1 ≤ c → c ≤ 9223372036854775807 → vs.length = sz → (∀ j, j < sz → (w.cell? ⟨b, 0 + n * sz + j, none⟩).isSome = true) → (∀ j, j < sz → w.frozen? ⟨b, 0 + n * sz + j, none⟩ = false) →
    (∀ j v, vs[j]? = some v → w.cell? ⟨vb, 0 + j, none⟩ = some v) → (∀ v ∈ vs, v.oneCell' = true) →
    Calls P F #[.slice (some ⟨b, 0, none⟩) n c, .int .i64 n, .slice (some ⟨vb, 0, none⟩) 1 vc] w fun e w' =>
      e = .returned (.slice (some ⟨b, 0, none⟩) (n + 1) c) ∧ w' = w.setCells b (0 + n * sz) vs
  end_grow : ∀ (base : Option Addr) (n c vb vc : Nat) (cs vs : List Value) (w : World), n ≤ c → c < n + 1 → (n + 1) * by_ ≤ 140737488355328 → cs.length = n * sz → vs.length = sz → (base = none → n = 0) →
    (∀ a, base = some a → ∀ j v, cs[j]? = some v → w.cell? (a.add j) = some v) → (∀ j v, vs[j]? = some v → w.cell? ⟨vb, 0 + j, none⟩ = some v) → (∀ v ∈ vs, v.oneCell' = true) →
    Calls P F #[.slice base n c, .int .i64 n, .slice (some ⟨vb, 0, none⟩) 1 vc] w fun e w' =>
      e = .returned (.slice (some ⟨w.heap.size, 0, none⟩) (n + 1) (grownCap w (n + 1) c E)) ∧
      w' = w.drew.alloc (.cells ((cs ++ vs).toArray ++ Builtin.zeroCells z.cells (grownCap w (n + 1) c E - (n + 1))) E)
  grow : ∀ (b n c i vb vc : Nat) (cs vs : List Value) (w : World), i < n → n ≤ c → c < n + 1 → (n + 1) * by_ ≤ 140737488355328 → cs.length = n * sz → vs.length = sz →
    (∀ j v, cs[j]? = some v → w.cell? ⟨b, 0 + j, none⟩ = some v) → (∀ j v, vs[j]? = some v → w.cell? ⟨vb, 0 + j, none⟩ = some v) → (∀ v ∈ cs, v.oneCell' = true) → (∀ v ∈ vs, v.oneCell' = true) →
    Calls P F #[.slice (some ⟨b, 0, none⟩) n c, .int .i64 i, .slice (some ⟨vb, 0, none⟩) 1 vc] w fun e w' =>
      e = .returned (.slice (some ⟨w.heap.size, 0, none⟩) (n + 1) (grownCap w (n + 1) c E)) ∧
      w' = (((w.alloc (.cells ((cs.take (i * sz)).toArray ++ Builtin.zeroCells z.cells (n + 1 - i) ++ Builtin.zeroCells z.cells (grownCap w (n + 1) c E - (n + 1))) E)).drew.setCells w.heap.size (i * sz) vs).drew).setCells w.heap.size ((i + 1) * sz) (cs.drop (i * sz))
theorem insS_roads : Roads Tryd.prog 61 9 1 16 (.string ⟨#[]⟩) := by
  refine ⟨fun b n c i vb vc cs vs w h1 h2 h3 h4 h5 h6 h7 h8 h9 h10 h11 h12 tA tB kA kB h13 h14 h15 h16 h17 => ?_, fun b n c vb vc vs w h1 h2 h3 h4 h5 h6 h7 => ?_, fun base n c vb vc cs vs w h1 h2 h3 h4 h5 h6 h7 h8 h9 => ?_, fun b n c i vb vc cs vs w h1 h2 h3 h4 h5 h6 h7 h8 h9 h10 => ?_⟩ <;> (try simp only [Nat.mul_one] at *)
  · exact insS_shift b 0 n c i vb 0 1 vc cs vs w h1 (by omega) h2 h3 h4 h5 h6 h7 h8 h9 h10 h11 h12 tA tB kA kB h13 h14 h15 h16 h17
  · exact insS_end_room b 0 n c vb 0 1 vc vs w (by omega) h1 h2 h3 h4 h5 h6 h7
  · exact insS_end_grow base n c vb 0 1 vc cs vs w (by omega) h1 h2 (by omega) h4 h5 h6 h7 h8 h9
  · exact insS_grow b 0 n c i vb 0 1 vc cs vs w h1 (by omega) h2 h3 (by omega) h5 h6 h7 h8 h9 h10
theorem insV_roads : Roads Tryd.prog 62 32 6 88 (.agg #[.int .i64 0, .bool false, .int .i64 0, .string ⟨#[]⟩, .slice none 0 0, .slice none 0 0]) := by
  refine ⟨fun b n c i vb vc cs vs w h1 h2 h3 h4 h5 h6 h7 h8 h9 h10 h11 h12 tA tB kA kB h13 h14 h15 h16 h17 => ?_, fun b n c vb vc vs w h1 h2 h3 h4 h5 h6 h7 => ?_, fun base n c vb vc cs vs w h1 h2 h3 h4 h5 h6 h7 h8 h9 => ?_, fun b n c i vb vc cs vs w h1 h2 h3 h4 h5 h6 h7 h8 h9 h10 => ?_⟩
  · exact insV_shift b 0 n c i vb 0 1 vc cs vs w h1 (by omega) h2 h3 h4 h5 (by omega) h7 h8 h9 h10 h11 h12 tA tB kA kB h13 h14 h15 h16 h17
  · exact insV_end_room b 0 n c vb 0 1 vc vs w (by omega) h1 h2 (by omega) h4 h5 h6 h7
  · exact insV_end_grow base n c vb 0 1 vc cs vs w (by omega) h1 h2 (by omega) h4 (by omega) h6 h7 h8 h9
  · exact insV_grow b 0 n c i vb 0 1 vc cs vs w h1 (by omega) h2 h3 (by omega) h5 (by omega) h7 h8 h9 h10

/-- What Insert leaves. -/
structure InsDid (E : TypeId) (sz : Nat) (w : World) (base : Option Nat) (n i : Nat) (us uv : Array Value) (b' c' : Nat) (us' : Array Value) (w' : World) : Prop where
  room : n + 1 ≤ c'
  small : c' ≤ maxLen
  row : w'.heap[b']? = some (.cells us' E (0, 0))
  size : us'.size = c' * sz
  front : ∀ j, j < i * sz → us'[j]? = us[j]?
  mid : ∀ j, j < sz → us'[i * sz + j]? = uv[j]?
  back : ∀ j, i * sz ≤ j → j < n * sz → us'[j + sz]? = us[j]?
  one : ∀ (j : Nat) (u : Value), us'[j]? = some u → u.oneCell' = true
  place : base = some b' ∨ b' = w.heap.size
  os : w'.os = w.os
  tape : w'.tape = w.tape
  output : w'.output = w.output
  grew : w.heap.size ≤ w'.heap.size
  other : ∀ k, k < w.heap.size → base ≠ some k → w'.heap[k]? = w.heap[k]?
theorem zero_one {z : Value} (hz : ∀ u ∈ z.cells.toList, u.oneCell' = true) (n : Nat) : ∀ (j : Nat) (u : Value), (Builtin.zeroCells z.cells n)[j]? = some u → u.oneCell' = true := by
  intro j u h
  have hm : u ∈ (Builtin.zeroCells z.cells n) := Array.mem_of_getElem? h
  unfold Builtin.zeroCells at hm
  obtain ⟨i, hi, rfl⟩ := Array.mem_map.1 hm
  have hi : i < n * z.cells.size := Array.mem_range.1 hi
  have hp : 0 < z.cells.size := by
    rcases Nat.eq_zero_or_pos z.cells.size with h | h
    · rw [h] at hi; simp at hi
    · exact h
  have hl : i % z.cells.size < z.cells.size := Nat.mod_lt _ hp
  rw [getElem!_pos z.cells _ hl]
  exact hz _ (by simp)
theorem zero_size {z : Value} {sz : Nat} (hz : z.cells.size = sz) (n : Nat) : (Builtin.zeroCells z.cells n).size = n * sz := by
  unfold Builtin.zeroCells
  simp [hz]
set_option maxHeartbeats 1000000 in
theorem Roads.ins {P : Program} {F : FuncId} {E : TypeId} {sz by_ : Nat} {z : Value} (R : Roads P F E sz by_ z) (hzs : z.cells.size = sz) (hz1 : ∀ u ∈ z.cells.toList, u.oneCell' = true) (hsz : 0 < sz) (w : World) (base : Option Nat) (n c i vb vc : Nat) (us uv : Array Value)
    (hi : i ≤ n) (hn : n ≤ c) (hc : c ≤ maxLen) (hbig : (n + 1) * by_ ≤ 140737488355328) (hn63 : n + 1 ≤ maxLen) (hus : us.size = c * sz) (hnone : base = none → c = 0) (hb : ∀ b, base = some b → w.heap[b]? = some (.cells us E (0, 0)) ∧ vb ≠ b)
    (h1 : ∀ (j : Nat) (u : Value), us[j]? = some u → u.oneCell' = true) (hv : 1 ≤ vc) (hvb : w.heap[vb]? = some (.cells uv E (0, 0))) (hvs : uv.size = vc * sz) (hv1 : ∀ (j : Nat) (u : Value), j < sz → uv[j]? = some u → u.oneCell' = true) :
    Calls P F #[.slice (base.map fun b => ⟨b, 0, none⟩) n c, .int .i64 i, .slice (some ⟨vb, 0, none⟩) 1 vc] w fun e w' => ∃ b' c' us', e = .returned (.slice (some ⟨b', 0, none⟩) (n + 1) c') ∧ InsDid E sz w base n i us uv b' c' us' w' := by
  have hsv : sz ≤ uv.size := by rw [hvs]; exact Nat.le_mul_of_pos_left sz hv
  have hnz : n * sz ≤ us.size := by rw [hus]; exact Nat.mul_le_mul_right _ hn
  have hiz : i * sz ≤ n * sz := Nat.mul_le_mul_right _ hi
  have hn1 : (n + 1) * sz = n * sz + sz := Nat.succ_mul _ _
  have hi1 : (i + 1) * sz = i * sz + sz := Nat.succ_mul _ _
  have hcl : (us.toList.take (n * sz)).length = n * sz := by rw [List.length_take]; simp; omega
  have hvl : (uv.toList.take sz).length = sz := by rw [List.length_take]; simp; omega
  have hcget : ∀ j v, (us.toList.take (n * sz))[j]? = some v → us[j]? = some v := fun j v h => by
    rw [List.getElem?_take] at h
    split at h
    · simpa using h
    · cases h
  have hvget : ∀ j v, (uv.toList.take sz)[j]? = some v → uv[j]? = some v := fun j v h => by
    rw [List.getElem?_take] at h
    split at h
    · simpa using h
    · cases h
  have hcone : ∀ v ∈ us.toList.take (n * sz), v.oneCell' = true := fun v hv => by
    obtain ⟨j, hj⟩ := List.mem_iff_getElem?.1 hv
    exact h1 j v (hcget j v hj)
  have hvone : ∀ v ∈ uv.toList.take sz, v.oneCell' = true := fun v hv => by
    obtain ⟨j, hj⟩ := List.mem_iff_getElem?.1 hv
    exact hv1 j v (by have := (List.getElem?_eq_some_iff.1 hj).1; rw [hvl] at this; exact this) (hvget j v hj)
  have hvcell : ∀ j v, (uv.toList.take sz)[j]? = some v → w.cell? ⟨vb, 0 + j, none⟩ = some v := fun j v h => by
    rw [Nat.zero_add, Lib.cell_of_heap hvb]; exact hvget j v h
  have hvbl : vb < w.heap.size := (Array.getElem?_eq_some_iff.1 hvb).1
  have hmax : maxLen = 9223372036854775807 := rfl
  have hget : ∀ j, j < sz → (uv.toList.take sz)[j]? = uv[j]? := fun j hj => by rw [List.getElem?_take, if_pos hj]; simp
  cases base with
  | none =>
    have hc0 := hnone rfl
    subst hc0
    have hn0 : n = 0 := by omega
    subst hn0
    have hi0 : i = 0 := by omega
    subst hi0
    refine (R.end_grow none 0 0 vb vc (us.toList.take (0 * sz)) (uv.toList.take sz) w (Nat.le_refl _) (by omega) hbig hcl hvl (fun _ => rfl) (fun a ha => by cases ha) hvcell hvone).mono ?_
    rintro e w' ⟨rfl, rfl⟩
    have hg := grownCap_ge w (0 + 1) 0 E
    have hgm := grownCap_le_maxLen w (0 + 1) 0 E (by omega)
    refine ⟨w.heap.size, _, _, rfl, hg, hgm, heap_alloc_at (w := w.drew) _, ?_, fun j hj => by omega, fun j hj => ?_, fun j _ hj => by omega, fun j u hu => ?_, .inr rfl, rfl, rfl, rfl, (by show w.heap.size ≤ (w.heap.push _).size; simp), fun k hk _ => ?_⟩
    · simp only [Array.size_append, List.size_toArray, List.length_append, hcl, hvl, zero_size hzs]
      rw [← hn1, ← Nat.add_mul]
      congr 1
      omega
    · rw [Array.getElem?_append_left (by simp [hcl, hvl]; omega), ← hget j hj]
      simp
    · rw [Array.getElem?_append] at hu
      split at hu
      · have : u ∈ us.toList.take (0 * sz) ++ uv.toList.take sz := List.mem_of_getElem? (by simpa using hu)
        rcases List.mem_append.1 this with h | h
        · exact hcone u h
        · exact hvone u h
      · exact zero_one hz1 _ _ u hu
    · show (w.heap.push _)[k]? = _
      rw [Array.getElem?_push, if_neg (by omega)]
  | some b =>
    obtain ⟨hbw, hne⟩ := hb b rfl
    have hbl : b < w.heap.size := (Array.getElem?_eq_some_iff.1 hbw).1
    have hccell : ∀ j v, (us.toList.take (n * sz))[j]? = some v → w.cell? ⟨b, 0 + j, none⟩ = some v := fun j v h => by
      rw [Nat.zero_add, Lib.cell_of_heap hbw]; exact hcget j v h
    have hsome : ∀ j, j < us.size → (w.cell? ⟨b, j, none⟩).isSome = true := fun j hj => by
      rw [Lib.cell_of_heap hbw, Array.getElem?_eq_getElem hj]; rfl
    have hfz : ∀ j, w.frozen? ⟨b, j, none⟩ = false := fun j => by simp [World.frozen?, hbw]
    have hfv : ∀ j, w.frozen? ⟨vb, j, none⟩ = false := fun j => by simp [World.frozen?, hvb]
    by_cases hroom : n + 1 ≤ c
    · have hrz : (n + 1) * sz ≤ us.size := by rw [hus]; exact Nat.mul_le_mul_right _ hroom
      by_cases hin : i < n
      · refine (R.shift b n c i vb vc (us.toList.take (n * sz)) (uv.toList.take sz) w hin hroom (by omega) hne hcl hvl hccell (fun j hj => by rw [Nat.zero_add]; exact hsome j (by omega)) (fun j _ => hfz _) hvcell hcone hvone E E uv.size us.size
          (by simp [World.shape?, hvb]) (by simp [World.shape?, hbw]) (by omega) (hfv _) (hfv _)).mono ?_
        rintro e w' ⟨rfl, rfl⟩
        simp only [Nat.zero_add]
        have hdl : ((us.toList.take (n * sz)).drop (i * sz)).length = n * sz - i * sz := by rw [List.length_drop, hcl]
        have hw1 := heap_setCells (b := b) (E := E) (f := (0, 0)) ((us.toList.take (n * sz)).drop (i * sz)) ((i + 1) * sz) w.drew us hbw
        have hw2 := heap_setCells (uv.toList.take sz) (i * sz) _ _ hw1
        have r1 := rest_setCells_ (b := b) (uv.toList.take sz) (i * sz) (w.drew.setCells b ((i + 1) * sz) ((us.toList.take (n * sz)).drop (i * sz)))
        have r2 := rest_setCells_ (b := b) ((us.toList.take (n * sz)).drop (i * sz)) ((i + 1) * sz) w.drew
        refine ⟨b, c, _, rfl, hroom, hc, hw2, by rw [setL_size, setL_size, hus], fun j hj => ?_, fun j hj => ?_, fun j hj hj' => ?_, setL_one hvone _ _ (setL_one (fun v hv => hcone v (List.mem_of_mem_drop hv)) _ _ h1), .inl rfl, r1.1.trans r2.1, r1.2.1.trans r2.2.1, r1.2.2.trans r2.2.2, by rw [size_setCells_, size_setCells_]; exact Nat.le_refl _, fun k hk hkb => ?_⟩
        · rw [setL_out _ _ _ _ (by omega), setL_out _ _ _ _ (by omega)]
        · rw [setL_in _ _ _ _ (by omega) (by rw [setL_size]; omega), hget j hj]
        · rw [setL_out _ _ _ _ (by rw [hvl]; omega), show j + sz = (i + 1) * sz + (j - i * sz) by omega, setL_in _ _ _ _ (by omega) (by omega), List.getElem?_drop, List.getElem?_take, if_pos (by omega), show i * sz + (j - i * sz) = j by omega]
          simp
        · rw [other_setCells_ (fun e => hkb (by rw [e])), other_setCells_ (fun e => hkb (by rw [e]))]; rfl
      · have hin : i = n := by omega
        subst hin
        refine (R.end_room b i c vb vc (uv.toList.take sz) w hroom (by omega) hvl (fun j hj => by rw [Nat.zero_add]; exact hsome _ (by omega)) (fun j _ => hfz _) hvcell hvone).mono ?_
        rintro e w' ⟨rfl, rfl⟩
        simp only [Nat.zero_add]
        have hw1 := heap_setCells (b := b) (E := E) (f := (0, 0)) (uv.toList.take sz) (i * sz) w us hbw
        have r1 := rest_setCells_ (b := b) (uv.toList.take sz) (i * sz) w
        refine ⟨b, c, _, rfl, hroom, hc, hw1, by rw [setL_size, hus], fun j hj => ?_, fun j hj => ?_, fun j hj hj' => by omega, setL_one hvone _ _ h1, .inl rfl, r1.1, r1.2.1, r1.2.2, by rw [size_setCells_]; exact Nat.le_refl _, fun k hk hkb => ?_⟩
        · rw [setL_out _ _ _ _ (by omega)]
        · rw [setL_in _ _ _ _ (by omega) (by omega), hget j hj]
        · rw [other_setCells_ (fun e => hkb (by rw [e]))]
    · have hg := grownCap_ge w (n + 1) c E
      have hgm := grownCap_le_maxLen w (n + 1) c E (by omega)
      by_cases hin : i < n
      · refine (R.grow b n c i vb vc (us.toList.take (n * sz)) (uv.toList.take sz) w hin hn (by omega) hbig hcl hvl hccell hvcell hcone hvone).mono ?_
        rintro e w' ⟨rfl, rfl⟩
        have hdl : ((us.toList.take (n * sz)).drop (i * sz)).length = n * sz - i * sz := by rw [List.length_drop, hcl]
        have htl : ((us.toList.take (n * sz)).take (i * sz)).length = i * sz := by rw [List.length_take, hcl]; omega
        have h0 : ∀ (o : Array Value), (w.alloc (.cells o E)).drew.heap[w.heap.size]? = some (.cells o E (0, 0)) := fun o => heap_alloc_at (w := w) _
        have hw1 := heap_setCells (uv.toList.take sz) (i * sz) _ _ (h0 (((us.toList.take (n * sz)).take (i * sz)).toArray ++ Builtin.zeroCells z.cells (n + 1 - i) ++ Builtin.zeroCells z.cells (grownCap w (n + 1) c E - (n + 1))))
        have hw2 := heap_setCells ((us.toList.take (n * sz)).drop (i * sz)) ((i + 1) * sz) (World.drew _) _ hw1
        have hrs : (((us.toList.take (n * sz)).take (i * sz)).toArray ++ Builtin.zeroCells z.cells (n + 1 - i) ++ Builtin.zeroCells z.cells (grownCap w (n + 1) c E - (n + 1))).size = grownCap w (n + 1) c E * sz := by
          simp only [Array.size_append, List.size_toArray, htl, zero_size hzs]
          rw [← Nat.add_mul, ← Nat.add_mul]
          congr 1
          omega
        have hgz : (n + 1) * sz ≤ grownCap w (n + 1) c E * sz := Nat.mul_le_mul_right _ hg
        have hro : ∀ (j : Nat) (u : Value), (((us.toList.take (n * sz)).take (i * sz)).toArray ++ Builtin.zeroCells z.cells (n + 1 - i) ++ Builtin.zeroCells z.cells (grownCap w (n + 1) c E - (n + 1)))[j]? = some u → u.oneCell' = true := by
          intro j u hu
          rw [Array.getElem?_append] at hu
          split at hu
          · rw [Array.getElem?_append] at hu
            split at hu
            · exact hcone u (List.mem_of_mem_take (List.mem_of_getElem? (by simpa using hu)))
            · exact zero_one hz1 _ _ u hu
          · exact zero_one hz1 _ _ u hu
        have hrg : ∀ j, j < i * sz → (((us.toList.take (n * sz)).take (i * sz)).toArray ++ Builtin.zeroCells z.cells (n + 1 - i) ++ Builtin.zeroCells z.cells (grownCap w (n + 1) c E - (n + 1)))[j]? = us[j]? := by
          intro j hj
          rw [Array.getElem?_append_left (by simp only [Array.size_append, List.size_toArray, htl]; omega), Array.getElem?_append_left (by simp only [List.size_toArray, htl]; exact hj)]
          rw [List.getElem?_toArray, List.getElem?_take, if_pos hj, List.getElem?_take, if_pos (by omega)]
          simp
        generalize (((us.toList.take (n * sz)).take (i * sz)).toArray ++ Builtin.zeroCells z.cells (n + 1 - i) ++ Builtin.zeroCells z.cells (grownCap w (n + 1) c E - (n + 1))) = ROW at *
        have r1 := rest_setCells_ (b := w.heap.size) (uv.toList.take sz) (i * sz) (w.alloc (.cells ROW E)).drew
        have r2 := rest_setCells_ (b := w.heap.size) ((us.toList.take (n * sz)).drop (i * sz)) ((i + 1) * sz) (((w.alloc (.cells ROW E)).drew.setCells w.heap.size (i * sz) (uv.toList.take sz)).drew)
        refine ⟨w.heap.size, _, _, rfl, hg, hgm, hw2, by rw [setL_size, setL_size, hrs], fun j hj => ?_, fun j hj => ?_, fun j hj hj' => ?_, setL_one (fun v hv => hcone v (List.mem_of_mem_drop hv)) _ _ (setL_one hvone _ _ hro), .inr rfl, r2.1.trans r1.1, r2.2.1.trans r1.2.1, r2.2.2.trans r1.2.2, ?_, fun k hk hkb => ?_⟩
        · rw [setL_out _ _ _ _ (by omega), setL_out _ _ _ _ (by omega), hrg j hj]
        · rw [setL_out _ _ _ _ (by omega), setL_in _ _ _ _ (by omega) (by omega), hget j hj]
        · rw [show j + sz = (i + 1) * sz + (j - i * sz) by omega, setL_in _ _ _ _ (by omega) (by rw [setL_size]; omega), List.getElem?_drop, List.getElem?_take, if_pos (by omega), show i * sz + (j - i * sz) = j by omega]
          simp
        · rw [size_setCells_]
          show w.heap.size ≤ (World.setCells _ _ _ _).heap.size
          rw [size_setCells_]
          show w.heap.size ≤ (w.heap.push _).size
          simp
        · rw [other_setCells_ (by omega)]
          show (World.setCells _ _ _ _).heap[k]? = _
          rw [other_setCells_ (by omega)]
          show (w.heap.push _)[k]? = _
          rw [Array.getElem?_push, if_neg (by omega)]
      · have hin : i = n := by omega
        subst hin
        refine (R.end_grow (some ⟨b, 0, none⟩) i c vb vc (us.toList.take (i * sz)) (uv.toList.take sz) w hn (by omega) hbig hcl hvl (fun h => by cases h) (fun a ha j v hj => by
          obtain rfl := Option.some.inj ha
          rw [Addr.add_lit]; exact hccell j v hj) hvcell hvone).mono ?_
        rintro e w' ⟨rfl, rfl⟩
        refine ⟨w.heap.size, _, _, rfl, hg, hgm, heap_alloc_at (w := w.drew) _, ?_, fun j hj => ?_, fun j hj => ?_, fun j _ hj => by omega, fun j u hu => ?_, .inr rfl, rfl, rfl, rfl, (by show w.heap.size ≤ (w.heap.push _).size; simp), fun k hk _ => ?_⟩
        · simp only [Array.size_append, List.size_toArray, List.length_append, hcl, hvl, zero_size hzs]
          rw [← hn1, ← Nat.add_mul]
          congr 1
          omega
        · rw [Array.getElem?_append_left (by simp [hcl, hvl]; omega)]
          rw [List.getElem?_toArray, List.getElem?_append_left (by omega), List.getElem?_take, if_pos (by omega)]
          simp
        · rw [Array.getElem?_append_left (by simp [hcl, hvl]; omega)]
          rw [List.getElem?_toArray, List.getElem?_append_right (by omega), hcl, Nat.add_sub_cancel_left, hget j hj]
        · rw [Array.getElem?_append] at hu
          split at hu
          · have : u ∈ us.toList.take (i * sz) ++ uv.toList.take sz := List.mem_of_getElem? (by simpa using hu)
            rcases List.mem_append.1 this with h | h
            · exact hcone u h
            · exact hvone u h
          · exact zero_one hz1 _ _ u hu
        · show (w.heap.push _)[k]? = _
          rw [Array.getElem?_push, if_neg (by omega)]
end Go.Proofs.YtahgjolokkfhjaaDoor

end
section
/-
  slices.Insert of one element, as a contract over made slices.
-/
open Go Go.Proofs Go.RowKit Go.Lib Go.Pw
namespace Go.Proofs.YtahgjolokkfhjaaDoor
set_option maxRecDepth 4000
set_option linter.unusedVariables false
set_option linter.unusedSimpArgs false
/-- The first argument: nil, or what was made. -/
def insArg (base : Option Nat) (n c : Nat) : PV :=
  match base with
  | none => vNil
  | some id => .ms id 0 n c
theorem Rel.put_row {own : Nat → Prop} {S0 : Base} {w0 w w' : World} {C : Cx} {st : PS} (R : Rel own S0 w0 C (· < st.nx) (· < st.nt) st w) {E : TypeId} {sz n i b' c' : Nat} {us uv us' : Array Value} (base : Option Nat)
    (hbase : ∀ id, base = some id → ∃ t cs, lkp st.heap id = some (.box t cs)) (D : InsDid E sz w (base.map C.ρ) n i us uv b' c' us' w') (heap' : List (Nat × PObj)) (hh : ∀ j o, lkp heap' j = some o → lkp st.heap j = some o ∧ base ≠ some j)
    (cs : List PV) (hr : RepL C st.toks (· < st.nx) (· < st.nt) us'.toList cs) :
    Rel own S0 w0 (C.at st.nx b') (· < st.nx + 1) (· < st.nt) { st with heap := (st.nx, .box E cs) :: heap', nx := st.nx + 1 } w' := by
  have X := R.ext_at b' st.nx (Nat.lt_irrefl _) (U' := (· < st.nx + 1)) (fun j hj => Nat.lt_succ_of_lt hj)
  have hnew : (C.at st.nx b').ρ st.nx = b' := by simp [Cx.at]
  have hρ : ∀ j o, lkp heap' j = some o → (C.at st.nx b').ρ j = C.ρ j := fun j o h => by
    have := (R.hown j o (hh j o h).1).1
    simp only [Cx.at]
    rw [if_neg (by omega)]
  have hnewb : b' < w'.heap.size := (Array.getElem?_eq_some_iff.1 D.row).1
  -- where the new row lies: no cell that never turns, no other object, no row
  have place : (∃ id t us0, base = some id ∧ lkp st.heap id = some (.box t us0) ∧ b' = C.ρ id) ∨ b' = w.heap.size := by
    rcases D.place with h | h
    · cases hb : base with
      | none => rw [hb] at h; cases h
      | some id =>
        obtain ⟨t, cs, ho⟩ := hbase id hb
        rw [hb] at h
        exact .inl ⟨id, t, cs, rfl, ho, (Option.some.inj h).symm⟩
    · exact .inr h
  have lt : ∀ {b : Nat} {x : Obj}, w.heap[b]? = some x → b < w.heap.size := fun h => (Array.getElem?_eq_some_iff.1 h).1
  have keep : ∀ k, k < w.heap.size → (∀ id, base = some id → k ≠ C.ρ id) → w'.heap[k]? = w.heap[k]? := fun k hk hn => D.other k hk (fun e => by
    cases hb : base with
    | none => rw [hb] at e; cases e
    | some id => rw [hb] at e; exact hn id hb (Option.some.inj e).symm)
  have hfree : ∀ o, C.S b' o = none := fun o => by
    rcases place with ⟨id, t, cs, _, ho, rfl⟩ | rfl
    · exact (R.hown id _ ho).2.2.2 o
    · exact R.fresh o
  refine ⟨⟨D.os.trans R.frame.os, D.tape.trans R.frame.tape, D.output.trans R.frame.output, Nat.le_trans R.frame.size D.grew, fun k hk hn => ?_⟩, fun b o v h => ?_, ?_, ?_, ?_, ?_, ?_, ?_, R.tinj, R.snew, R.sold, R.base.trans X, R.glob⟩
  · rw [keep k (Nat.lt_of_lt_of_le hk R.frame.size) (fun id hb e => ?_)]
    · exact R.frame.block k hk hn
    · obtain ⟨t, cs, ho⟩ := hbase id hb
      rcases (R.hown id _ ho).2.2.1 with h | h
      · rw [← e] at h; exact hn h
      · omega
  · have h1 := R.stable b o v h
    have hlt : b < w.heap.size := by
      rcases Nat.lt_or_ge b w.heap.size with h' | h'
      · exact h'
      · simp [World.cell?, Array.getElem?_eq_none h'] at h1
    have hk := keep b hlt (fun id hb e => by
      obtain ⟨t, cs, ho⟩ := hbase id hb
      have h2 : C.S b o = some v := h
      have := (R.hown id _ ho).2.2.2 o
      rw [← e, h2] at this
      cases this)
    exact (World.cell?_of_block hk).trans h1
  · intro j T cs' h
    simp only [lkp_cons] at h
    split at h
    · rename_i e
      subst e
      obtain ⟨rfl, rfl⟩ := PObj.box.inj (Option.some.inj h)
      refine ⟨us', by rw [hnew]; exact D.row, by simpa using hr.1, fun k v p hv hp => ?_⟩
      have := hr.2 k v p (by simpa using hv) hp
      exact ⟨this.1, this.2.ext X⟩
    · obtain ⟨h0, hne⟩ := hh j _ h
      obtain ⟨vs, h1, h2, h3⟩ := R.box j T cs' h0
      refine ⟨vs, ?_, h2, fun i v p hv hp => ⟨(h3 i v p hv hp).1, (h3 i v p hv hp).2.ext X⟩⟩
      rw [hρ j _ h, keep _ (lt h1) (fun id hb e => ?_)]
      · exact h1
      · obtain ⟨t, cs, ho⟩ := hbase id hb
        exact hne (by rw [hb, R.hinj j id _ _ h0 ho e])
  · intro j s pos h
    simp only [lkp_cons] at h
    split at h
    · cases h
    · obtain ⟨h0, hne⟩ := hh j _ h
      have h1 := R.iter j s pos h0
      rw [hρ j _ h, keep _ (lt h1) (fun id hb e => ?_)]
      · exact h1
      · obtain ⟨t, cs, ho⟩ := hbase id hb
        exact hne (by rw [hb, R.hinj j id _ _ h0 ho e])
  · intro j o h
    simp only [lkp_cons] at h
    split at h
    · rename_i e
      subst e
      rw [hnew]
      refine ⟨Nat.lt_succ_self _, hnewb, ?_, hfree⟩
      rcases place with ⟨id, t, cs, _, ho, rfl⟩ | rfl
      · exact (R.hown id _ ho).2.2.1
      · exact .inr R.frame.size
    · obtain ⟨h0, _⟩ := hh j _ h
      obtain ⟨h1, h2, h3, h4⟩ := R.hown j o h0
      rw [hρ j _ h]
      exact ⟨Nat.lt_succ_of_lt h1, Nat.lt_of_lt_of_le h2 D.grew, h3, h4⟩
  · have apart : ∀ j o, lkp heap' j = some o → C.ρ j ≠ b' := fun j o h e => by
      obtain ⟨h0, hne⟩ := hh j o h
      rcases place with ⟨id, t, cs, hb, ho, rfl⟩ | rfl
      · exact hne (by rw [hb, R.hinj j id _ _ h0 ho e])
      · have := (R.hown j o h0).2.1; omega
    intro j k oj ok h1 h2 he
    simp only [lkp_cons] at h1 h2
    split at h1 <;> split at h2
    · rename_i e1 e2
      rw [e1, e2]
    · rename_i e1 e2
      subst e1
      rw [hnew, hρ k _ h2] at he
      exact absurd he.symm (apart k _ h2)
    · rename_i e1 e2
      subst e2
      rw [hnew, hρ j _ h1] at he
      exact absurd he (apart j _ h1)
    · rw [hρ j _ h1, hρ k _ h2] at he
      exact R.hinj j k oj ok (hh j _ h1).1 (hh k _ h2).1 he
  · intro k t h
    obtain ⟨h1, h2, ⟨vs, h3, h4⟩, h5⟩ := R.tok k t h
    refine ⟨h1, h2, ⟨vs, ?_, h4⟩, h5⟩
    show w'.heap[(C.τ k).1]? = _
    rw [keep _ (lt h3) (fun id hb e => ?_)]
    · exact h3
    · obtain ⟨t', cs, ho⟩ := hbase id hb
      exact R.tbox id _ k t ho h e.symm
  · intro j oj k t h1 h2
    simp only [lkp_cons] at h1
    split at h1
    · rename_i e
      subst e
      rw [hnew]
      rcases place with ⟨id, t', cs, hb, ho, rfl⟩ | rfl
      · exact R.tbox id _ k t ho h2
      · obtain ⟨_, _, ⟨vs, h3, _⟩, _⟩ := R.tok k t h2
        have := lt h3
        show w.heap.size ≠ (C.τ k).1
        omega
    · rw [hρ j _ h1]
      exact R.tbox j oj k t (hh j _ h1).1 h2
theorem ltL_val : ∀ (l : List Value) (a b : Nat), PV.ltL a b (l.map .val) = true
  | [], _, _ => rfl
  | v :: r, a, b => by rw [List.map_cons, PV.ltL, ltL_val r a b]; rfl
theorem OkI.insert {P : Program} {F : FuncId} {E : TypeId} {sz by_ : Nat} {z : Value} (hent : enters P F = true) (RR : Roads P F E sz by_ z) (hzs : z.cells.size = sz) (hz1 : ∀ u ∈ z.cells.toList, u.oneCell' = true) (hsz : 0 < sz)
    {st : PS} {tk : Nat} {x : List PV} (hx : x.length = sz) (ht : lkp st.toks tk = some ⟨E, sz, 1⟩) (base : Option Nat) (n c i : Nat) (cs rest : List PV) (hcs : cs.length = n * sz) (hrest : rest.length = (c - n) * sz) (hi : i ≤ n) (hn : n ≤ c) (hc : c ≤ maxLen) (hn1 : (n + 1) * by_ ≤ 140737488355328) (hn63 : n + 1 ≤ maxLen)
    (h0 : base = none → c = 0) (hb : ∀ id, base = some id → lkp st.heap id = some (.box E (cs ++ rest))) (heap' : List (Nat × PObj)) (hh : ∀ j o, lkp heap' j = some o → lkp st.heap j = some o ∧ base ≠ some j) :
    OkI P F [insArg base n c, vI i, .row tk [x]] st (fun r st' => ∃ c' rest', n + 1 ≤ c' ∧ c' ≤ maxLen ∧ rest'.length = (c' - (n + 1)) * sz ∧ (∀ a b, PV.ltL a b rest' = true) ∧ r = .ms st.nx 0 (n + 1) c' ∧
      st' = { st with heap := (st.nx, .box E (cs.take (i * sz) ++ x ++ cs.drop (i * sz) ++ rest')) :: heap', nx := st.nx + 1 }) := by
  refine ⟨hent, fun own S0 w0 w C vals R hsv hrep => ?_⟩
  obtain ⟨v0, v1, v2, rfl⟩ : ∃ v0 v1 v2, vals = #[v0, v1, v2] := by
    cases vals with
    | mk l => match l, hsv with
      | [a, b, c], _ => exact ⟨a, b, c, rfl⟩
  have r0 := hrep 0 v0 _ rfl rfl
  obtain ⟨rfl, _⟩ := rep_val (hrep 1 v1 _ rfl rfl)
  have r2 := hrep 2 v2 _ rfl rfl
  cases r2 with
  | frz h => cases h
  | row h hk htk =>
  obtain ⟨g1, g2, g3⟩ := htk _ ht
  obtain rfl := g3 rfl
  obtain ⟨t1, t2, ⟨uv, t3, t4⟩, t5, t6, t7⟩ := R.tok tk _ ht
  have hvb : w.heap[(C.τ tk).1]? = some (.cells uv E (0, 0)) := t3
  have hvs : uv.size = (C.τ tk).2 * sz := t4
  have hv1 : 1 ≤ (C.τ tk).2 := t5
  -- the element's cells
  have hcell : ∀ j, j < sz → ∃ u p, uv[j]? = some u ∧ x[j]? = some p ∧ RepF C.S u p := by
    cases h with
    | sl f hn' hc' hsz' hA hr =>
      obtain ⟨b, o, e, hS⟩ := hA (by simp)
      obtain ⟨rfl, rfl⟩ : (C.τ tk).1 = b ∧ 0 = o := by
        have := Option.some.inj e
        exact ⟨congrArg Addr.block this, congrArg Addr.off this⟩
      rename_i sz'
      have hsz2 : sz' = sz := by rw [← hsz' x (by simp), hx]
      subst hsz2
      intro j hj
      have h1 := hS 0 j (by simp) hj
      have h2 := R.stable _ _ _ h1
      have hp : x[j]? = some (x[j]'(by omega)) := List.getElem?_eq_getElem (by omega)
      refine ⟨f 0 j, _, ?_, hp, hr 0 j x _ rfl hp⟩
      rw [Lib.cell_of_heap hvb] at h2
      rw [← h2]
      congr 1
      omega
  have hbase : ∀ id, base = some id → ∃ t cs, lkp st.heap id = some (.box t cs) := fun id h => ⟨_, _, hb id h⟩
  -- the old row
  obtain ⟨us, hus, husz, hus1, husr⟩ : ∃ us : Array Value, us.size = c * sz ∧ (∀ b, base.map C.ρ = some b → w.heap[b]? = some (.cells us E (0, 0)) ∧ (C.τ tk).1 ≠ b) ∧ (∀ (j : Nat) (u : Value), us[j]? = some u → u.oneCell' = true) ∧
      (∀ (j : Nat) (u : Value) (p : PV), us[j]? = some u → (cs ++ rest)[j]? = some p → RepV C st.toks (· < st.nx) (· < st.nt) u p) := by
    cases hbb : base with
    | none =>
      have := h0 hbb
      subst this
      exact ⟨#[], by simp, fun b h => (by cases h), fun j u h => (by simp at h), fun j u p h => (by simp at h)⟩
    | some id =>
      obtain ⟨us, q1, q2, q3⟩ := R.box id E _ (hb id hbb)
      have hlen : us.size = c * sz := by
        rw [q2, List.length_append, hcs, hrest, ← Nat.add_mul]
        congr 1
        omega
      refine ⟨us, hlen, fun b h => ?_, fun j u hu => ?_, fun j u p hu hp => (q3 j u p hu hp).2⟩
      · obtain rfl := Option.some.inj h
        exact ⟨q1, fun e => R.tbox id _ tk _ (hb id hbb) ht e.symm⟩
      · have hj : j < (cs ++ rest).length := by rw [← q2]; exact (Array.getElem?_eq_some_iff.1 hu).1
        exact (q3 j u _ hu (List.getElem?_eq_getElem hj)).1
  have hv0 : v0 = .slice ((base.map C.ρ).map fun b => ⟨b, 0, none⟩) n c := by
    cases hbb : base with
    | none =>
      have hc0 := h0 hbb
      rw [hbb] at r0
      obtain ⟨rfl, _⟩ := rep_val r0
      have hn0 : n = 0 := by omega
      rw [hc0, hn0]
      rfl
    | some id =>
      rw [hbb] at r0
      exact (rep_ms r0).1
  subst hv0
  refine (RR.ins hzs hz1 hsz w (base.map C.ρ) n c i (C.τ tk).1 (C.τ tk).2 us uv hi hn hc hn1 hn63 hus (fun h => h0 (by simpa using h)) husz hus1 hv1 hvb hvs (fun j u hj hu => by
    obtain ⟨u', p, e1, _, e3⟩ := hcell j hj
    rw [e1] at hu
    obtain rfl := Option.some.inj hu
    exact e3.one)).mono ?_
  rintro e w' ⟨b', c', us', rfl, D⟩
  have hiz : i * sz ≤ n * sz := Nat.mul_le_mul_right _ hi
  have hn1z : (n + 1) * sz = n * sz + sz := Nat.succ_mul _ _
  have hcz : (n + 1) * sz ≤ us'.size := by rw [D.size]; exact Nat.mul_le_mul_right _ D.room
  have hlen : (cs.take (i * sz) ++ x ++ cs.drop (i * sz)).length = (n + 1) * sz := by
    simp only [List.length_append, List.length_take, List.length_drop, hcs, hx]
    omega
  have hrep' : RepL C st.toks (· < st.nx) (· < st.nt) us'.toList (cs.take (i * sz) ++ x ++ cs.drop (i * sz) ++ (us'.toList.drop ((n + 1) * sz)).map .val) := by
    refine ⟨by rw [List.length_append, hlen, List.length_map, List.length_drop]; simp; omega, fun j u p hu hp => ?_⟩
    have hu' : us'[j]? = some u := by simpa using hu
    refine ⟨D.one j u hu', ?_⟩
    by_cases h1 : j < (n + 1) * sz
    · rw [List.getElem?_append_left (by omega)] at hp
      by_cases h2 : j < i * sz
      · rw [List.getElem?_append_left (by simp only [List.length_append, List.length_take, hcs, hx]; omega), List.getElem?_append_left (by simp only [List.length_take, hcs]; omega), List.getElem?_take, if_pos h2] at hp
        rw [D.front j h2] at hu'
        exact husr j u p hu' (by rw [List.getElem?_append_left (by omega)]; exact hp)
      · by_cases h3 : j < i * sz + sz
        · rw [List.getElem?_append_left (by simp only [List.length_append, List.length_take, hcs, hx]; omega), List.getElem?_append_right (by simp only [List.length_take, hcs]; omega)] at hp
          simp only [List.length_take, hcs] at hp
          rw [Nat.min_eq_left hiz] at hp
          have h4 := D.mid (j - i * sz) (by omega)
          rw [show i * sz + (j - i * sz) = j by omega, hu'] at h4
          obtain ⟨u', p', e1, e2, e3⟩ := hcell (j - i * sz) (by omega)
          rw [← h4] at e1
          rw [e2] at hp
          obtain rfl := Option.some.inj e1
          obtain rfl := Option.some.inj hp
          exact .frz e3
        · rw [List.getElem?_append_right (by simp only [List.length_append, List.length_take, hcs, hx]; omega)] at hp
          simp only [List.length_append, List.length_take, hcs, hx, List.getElem?_drop] at hp
          rw [Nat.min_eq_left hiz] at hp
          have h4 := D.back (j - sz) (by omega) (by omega)
          rw [show j - sz + sz = j by omega, hu'] at h4
          refine husr (j - sz) u p h4.symm ?_
          rw [List.getElem?_append_left (by omega), ← hp]
          congr 1
          omega
    · rw [List.getElem?_append_right (by omega), hlen, List.getElem?_map, List.getElem?_drop, show (n + 1) * sz + (j - (n + 1) * sz) = j by omega, hu] at hp
      obtain rfl := Option.some.inj hp
      exact .frz (.val (D.one j u hu'))
  have R' := Rel.put_row R base hbase D heap' hh _ hrep'
  refine ⟨_, _, _, C.at st.nx b', ⟨c', _, D.room, D.small, ?_, ltL_val _, rfl, rfl⟩, rfl, R', R.ext_at b' st.nx (Nat.lt_irrefl _) (fun j hj => Nat.lt_succ_of_lt hj), ?_⟩
  · rw [List.length_map, List.length_drop]
    simp only [Array.length_toList]
    rw [D.size, ← Nat.sub_mul]
  · have : RepV (C.at st.nx b') st.toks (· < st.nx + 1) (· < st.nt) (.slice (some ⟨(C.at st.nx b').ρ st.nx, 0, none⟩) (n + 1) c') (.ms st.nx 0 (n + 1) c') := .ms (Nat.lt_succ_self _) D.room
    have hb' : (C.at st.nx b').ρ st.nx = b' := by simp [Cx.at]
    rw [hb'] at this
    exact this
end Go.Proofs.YtahgjolokkfhjaaDoor

end
