/-
  Contracts and plain laws on the way to the statement; each says its own conditions.
-/
import Derived.Test.YtmfaejdnaippkaaDoorGS4
import Derived.Lib.DecodeN
import Derived.Laws.RangeAny
import Derived.Lib.RuneCountTail
import Derived.Lib.QuoteLoop
import Derived.Test.YtmfaejdnaippkaaDoorProg
import Derived.Shelf.RegionOpenPlain
import Derived.Lib.Strings
import Derived.Lib.Slices
import Derived.Lib.Walk
import Derived.Lib.Builder
import Derived.Lib.AppendStr
import Derived.Lib.UnsafeStr
import Derived.WalkKit
import Derived.Laws.Externs
import Derived.Test.YtmfaejdnaippkaaDoorGS3
section
/-
  Contracts and plain laws on the way to the statement; each says its own conditions.
-/
open Go Go.Proofs Go.Pw
namespace Go.Proofs.YtmfaejdnaippkaaDoor
set_option maxRecDepth 4000
set_option linter.unusedVariables false
set_option linter.unusedSimpArgs false
def isF (n : Int) : Bool := decide (0 ≤ n ∧ n < 55296 ∨ 57344 ≤ n ∧ n ≤ 1114111)
theorem ris_ok (n : Int) : Ok Tryd.prog 54 [vI n] (vB (isF n)) := by
  refine Ok.of_pwp (by kernel_rfl) Tryd.func54 rfl (by kernel_rfl) (by kernel_rfl) ?_
  simp (implicitDefEqProofs := false) (disch := omega) only [go_sem, simprocAttr, go_sem, ↓ix_enc, encI_len, encI_take, Nat.le_refl, Tryd.results54]
  repeat' ((first
    | with_reducible refine ifK_split (fun _ => ?_) (fun _ => ?_)) <;> try simp (implicitDefEqProofs := false) (disch := omega) only [go_sem, simprocAttr, go_sem, ↓ix_enc, encI_len, encI_take, Nat.le_refl, Tryd.results54])
  all_goals (congr 2; simp only [isF]; first | (rw [eq_comm, decide_eq_false_iff_not]; omega) | (rw [eq_comm, decide_eq_true_eq]; omega) | (congr 1; apply propext; constructor <;> intro <;> omega))
def bytesF (n : Int) : List Int :=
  if n < 128 then [n] else if n < 2048 then [192 + n / 64, 128 + n % 64] else if n < 65536 then [224 + n / 4096, 128 + n / 64 % 64, 128 + n % 64]
  else [240 + n / 262144, 128 + n / 4096 % 64, 128 + n / 64 % 64, 128 + n % 64]
theorem bytes_ok (n : Int) (h0 : 0 ≤ n) (h1 : n ≤ 1114111) : Ok Tryd.prog 45 [vI n] (.sl (encI (bytesF n))) := by
  refine Ok.of_pwp (by kernel_rfl) Tryd.func45 rfl (by kernel_rfl) (by kernel_rfl) ?_
  unfold bytesF
  simp (implicitDefEqProofs := false) (disch := omega) only [go_sem, simprocAttr, go_sem, ↓ix_enc, encI_len, encI_take, Nat.le_refl, tdivE, tmodE, Tryd.results45]
  repeat' ((first
    | with_reducible refine ifK_split (fun _ => ?_) (fun _ => ?_)) <;> try simp (implicitDefEqProofs := false) (disch := omega) only [go_sem, simprocAttr, go_sem, ↓ix_enc, encI_len, encI_take, Nat.le_refl, tdivE, tmodE, Tryd.results45])
  · rw [if_pos (by omega)]; rfl
  · rw [if_neg (by omega), if_pos (by omega)]; rfl
  · rw [if_neg (by omega), if_neg (by omega), if_pos (by omega)]; rfl
  · rw [if_neg (by omega), if_neg (by omega), if_neg (by omega)]; rfl
theorem bt_range (s : ByteArray) (i : Int) : 0 ≤ bt s i ∧ bt s i ≤ 255 := by
  unfold bt
  have := UInt8.toNat_lt (s.data.toList.getD i.toNat 0)
  omega
def headF : Nat → Int
  | 2 => 192
  | 3 => 224
  | 4 => 240
  | _ => 0
def accF (s : ByteArray) (a : Int) (m : Nat) : Nat → Int
  | 0 => bt s a - headF m
  | j + 1 => accF s a m j * 64 + bt s (a + (j + 1)) - 128
def sameF (b : List Int) (s : ByteArray) (a : Int) (m : Nat) : Nat → Bool
  | 0 => decide ((b.length : Int) = (m : Int))
  | j + 1 => sameF b s a m j && decide (b.getD j 0 = bt s (a + j))
def firstF (s : ByteArray) (a : Int) : Nat → Nat → Int × Int
  | 0, _ => (-1, 0)
  | f + 1, m => if (s.size : Int) < a + m then (-1, 0) else if isF (accF s a m (m - 1)) && sameF (bytesF (accF s a m (m - 1))) s a m m then (accF s a m (m - 1), m) else firstF s a f (m + 1)
theorem accF_step (s : ByteArray) (a : Int) (m j : Nat) (B : Int) (h : -B ≤ accF s a m j ∧ accF s a m j ≤ B) : -(B * 64 + 400) ≤ accF s a m (j + 1) ∧ accF s a m (j + 1) ≤ B * 64 + 400 := by
  have := bt_range s (a + (j + 1))
  simp only [accF]
  omega
theorem accF_range (s : ByteArray) (a : Int) (m : Nat) (j : Nat) (hj : j ≤ 3) : -1000000000 ≤ accF s a m j ∧ accF s a m j ≤ 1000000000 := by
  have b0 := bt_range s a
  have hh : 0 ≤ headF m ∧ headF m ≤ 240 := by unfold headF; split <;> decide
  have h0 : -300 ≤ accF s a m 0 ∧ accF s a m 0 ≤ 300 := by simp only [accF]; omega
  have h1 := accF_step s a m 0 _ h0
  have h2 := accF_step s a m 1 _ h1
  have h3 := accF_step s a m 2 _ h2
  have : j = 0 ∨ j = 1 ∨ j = 2 ∨ j = 3 := by omega
  rcases this with rfl | rfl | rfl | rfl
  · omega
  · simp only [Nat.zero_add] at h1; omega
  · simp only [Nat.reduceAdd] at h2; omega
  · simp only [Nat.reduceAdd] at h3; omega
theorem sameF_false {b : List Int} {s : ByteArray} {a : Int} {m j : Nat} (h : sameF b s a m j = false) : ∀ k, sameF b s a m (j + k) = false
  | 0 => h
  | k + 1 => by rw [← Nat.add_assoc, sameF, sameF_false h k, Bool.false_and]
theorem sameF_len {b : List Int} {s : ByteArray} {a : Int} {m : Nat} : ∀ {j : Nat}, sameF b s a m j = true → b.length = m
  | 0, h => by simp only [sameF, decide_eq_true_eq] at h; omega
  | j + 1, h => by
    simp only [sameF, Bool.and_eq_true] at h
    exact sameF_len h.1
abbrev twoP (n e : Int) : PV := .tup [vI n, vI e]
set_option maxHeartbeats 8000000 in
theorem first_ok (s : ByteArray) (a : Int) (h0 : 0 ≤ a) (h1 : a ≤ s.size) (hs : s.size ≤ 140737488351232) : Ok Tryd.prog 36 [vS s, vI a] (twoP (firstF s a 4 1).1 (firstF s a 4 1).2) := by
  refine Ok.of_pwp (by kernel_rfl) Tryd.func36 rfl (by kernel_rfl) (by kernel_rfl) ?_
  generalize hr : firstF s a 4 1 = r
  simp (implicitDefEqProofs := false) (disch := omega) only [go_sem, simprocAttr, go_sem, ↓ix_enc, encI_len, encI_take, Nat.le_refl]
  refine p_loop (ι := { m : Nat // 1 ≤ m ∧ m ≤ 5 ∧ r = firstF s a (5 - m) m }) (fun m => ⟨[(6, vI m.1), (0, vS s), (1, vI a)], [], [], 0, 0⟩) (fun m => 5 - m.1) ⟨1, by decide, by decide, hr.symm⟩ ?_ ?_
  · refine ⟨?_, ?_, ?_, ?_, ?_, ?_, ?_⟩ <;> simp only [go_sem, simprocAttr, decide_eq_true_eq, Int.natCast_one] <;> try first | omega | ((repeat' (first | exact And.intro rfl (by omega) | (refine And.intro ?_ ?_))) <;> first | rfl | omega | (congr 3; omega) | (congr 2; omega))
  · rintro ⟨m, g1, g2, g3⟩
    have hm : m = 1 ∨ m = 2 ∨ m = 3 ∨ m = 4 ∨ m = 5 := by omega
    simp only
    rcases hm with rfl | rfl | rfl | rfl | rfl
    · simp only [Int.natCast_one]
      simp (implicitDefEqProofs := false) (disch := omega) only [go_sem, simprocAttr, go_sem, ↓ix_enc, encI_len, encI_take, Nat.le_refl]
      with_reducible refine ifK_split (fun hge => ?_) (fun hlt => ?_)
      · simp (implicitDefEqProofs := false) (disch := omega) only [go_sem, simprocAttr, go_sem, ↓ix_enc, encI_len, encI_take, Nat.le_refl, Tryd.results36]
        rw [g3]
        simp only [firstF]
        rw [if_pos (by omega)]
      · have hb := bt_range s a
        simp (implicitDefEqProofs := false) (disch := omega) only [go_sem, simprocAttr, go_sem, ↓ix_enc, encI_len, encI_take, Nat.le_refl]
        refine p_loop (ι := { i : Nat // i < 1 }) (fun i => ⟨[(9, vI (i.1 + 1 : Nat)), (8, vI (accF s a 1 i.1)), (6, vI 1), (0, vS s), (1, vI a)], [], [], 9, 9⟩) (fun i => 1 - i.1) ⟨0, by omega⟩ ?_ ?_
        · simp only [accF, headF]
          refine ⟨?_, ?_, ?_, ?_, ?_, ?_, ?_⟩ <;> simp only [go_sem, simprocAttr, decide_eq_true_eq, Int.natCast_one, Nat.zero_add] <;> try first | omega | ((repeat' (first | exact And.intro rfl (by omega) | (refine And.intro ?_ ?_))) <;> first | rfl | omega | (congr 3; omega) | (congr 2; omega))
        · rintro ⟨i, hi⟩
          simp only
          have hacc := accF_range s a 1 i (by omega)
          simp (implicitDefEqProofs := false) (disch := omega) only [go_sem, simprocAttr, go_sem, ↓ix_enc, encI_len, encI_take, Nat.le_refl]
          · have hi2 : i = 1 - 1 := by omega
            subst hi2
            simp only [Nat.reduceSub] at hacc ⊢
            simp (implicitDefEqProofs := false) (disch := omega) only [go_sem, simprocAttr, go_sem, ↓ix_enc, encI_len, encI_take, Nat.le_refl]
            with_reducible refine CallOk.of (ris_ok _) rfl ?_
            simp (implicitDefEqProofs := false) (disch := omega) only [go_sem, simprocAttr, go_sem, ↓ix_enc, encI_len, encI_take, Nat.le_refl]
            with_reducible refine ifK_bsplit (fun hn => ?_) (fun hn => ?_)
            · have hn' : isF (accF s a 1 (1 - 1)) = false := by simpa using hn
              simp (implicitDefEqProofs := false) (disch := omega) only [go_sem, simprocAttr, go_sem, ↓ix_enc, encI_len, encI_take, Nat.le_refl]
              refine ⟨⟨2, by omega, by omega, ?_⟩, by simp only; omega, ?_⟩
              · rw [g3]
                simp only [firstF]
                rw [if_neg (by omega), hn', Bool.false_and]
                rfl
              · refine ⟨?_, ?_, ?_, ?_, ?_, ?_, ?_⟩ <;> simp only [go_sem, simprocAttr, decide_eq_true_eq, Int.cast_ofNat_Int] <;> try first | omega | ((repeat' (first | exact And.intro rfl (by omega) | (refine And.intro ?_ ?_))) <;> first | rfl | omega | (congr 3; omega) | (congr 2; omega))
            · have hn' : isF (accF s a 1 (1 - 1)) = true := by simpa using hn
              have hp : 0 ≤ accF s a 1 (1 - 1) ∧ accF s a 1 (1 - 1) ≤ 1114111 := by
                unfold isF at hn'
                simp only [decide_eq_true_eq] at hn'
                omega
              simp only [Nat.reduceSub] at hp
              simp (implicitDefEqProofs := false) (disch := omega) only [go_sem, simprocAttr, go_sem, ↓ix_enc, encI_len, encI_take, Nat.le_refl]
              with_reducible refine CallOk.of (bytes_ok _ hp.1 hp.2) rfl ?_
              simp (implicitDefEqProofs := false) (disch := omega) only [go_sem, simprocAttr, go_sem, ↓ix_enc, encI_len, encI_take, Nat.le_refl]
              refine p_loop (ι := { j : Nat // j ≤ 1 }) (fun j => ⟨[(12, vI j.1), (11, vB (sameF (bytesF (accF s a 1 (1 - 1))) s a 1 j.1)), (10, .sl (encI (bytesF (accF s a 1 (1 - 1))))), (8, vI (accF s a 1 (1 - 1))), (6, vI 1), (0, vS s), (1, vI a)], [], [], 9, 9⟩) (fun j => 1 - j.1) ⟨0, by omega⟩ ?_ ?_
              · simp only [sameF, Int.cast_ofNat_Int, Int.natCast_one]
                refine ⟨?_, ?_, ?_, ?_, ?_, ?_, ?_⟩ <;> simp only [go_sem, simprocAttr, decide_eq_true_eq, Int.natCast_zero] <;> try first | omega | ((repeat' (first | exact And.intro rfl (by omega) | (refine And.intro ?_ ?_))) <;> first | rfl | omega | (congr 3; omega) | (congr 2; omega))
              · rintro ⟨j, hj⟩
                simp only
                generalize hbs : bytesF (accF s a 1 (1 - 1)) = B at *
                have hbj := bt_range s (a + j)
                simp (implicitDefEqProofs := false) (disch := omega) only [go_sem, simprocAttr, go_sem, ↓ix_enc, encI_len, encI_take, Nat.le_refl]
                with_reducible refine ifK_bsplit (fun hs1 => ?_) (fun hs1 => ?_)
                · have hlen := sameF_len hs1
                  simp (implicitDefEqProofs := false) (disch := omega) only [go_sem, simprocAttr, go_sem, ↓ix_enc, encI_len, encI_take, Nat.le_refl, hs1]
                  with_reducible refine ifK_split (fun hj1 => ?_) (fun hj1 => ?_)
                  · simp (implicitDefEqProofs := false) (disch := omega) only [go_sem, simprocAttr, go_sem, ↓ix_enc, encI_len, encI_take, Nat.le_refl, hs1]
                    have e3 : sameF B s a 1 (j + 1) = decide (B.getD j 0 = bt s (a + j)) := by simp only [sameF, hs1, Bool.true_and]
                    refine ⟨⟨j + 1, by omega⟩, by simp only; omega, ?_⟩
                    simp only [e3]
                    refine ⟨?_, ?_, ?_, ?_, ?_, ?_, ?_⟩ <;> simp only [go_sem, simprocAttr, decide_eq_true_eq, Int.natCast_add, Int.natCast_one] <;> try first | omega | ((repeat' (first | exact And.intro rfl (by omega) | (refine And.intro ?_ ?_))) <;> first | rfl | omega | (congr 3; omega) | (congr 2; omega))
                  · have hj2 : j = 1 := by omega
                    subst hj2
                    simp (implicitDefEqProofs := false) (disch := omega) only [go_sem, simprocAttr, go_sem, ↓ix_enc, encI_len, encI_take, Nat.le_refl, hs1, Tryd.results36]
                    rw [g3]
                    simp only [firstF]
                    rw [if_neg (by omega), hn', hbs, hs1]
                    rfl
                · have hs2 := sameF_false hs1 (1 - j)
                  rw [show j + (1 - j) = 1 by omega] at hs2
                  simp (implicitDefEqProofs := false) (disch := omega) only [go_sem, simprocAttr, go_sem, ↓ix_enc, encI_len, encI_take, Nat.le_refl, hs1]
                  refine ⟨⟨2, by omega, by omega, ?_⟩, by simp only; omega, ?_⟩
                  · rw [g3]
                    simp only [firstF]
                    rw [if_neg (by omega), hn', hbs, hs2]
                    rfl
                  · refine ⟨?_, ?_, ?_, ?_, ?_, ?_, ?_⟩ <;> simp only [go_sem, simprocAttr, decide_eq_true_eq, Int.cast_ofNat_Int] <;> try first | omega | ((repeat' (first | exact And.intro rfl (by omega) | (refine And.intro ?_ ?_))) <;> first | rfl | omega | (congr 3; omega) | (congr 2; omega))
    · simp only [Int.cast_ofNat_Int]
      simp (implicitDefEqProofs := false) (disch := omega) only [go_sem, simprocAttr, go_sem, ↓ix_enc, encI_len, encI_take, Nat.le_refl]
      with_reducible refine ifK_split (fun hge => ?_) (fun hlt => ?_)
      · simp (implicitDefEqProofs := false) (disch := omega) only [go_sem, simprocAttr, go_sem, ↓ix_enc, encI_len, encI_take, Nat.le_refl, Tryd.results36]
        rw [g3]
        simp only [firstF]
        rw [if_pos (by omega)]
      · have hb := bt_range s a
        simp (implicitDefEqProofs := false) (disch := omega) only [go_sem, simprocAttr, go_sem, ↓ix_enc, encI_len, encI_take, Nat.le_refl]
        refine p_loop (ι := { i : Nat // i < 2 }) (fun i => ⟨[(9, vI (i.1 + 1 : Nat)), (8, vI (accF s a 2 i.1)), (6, vI 2), (0, vS s), (1, vI a)], [], [], 9, 9⟩) (fun i => 2 - i.1) ⟨0, by omega⟩ ?_ ?_
        · simp only [accF, headF]
          refine ⟨?_, ?_, ?_, ?_, ?_, ?_, ?_⟩ <;> simp only [go_sem, simprocAttr, decide_eq_true_eq, Int.natCast_one, Nat.zero_add] <;> try first | omega | ((repeat' (first | exact And.intro rfl (by omega) | (refine And.intro ?_ ?_))) <;> first | rfl | omega | (congr 3; omega) | (congr 2; omega))
        · rintro ⟨i, hi⟩
          simp only
          have hacc := accF_range s a 2 i (by omega)
          simp (implicitDefEqProofs := false) (disch := omega) only [go_sem, simprocAttr, go_sem, ↓ix_enc, encI_len, encI_take, Nat.le_refl]
          with_reducible refine ifK_split (fun hlt2 => ?_) (fun hge2 => ?_)
          · have hacc2 := accF_range s a 2 (i + 1) (by omega)
            have hb2 := bt_range s (a + (i + 1 : Nat))
            have e2 : accF s a 2 (i + 1) = accF s a 2 i * 64 + bt s (a + (i + 1 : Nat)) - 128 := by simp only [accF]; rfl
            simp (implicitDefEqProofs := false) (disch := omega) only [go_sem, simprocAttr, go_sem, ↓ix_enc, encI_len, encI_take, Nat.le_refl]
            refine ⟨⟨i + 1, by omega⟩, by simp only; omega, ?_⟩
            simp only [e2]
            refine ⟨?_, ?_, ?_, ?_, ?_, ?_, ?_⟩ <;> simp only [go_sem, simprocAttr, decide_eq_true_eq, Int.natCast_add, Int.natCast_one] <;> try first | omega | ((repeat' (first | exact And.intro rfl (by omega) | (refine And.intro ?_ ?_))) <;> first | rfl | omega | (congr 3; omega) | (congr 2; omega))
          · have hi2 : i = 2 - 1 := by omega
            subst hi2
            simp only [Nat.reduceSub] at hacc ⊢
            simp (implicitDefEqProofs := false) (disch := omega) only [go_sem, simprocAttr, go_sem, ↓ix_enc, encI_len, encI_take, Nat.le_refl]
            with_reducible refine CallOk.of (ris_ok _) rfl ?_
            simp (implicitDefEqProofs := false) (disch := omega) only [go_sem, simprocAttr, go_sem, ↓ix_enc, encI_len, encI_take, Nat.le_refl]
            with_reducible refine ifK_bsplit (fun hn => ?_) (fun hn => ?_)
            · have hn' : isF (accF s a 2 (2 - 1)) = false := by simpa using hn
              simp (implicitDefEqProofs := false) (disch := omega) only [go_sem, simprocAttr, go_sem, ↓ix_enc, encI_len, encI_take, Nat.le_refl]
              refine ⟨⟨3, by omega, by omega, ?_⟩, by simp only; omega, ?_⟩
              · rw [g3]
                simp only [firstF]
                rw [if_neg (by omega), hn', Bool.false_and]
                rfl
              · refine ⟨?_, ?_, ?_, ?_, ?_, ?_, ?_⟩ <;> simp only [go_sem, simprocAttr, decide_eq_true_eq, Int.cast_ofNat_Int] <;> try first | omega | ((repeat' (first | exact And.intro rfl (by omega) | (refine And.intro ?_ ?_))) <;> first | rfl | omega | (congr 3; omega) | (congr 2; omega))
            · have hn' : isF (accF s a 2 (2 - 1)) = true := by simpa using hn
              have hp : 0 ≤ accF s a 2 (2 - 1) ∧ accF s a 2 (2 - 1) ≤ 1114111 := by
                unfold isF at hn'
                simp only [decide_eq_true_eq] at hn'
                omega
              simp only [Nat.reduceSub] at hp
              simp (implicitDefEqProofs := false) (disch := omega) only [go_sem, simprocAttr, go_sem, ↓ix_enc, encI_len, encI_take, Nat.le_refl]
              with_reducible refine CallOk.of (bytes_ok _ hp.1 hp.2) rfl ?_
              simp (implicitDefEqProofs := false) (disch := omega) only [go_sem, simprocAttr, go_sem, ↓ix_enc, encI_len, encI_take, Nat.le_refl]
              refine p_loop (ι := { j : Nat // j ≤ 2 }) (fun j => ⟨[(12, vI j.1), (11, vB (sameF (bytesF (accF s a 2 (2 - 1))) s a 2 j.1)), (10, .sl (encI (bytesF (accF s a 2 (2 - 1))))), (8, vI (accF s a 2 (2 - 1))), (6, vI 2), (0, vS s), (1, vI a)], [], [], 9, 9⟩) (fun j => 2 - j.1) ⟨0, by omega⟩ ?_ ?_
              · simp only [sameF, Int.cast_ofNat_Int, Int.natCast_one]
                refine ⟨?_, ?_, ?_, ?_, ?_, ?_, ?_⟩ <;> simp only [go_sem, simprocAttr, decide_eq_true_eq, Int.natCast_zero] <;> try first | omega | ((repeat' (first | exact And.intro rfl (by omega) | (refine And.intro ?_ ?_))) <;> first | rfl | omega | (congr 3; omega) | (congr 2; omega))
              · rintro ⟨j, hj⟩
                simp only
                generalize hbs : bytesF (accF s a 2 (2 - 1)) = B at *
                have hbj := bt_range s (a + j)
                simp (implicitDefEqProofs := false) (disch := omega) only [go_sem, simprocAttr, go_sem, ↓ix_enc, encI_len, encI_take, Nat.le_refl]
                with_reducible refine ifK_bsplit (fun hs1 => ?_) (fun hs1 => ?_)
                · have hlen := sameF_len hs1
                  simp (implicitDefEqProofs := false) (disch := omega) only [go_sem, simprocAttr, go_sem, ↓ix_enc, encI_len, encI_take, Nat.le_refl, hs1]
                  with_reducible refine ifK_split (fun hj1 => ?_) (fun hj1 => ?_)
                  · simp (implicitDefEqProofs := false) (disch := omega) only [go_sem, simprocAttr, go_sem, ↓ix_enc, encI_len, encI_take, Nat.le_refl, hs1]
                    have e3 : sameF B s a 2 (j + 1) = decide (B.getD j 0 = bt s (a + j)) := by simp only [sameF, hs1, Bool.true_and]
                    refine ⟨⟨j + 1, by omega⟩, by simp only; omega, ?_⟩
                    simp only [e3]
                    refine ⟨?_, ?_, ?_, ?_, ?_, ?_, ?_⟩ <;> simp only [go_sem, simprocAttr, decide_eq_true_eq, Int.natCast_add, Int.natCast_one] <;> try first | omega | ((repeat' (first | exact And.intro rfl (by omega) | (refine And.intro ?_ ?_))) <;> first | rfl | omega | (congr 3; omega) | (congr 2; omega))
                  · have hj2 : j = 2 := by omega
                    subst hj2
                    simp (implicitDefEqProofs := false) (disch := omega) only [go_sem, simprocAttr, go_sem, ↓ix_enc, encI_len, encI_take, Nat.le_refl, hs1, Tryd.results36]
                    rw [g3]
                    simp only [firstF]
                    rw [if_neg (by omega), hn', hbs, hs1]
                    rfl
                · have hs2 := sameF_false hs1 (2 - j)
                  rw [show j + (2 - j) = 2 by omega] at hs2
                  simp (implicitDefEqProofs := false) (disch := omega) only [go_sem, simprocAttr, go_sem, ↓ix_enc, encI_len, encI_take, Nat.le_refl, hs1]
                  refine ⟨⟨3, by omega, by omega, ?_⟩, by simp only; omega, ?_⟩
                  · rw [g3]
                    simp only [firstF]
                    rw [if_neg (by omega), hn', hbs, hs2]
                    rfl
                  · refine ⟨?_, ?_, ?_, ?_, ?_, ?_, ?_⟩ <;> simp only [go_sem, simprocAttr, decide_eq_true_eq, Int.cast_ofNat_Int] <;> try first | omega | ((repeat' (first | exact And.intro rfl (by omega) | (refine And.intro ?_ ?_))) <;> first | rfl | omega | (congr 3; omega) | (congr 2; omega))
    · simp only [Int.cast_ofNat_Int]
      simp (implicitDefEqProofs := false) (disch := omega) only [go_sem, simprocAttr, go_sem, ↓ix_enc, encI_len, encI_take, Nat.le_refl]
      with_reducible refine ifK_split (fun hge => ?_) (fun hlt => ?_)
      · simp (implicitDefEqProofs := false) (disch := omega) only [go_sem, simprocAttr, go_sem, ↓ix_enc, encI_len, encI_take, Nat.le_refl, Tryd.results36]
        rw [g3]
        simp only [firstF]
        rw [if_pos (by omega)]
      · have hb := bt_range s a
        simp (implicitDefEqProofs := false) (disch := omega) only [go_sem, simprocAttr, go_sem, ↓ix_enc, encI_len, encI_take, Nat.le_refl]
        refine p_loop (ι := { i : Nat // i < 3 }) (fun i => ⟨[(9, vI (i.1 + 1 : Nat)), (8, vI (accF s a 3 i.1)), (6, vI 3), (0, vS s), (1, vI a)], [], [], 9, 9⟩) (fun i => 3 - i.1) ⟨0, by omega⟩ ?_ ?_
        · simp only [accF, headF]
          refine ⟨?_, ?_, ?_, ?_, ?_, ?_, ?_⟩ <;> simp only [go_sem, simprocAttr, decide_eq_true_eq, Int.natCast_one, Nat.zero_add] <;> try first | omega | ((repeat' (first | exact And.intro rfl (by omega) | (refine And.intro ?_ ?_))) <;> first | rfl | omega | (congr 3; omega) | (congr 2; omega))
        · rintro ⟨i, hi⟩
          simp only
          have hacc := accF_range s a 3 i (by omega)
          simp (implicitDefEqProofs := false) (disch := omega) only [go_sem, simprocAttr, go_sem, ↓ix_enc, encI_len, encI_take, Nat.le_refl]
          with_reducible refine ifK_split (fun hlt2 => ?_) (fun hge2 => ?_)
          · have hacc2 := accF_range s a 3 (i + 1) (by omega)
            have hb2 := bt_range s (a + (i + 1 : Nat))
            have e2 : accF s a 3 (i + 1) = accF s a 3 i * 64 + bt s (a + (i + 1 : Nat)) - 128 := by simp only [accF]; rfl
            simp (implicitDefEqProofs := false) (disch := omega) only [go_sem, simprocAttr, go_sem, ↓ix_enc, encI_len, encI_take, Nat.le_refl]
            refine ⟨⟨i + 1, by omega⟩, by simp only; omega, ?_⟩
            simp only [e2]
            refine ⟨?_, ?_, ?_, ?_, ?_, ?_, ?_⟩ <;> simp only [go_sem, simprocAttr, decide_eq_true_eq, Int.natCast_add, Int.natCast_one] <;> try first | omega | ((repeat' (first | exact And.intro rfl (by omega) | (refine And.intro ?_ ?_))) <;> first | rfl | omega | (congr 3; omega) | (congr 2; omega))
          · have hi2 : i = 3 - 1 := by omega
            subst hi2
            simp only [Nat.reduceSub] at hacc ⊢
            simp (implicitDefEqProofs := false) (disch := omega) only [go_sem, simprocAttr, go_sem, ↓ix_enc, encI_len, encI_take, Nat.le_refl]
            with_reducible refine CallOk.of (ris_ok _) rfl ?_
            simp (implicitDefEqProofs := false) (disch := omega) only [go_sem, simprocAttr, go_sem, ↓ix_enc, encI_len, encI_take, Nat.le_refl]
            with_reducible refine ifK_bsplit (fun hn => ?_) (fun hn => ?_)
            · have hn' : isF (accF s a 3 (3 - 1)) = false := by simpa using hn
              simp (implicitDefEqProofs := false) (disch := omega) only [go_sem, simprocAttr, go_sem, ↓ix_enc, encI_len, encI_take, Nat.le_refl]
              refine ⟨⟨4, by omega, by omega, ?_⟩, by simp only; omega, ?_⟩
              · rw [g3]
                simp only [firstF]
                rw [if_neg (by omega), hn', Bool.false_and]
                rfl
              · refine ⟨?_, ?_, ?_, ?_, ?_, ?_, ?_⟩ <;> simp only [go_sem, simprocAttr, decide_eq_true_eq, Int.cast_ofNat_Int] <;> try first | omega | ((repeat' (first | exact And.intro rfl (by omega) | (refine And.intro ?_ ?_))) <;> first | rfl | omega | (congr 3; omega) | (congr 2; omega))
            · have hn' : isF (accF s a 3 (3 - 1)) = true := by simpa using hn
              have hp : 0 ≤ accF s a 3 (3 - 1) ∧ accF s a 3 (3 - 1) ≤ 1114111 := by
                unfold isF at hn'
                simp only [decide_eq_true_eq] at hn'
                omega
              simp only [Nat.reduceSub] at hp
              simp (implicitDefEqProofs := false) (disch := omega) only [go_sem, simprocAttr, go_sem, ↓ix_enc, encI_len, encI_take, Nat.le_refl]
              with_reducible refine CallOk.of (bytes_ok _ hp.1 hp.2) rfl ?_
              simp (implicitDefEqProofs := false) (disch := omega) only [go_sem, simprocAttr, go_sem, ↓ix_enc, encI_len, encI_take, Nat.le_refl]
              refine p_loop (ι := { j : Nat // j ≤ 3 }) (fun j => ⟨[(12, vI j.1), (11, vB (sameF (bytesF (accF s a 3 (3 - 1))) s a 3 j.1)), (10, .sl (encI (bytesF (accF s a 3 (3 - 1))))), (8, vI (accF s a 3 (3 - 1))), (6, vI 3), (0, vS s), (1, vI a)], [], [], 9, 9⟩) (fun j => 3 - j.1) ⟨0, by omega⟩ ?_ ?_
              · simp only [sameF, Int.cast_ofNat_Int, Int.natCast_one]
                refine ⟨?_, ?_, ?_, ?_, ?_, ?_, ?_⟩ <;> simp only [go_sem, simprocAttr, decide_eq_true_eq, Int.natCast_zero] <;> try first | omega | ((repeat' (first | exact And.intro rfl (by omega) | (refine And.intro ?_ ?_))) <;> first | rfl | omega | (congr 3; omega) | (congr 2; omega))
              · rintro ⟨j, hj⟩
                simp only
                generalize hbs : bytesF (accF s a 3 (3 - 1)) = B at *
                have hbj := bt_range s (a + j)
                simp (implicitDefEqProofs := false) (disch := omega) only [go_sem, simprocAttr, go_sem, ↓ix_enc, encI_len, encI_take, Nat.le_refl]
                with_reducible refine ifK_bsplit (fun hs1 => ?_) (fun hs1 => ?_)
                · have hlen := sameF_len hs1
                  simp (implicitDefEqProofs := false) (disch := omega) only [go_sem, simprocAttr, go_sem, ↓ix_enc, encI_len, encI_take, Nat.le_refl, hs1]
                  with_reducible refine ifK_split (fun hj1 => ?_) (fun hj1 => ?_)
                  · simp (implicitDefEqProofs := false) (disch := omega) only [go_sem, simprocAttr, go_sem, ↓ix_enc, encI_len, encI_take, Nat.le_refl, hs1]
                    have e3 : sameF B s a 3 (j + 1) = decide (B.getD j 0 = bt s (a + j)) := by simp only [sameF, hs1, Bool.true_and]
                    refine ⟨⟨j + 1, by omega⟩, by simp only; omega, ?_⟩
                    simp only [e3]
                    refine ⟨?_, ?_, ?_, ?_, ?_, ?_, ?_⟩ <;> simp only [go_sem, simprocAttr, decide_eq_true_eq, Int.natCast_add, Int.natCast_one] <;> try first | omega | ((repeat' (first | exact And.intro rfl (by omega) | (refine And.intro ?_ ?_))) <;> first | rfl | omega | (congr 3; omega) | (congr 2; omega))
                  · have hj2 : j = 3 := by omega
                    subst hj2
                    simp (implicitDefEqProofs := false) (disch := omega) only [go_sem, simprocAttr, go_sem, ↓ix_enc, encI_len, encI_take, Nat.le_refl, hs1, Tryd.results36]
                    rw [g3]
                    simp only [firstF]
                    rw [if_neg (by omega), hn', hbs, hs1]
                    rfl
                · have hs2 := sameF_false hs1 (3 - j)
                  rw [show j + (3 - j) = 3 by omega] at hs2
                  simp (implicitDefEqProofs := false) (disch := omega) only [go_sem, simprocAttr, go_sem, ↓ix_enc, encI_len, encI_take, Nat.le_refl, hs1]
                  refine ⟨⟨4, by omega, by omega, ?_⟩, by simp only; omega, ?_⟩
                  · rw [g3]
                    simp only [firstF]
                    rw [if_neg (by omega), hn', hbs, hs2]
                    rfl
                  · refine ⟨?_, ?_, ?_, ?_, ?_, ?_, ?_⟩ <;> simp only [go_sem, simprocAttr, decide_eq_true_eq, Int.cast_ofNat_Int] <;> try first | omega | ((repeat' (first | exact And.intro rfl (by omega) | (refine And.intro ?_ ?_))) <;> first | rfl | omega | (congr 3; omega) | (congr 2; omega))
    · simp only [Int.cast_ofNat_Int]
      simp (implicitDefEqProofs := false) (disch := omega) only [go_sem, simprocAttr, go_sem, ↓ix_enc, encI_len, encI_take, Nat.le_refl]
      with_reducible refine ifK_split (fun hge => ?_) (fun hlt => ?_)
      · simp (implicitDefEqProofs := false) (disch := omega) only [go_sem, simprocAttr, go_sem, ↓ix_enc, encI_len, encI_take, Nat.le_refl, Tryd.results36]
        rw [g3]
        simp only [firstF]
        rw [if_pos (by omega)]
      · have hb := bt_range s a
        simp (implicitDefEqProofs := false) (disch := omega) only [go_sem, simprocAttr, go_sem, ↓ix_enc, encI_len, encI_take, Nat.le_refl]
        refine p_loop (ι := { i : Nat // i < 4 }) (fun i => ⟨[(9, vI (i.1 + 1 : Nat)), (8, vI (accF s a 4 i.1)), (6, vI 4), (0, vS s), (1, vI a)], [], [], 9, 9⟩) (fun i => 4 - i.1) ⟨0, by omega⟩ ?_ ?_
        · simp only [accF, headF]
          refine ⟨?_, ?_, ?_, ?_, ?_, ?_, ?_⟩ <;> simp only [go_sem, simprocAttr, decide_eq_true_eq, Int.natCast_one, Nat.zero_add] <;> try first | omega | ((repeat' (first | exact And.intro rfl (by omega) | (refine And.intro ?_ ?_))) <;> first | rfl | omega | (congr 3; omega) | (congr 2; omega))
        · rintro ⟨i, hi⟩
          simp only
          have hacc := accF_range s a 4 i (by omega)
          simp (implicitDefEqProofs := false) (disch := omega) only [go_sem, simprocAttr, go_sem, ↓ix_enc, encI_len, encI_take, Nat.le_refl]
          with_reducible refine ifK_split (fun hlt2 => ?_) (fun hge2 => ?_)
          · have hacc2 := accF_range s a 4 (i + 1) (by omega)
            have hb2 := bt_range s (a + (i + 1 : Nat))
            have e2 : accF s a 4 (i + 1) = accF s a 4 i * 64 + bt s (a + (i + 1 : Nat)) - 128 := by simp only [accF]; rfl
            simp (implicitDefEqProofs := false) (disch := omega) only [go_sem, simprocAttr, go_sem, ↓ix_enc, encI_len, encI_take, Nat.le_refl]
            refine ⟨⟨i + 1, by omega⟩, by simp only; omega, ?_⟩
            simp only [e2]
            refine ⟨?_, ?_, ?_, ?_, ?_, ?_, ?_⟩ <;> simp only [go_sem, simprocAttr, decide_eq_true_eq, Int.natCast_add, Int.natCast_one] <;> try first | omega | ((repeat' (first | exact And.intro rfl (by omega) | (refine And.intro ?_ ?_))) <;> first | rfl | omega | (congr 3; omega) | (congr 2; omega))
          · have hi2 : i = 4 - 1 := by omega
            subst hi2
            simp only [Nat.reduceSub] at hacc ⊢
            simp (implicitDefEqProofs := false) (disch := omega) only [go_sem, simprocAttr, go_sem, ↓ix_enc, encI_len, encI_take, Nat.le_refl]
            with_reducible refine CallOk.of (ris_ok _) rfl ?_
            simp (implicitDefEqProofs := false) (disch := omega) only [go_sem, simprocAttr, go_sem, ↓ix_enc, encI_len, encI_take, Nat.le_refl]
            with_reducible refine ifK_bsplit (fun hn => ?_) (fun hn => ?_)
            · have hn' : isF (accF s a 4 (4 - 1)) = false := by simpa using hn
              simp (implicitDefEqProofs := false) (disch := omega) only [go_sem, simprocAttr, go_sem, ↓ix_enc, encI_len, encI_take, Nat.le_refl]
              refine ⟨⟨5, by omega, by omega, ?_⟩, by simp only; omega, ?_⟩
              · rw [g3]
                simp only [firstF]
                rw [if_neg (by omega), hn', Bool.false_and]
                rfl
              · refine ⟨?_, ?_, ?_, ?_, ?_, ?_, ?_⟩ <;> simp only [go_sem, simprocAttr, decide_eq_true_eq, Int.cast_ofNat_Int] <;> try first | omega | ((repeat' (first | exact And.intro rfl (by omega) | (refine And.intro ?_ ?_))) <;> first | rfl | omega | (congr 3; omega) | (congr 2; omega))
            · have hn' : isF (accF s a 4 (4 - 1)) = true := by simpa using hn
              have hp : 0 ≤ accF s a 4 (4 - 1) ∧ accF s a 4 (4 - 1) ≤ 1114111 := by
                unfold isF at hn'
                simp only [decide_eq_true_eq] at hn'
                omega
              simp only [Nat.reduceSub] at hp
              simp (implicitDefEqProofs := false) (disch := omega) only [go_sem, simprocAttr, go_sem, ↓ix_enc, encI_len, encI_take, Nat.le_refl]
              with_reducible refine CallOk.of (bytes_ok _ hp.1 hp.2) rfl ?_
              simp (implicitDefEqProofs := false) (disch := omega) only [go_sem, simprocAttr, go_sem, ↓ix_enc, encI_len, encI_take, Nat.le_refl]
              refine p_loop (ι := { j : Nat // j ≤ 4 }) (fun j => ⟨[(12, vI j.1), (11, vB (sameF (bytesF (accF s a 4 (4 - 1))) s a 4 j.1)), (10, .sl (encI (bytesF (accF s a 4 (4 - 1))))), (8, vI (accF s a 4 (4 - 1))), (6, vI 4), (0, vS s), (1, vI a)], [], [], 9, 9⟩) (fun j => 4 - j.1) ⟨0, by omega⟩ ?_ ?_
              · simp only [sameF, Int.cast_ofNat_Int, Int.natCast_one]
                refine ⟨?_, ?_, ?_, ?_, ?_, ?_, ?_⟩ <;> simp only [go_sem, simprocAttr, decide_eq_true_eq, Int.natCast_zero] <;> try first | omega | ((repeat' (first | exact And.intro rfl (by omega) | (refine And.intro ?_ ?_))) <;> first | rfl | omega | (congr 3; omega) | (congr 2; omega))
              · rintro ⟨j, hj⟩
                simp only
                generalize hbs : bytesF (accF s a 4 (4 - 1)) = B at *
                have hbj := bt_range s (a + j)
                simp (implicitDefEqProofs := false) (disch := omega) only [go_sem, simprocAttr, go_sem, ↓ix_enc, encI_len, encI_take, Nat.le_refl]
                with_reducible refine ifK_bsplit (fun hs1 => ?_) (fun hs1 => ?_)
                · have hlen := sameF_len hs1
                  simp (implicitDefEqProofs := false) (disch := omega) only [go_sem, simprocAttr, go_sem, ↓ix_enc, encI_len, encI_take, Nat.le_refl, hs1]
                  with_reducible refine ifK_split (fun hj1 => ?_) (fun hj1 => ?_)
                  · simp (implicitDefEqProofs := false) (disch := omega) only [go_sem, simprocAttr, go_sem, ↓ix_enc, encI_len, encI_take, Nat.le_refl, hs1]
                    have e3 : sameF B s a 4 (j + 1) = decide (B.getD j 0 = bt s (a + j)) := by simp only [sameF, hs1, Bool.true_and]
                    refine ⟨⟨j + 1, by omega⟩, by simp only; omega, ?_⟩
                    simp only [e3]
                    refine ⟨?_, ?_, ?_, ?_, ?_, ?_, ?_⟩ <;> simp only [go_sem, simprocAttr, decide_eq_true_eq, Int.natCast_add, Int.natCast_one] <;> try first | omega | ((repeat' (first | exact And.intro rfl (by omega) | (refine And.intro ?_ ?_))) <;> first | rfl | omega | (congr 3; omega) | (congr 2; omega))
                  · have hj2 : j = 4 := by omega
                    subst hj2
                    simp (implicitDefEqProofs := false) (disch := omega) only [go_sem, simprocAttr, go_sem, ↓ix_enc, encI_len, encI_take, Nat.le_refl, hs1, Tryd.results36]
                    rw [g3]
                    simp only [firstF]
                    rw [if_neg (by omega), hn', hbs, hs1]
                    rfl
                · have hs2 := sameF_false hs1 (4 - j)
                  rw [show j + (4 - j) = 4 by omega] at hs2
                  simp (implicitDefEqProofs := false) (disch := omega) only [go_sem, simprocAttr, go_sem, ↓ix_enc, encI_len, encI_take, Nat.le_refl, hs1]
                  refine ⟨⟨5, by omega, by omega, ?_⟩, by simp only; omega, ?_⟩
                  · rw [g3]
                    simp only [firstF]
                    rw [if_neg (by omega), hn', hbs, hs2]
                    rfl
                  · refine ⟨?_, ?_, ?_, ?_, ?_, ?_, ?_⟩ <;> simp only [go_sem, simprocAttr, decide_eq_true_eq, Int.cast_ofNat_Int] <;> try first | omega | ((repeat' (first | exact And.intro rfl (by omega) | (refine And.intro ?_ ?_))) <;> first | rfl | omega | (congr 3; omega) | (congr 2; omega))
    · simp only [Int.cast_ofNat_Int]
      simp (implicitDefEqProofs := false) (disch := omega) only [go_sem, simprocAttr, go_sem, ↓ix_enc, encI_len, encI_take, Nat.le_refl, Tryd.results36]
      rw [g3]
      rfl

end Go.Proofs.YtmfaejdnaippkaaDoor

end
section
/-
  Contracts and plain laws on the way to the statement; each says its own conditions.
-/

open Go Go.Proofs Go.Pw
namespace Go.Proofs.YtmfaejdnaippkaaDoor
set_option maxRecDepth 4000
set_option linter.unusedVariables false
set_option linter.unusedSimpArgs false
def byteN (s : ByteArray) (i : Nat) : Nat := (s.data.toList.getD i 0).toNat
theorem byteN_lt (s : ByteArray) (i : Nat) : byteN s i < 256 := UInt8.toNat_lt _
theorem bt_byteN (s : ByteArray) (i : Nat) : bt s i = byteN s i := rfl
theorem get!_byteN (s : ByteArray) (i : Nat) : (s.get! i).toNat = byteN s i := by
  unfold byteN
  cases s with
  | mk a =>
    show (a[i]!).toNat = _
    rw [getElem!_def, List.getD_eq_getElem?_getD]
    simp only [Array.getElem?_toList]
    cases a[i]? <;> rfl
def goodN (r : Nat × Nat) : Int × Int := if r = (65533, 1) then (-1, 0) else (r.1, r.2)
theorem try1 (s : ByteArray) (i : Nat) : (isF (accF s i 1 0) && sameF (bytesF (accF s i 1 0)) s i 1 1) = decide (byteN s i < 128) := by
  have hb := byteN_lt s i
  have e : accF s i 1 0 = byteN s i := by simp [accF, headF, bt_byteN]
  rw [e]
  simp only [sameF, isF, Int.natCast_zero, Int.add_zero, bt_byteN]
  unfold bytesF
  rw [Bool.eq_iff_iff]
  simp only [Bool.and_eq_true, decide_eq_true_eq]
  split
  · simp; omega
  · rw [if_pos (by omega)]
    simp
    omega
theorem try2 (s : ByteArray) (i : Nat) : (isF (accF s i 2 1) && sameF (bytesF (accF s i 2 1)) s i 2 2) = decide (194 ≤ byteN s i ∧ byteN s i < 224 ∧ 128 ≤ byteN s (i + 1) ∧ byteN s (i + 1) < 192) := by
  have hb := byteN_lt s i
  have hb1 := byteN_lt s (i + 1)
  have e : accF s i 2 1 = ((byteN s i : Int) - 192) * 64 + byteN s (i + 1) - 128 := by
    have : ((i : Int) + (((0 : Nat) : Int) + 1)) = ((i + 1 : Nat) : Int) := by omega
    simp only [accF, headF, bt_byteN, this]
  rw [e]
  have e1 : ((i : Int) + ((1 : Nat) : Int)) = ((i + 1 : Nat) : Int) := by omega
  simp only [sameF, isF, Int.natCast_zero, Int.add_zero, bt_byteN, e1]
  generalize byteN s i = x at *
  generalize byteN s (i + 1) = y at *
  unfold bytesF
  rw [Bool.eq_iff_iff]
  simp only [Bool.and_eq_true, decide_eq_true_eq]
  repeat' split
  all_goals simp
  all_goals omega
theorem try3 (s : ByteArray) (i : Nat) : (isF (accF s i 3 2) && sameF (bytesF (accF s i 3 2)) s i 3 3) = decide (224 ≤ byteN s i ∧ byteN s i < 240 ∧ 128 ≤ byteN s (i + 1) ∧ byteN s (i + 1) < 192 ∧ 128 ≤ byteN s (i + 2) ∧ byteN s (i + 2) < 192 ∧
    2048 ≤ (byteN s i - 224) * 4096 + (byteN s (i + 1) - 128) * 64 + (byteN s (i + 2) - 128) ∧ ((byteN s i - 224) * 4096 + (byteN s (i + 1) - 128) * 64 + (byteN s (i + 2) - 128) < 55296 ∨ 57344 ≤ (byteN s i - 224) * 4096 + (byteN s (i + 1) - 128) * 64 + (byteN s (i + 2) - 128))) := by
  have hb := byteN_lt s i
  have hb1 := byteN_lt s (i + 1)
  have hb2 := byteN_lt s (i + 2)
  have e : accF s i 3 2 = (((byteN s i : Int) - 224) * 64 + byteN s (i + 1) - 128) * 64 + byteN s (i + 2) - 128 := by
    have h1 : ((i : Int) + (((0 : Nat) : Int) + 1)) = ((i + 1 : Nat) : Int) := by omega
    have h2 : ((i : Int) + (((1 : Nat) : Int) + 1)) = ((i + 2 : Nat) : Int) := by omega
    simp only [accF, headF, bt_byteN, h1, h2]
  rw [e]
  have e1 : ((i : Int) + ((1 : Nat) : Int)) = ((i + 1 : Nat) : Int) := by omega
  have e2 : ((i : Int) + ((2 : Nat) : Int)) = ((i + 2 : Nat) : Int) := by omega
  simp only [sameF, isF, Int.natCast_zero, Int.add_zero, bt_byteN, e1, e2]
  generalize byteN s i = x at *
  generalize byteN s (i + 1) = y at *
  generalize byteN s (i + 2) = z at *
  unfold bytesF
  rw [Bool.eq_iff_iff]
  simp only [Bool.and_eq_true, decide_eq_true_eq]
  repeat' split
  all_goals simp
  all_goals omega
theorem try4 (s : ByteArray) (i : Nat) : (isF (accF s i 4 3) && sameF (bytesF (accF s i 4 3)) s i 4 4) = decide (240 ≤ byteN s i ∧ byteN s i < 248 ∧ 128 ≤ byteN s (i + 1) ∧ byteN s (i + 1) < 192 ∧ 128 ≤ byteN s (i + 2) ∧ byteN s (i + 2) < 192 ∧ 128 ≤ byteN s (i + 3) ∧ byteN s (i + 3) < 192 ∧
    65536 ≤ (byteN s i - 240) * 262144 + (byteN s (i + 1) - 128) * 4096 + (byteN s (i + 2) - 128) * 64 + (byteN s (i + 3) - 128) ∧ (byteN s i - 240) * 262144 + (byteN s (i + 1) - 128) * 4096 + (byteN s (i + 2) - 128) * 64 + (byteN s (i + 3) - 128) ≤ 1114111) := by
  have hb := byteN_lt s i
  have hb1 := byteN_lt s (i + 1)
  have hb2 := byteN_lt s (i + 2)
  have hb3 := byteN_lt s (i + 3)
  have e : accF s i 4 3 = ((((byteN s i : Int) - 240) * 64 + byteN s (i + 1) - 128) * 64 + byteN s (i + 2) - 128) * 64 + byteN s (i + 3) - 128 := by
    have h1 : ((i : Int) + (((0 : Nat) : Int) + 1)) = ((i + 1 : Nat) : Int) := by omega
    have h2 : ((i : Int) + (((1 : Nat) : Int) + 1)) = ((i + 2 : Nat) : Int) := by omega
    have h3 : ((i : Int) + (((2 : Nat) : Int) + 1)) = ((i + 3 : Nat) : Int) := by omega
    simp only [accF, headF, bt_byteN, h1, h2, h3]
  rw [e]
  have e1 : ((i : Int) + ((1 : Nat) : Int)) = ((i + 1 : Nat) : Int) := by omega
  have e2 : ((i : Int) + ((2 : Nat) : Int)) = ((i + 2 : Nat) : Int) := by omega
  have e3 : ((i : Int) + ((3 : Nat) : Int)) = ((i + 3 : Nat) : Int) := by omega
  simp only [sameF, isF, Int.natCast_zero, Int.add_zero, bt_byteN, e1, e2, e3]
  generalize byteN s i = x at *
  generalize byteN s (i + 1) = y at *
  generalize byteN s (i + 2) = z at *
  generalize byteN s (i + 3) = t at *
  unfold bytesF
  rw [Bool.eq_iff_iff]
  simp only [Bool.and_eq_true, decide_eq_true_eq]
  repeat' split
  all_goals simp
  all_goals omega
theorem acc1 (s : ByteArray) (i : Nat) : accF s i 1 0 = byteN s i := by simp [accF, headF, bt_byteN]
theorem acc2 (s : ByteArray) (i : Nat) : accF s i 2 1 = ((byteN s i : Int) - 192) * 64 + byteN s (i + 1) - 128 := by
  have : ((i : Int) + (((0 : Nat) : Int) + 1)) = ((i + 1 : Nat) : Int) := by omega
  simp only [accF, headF, bt_byteN, this]
theorem acc3 (s : ByteArray) (i : Nat) : accF s i 3 2 = (((byteN s i : Int) - 224) * 64 + byteN s (i + 1) - 128) * 64 + byteN s (i + 2) - 128 := by
  have h1 : ((i : Int) + (((0 : Nat) : Int) + 1)) = ((i + 1 : Nat) : Int) := by omega
  have h2 : ((i : Int) + (((1 : Nat) : Int) + 1)) = ((i + 2 : Nat) : Int) := by omega
  simp only [accF, headF, bt_byteN, h1, h2]
theorem acc4 (s : ByteArray) (i : Nat) : accF s i 4 3 = ((((byteN s i : Int) - 240) * 64 + byteN s (i + 1) - 128) * 64 + byteN s (i + 2) - 128) * 64 + byteN s (i + 3) - 128 := by
  have h1 : ((i : Int) + (((0 : Nat) : Int) + 1)) = ((i + 1 : Nat) : Int) := by omega
  have h2 : ((i : Int) + (((1 : Nat) : Int) + 1)) = ((i + 2 : Nat) : Int) := by omega
  have h3 : ((i : Int) + (((2 : Nat) : Int) + 1)) = ((i + 3 : Nat) : Int) := by omega
  simp only [accF, headF, bt_byteN, h1, h2, h3]
set_option maxHeartbeats 4000000 in
/-- What the reference finds first is what the model's decode finds. -/
theorem first_decode (s : ByteArray) (i : Nat) (h : i < s.size) : firstF s i 4 1 = goodN (Utf8.decode s i) := by
  rw [Lib.decode_at]
  simp only [get!_byteN]
  have hb := byteN_lt s i
  have hb1 := byteN_lt s (i + 1)
  have hb2 := byteN_lt s (i + 2)
  have hb3 := byteN_lt s (i + 3)
  simp only [firstF, Nat.reduceSub, Nat.reduceAdd, try1, try2, try3, try4]
  simp only [acc1, acc2, acc3, acc4, decide_eq_true_eq]
  unfold Lib.decodeN
  generalize byteN s i = x at *
  generalize byteN s (i + 1) = y at *
  generalize byteN s (i + 2) = z at *
  generalize byteN s (i + 3) = t at *
  rw [if_neg (by omega)]
  unfold goodN
  repeat' split
  all_goals first
    | rfl
    | (exfalso; omega)
    | exact absurd rfl (by assumption)
    | exact Prod.ext (by simp only; omega) rfl
    | (simp only [Prod.mk.injEq] at *; omega)

end Go.Proofs.YtmfaejdnaippkaaDoor

end
section
/-
  Contracts and plain laws on the way to the statement; each says its own conditions.
-/
open Go Go.Proofs Go.Pw
namespace Go.Proofs.YtmfaejdnaippkaaDoor
set_option maxRecDepth 4000
set_option linter.unusedVariables false
set_option linter.unusedSimpArgs false
abbrev vR (n : Int) : PV := .val (.int .i32 n)
def runeLenF (n : Int) : Int := if n < 0 then -1 else if n ≤ 127 then 1 else if n ≤ 2047 then 2 else if 55296 ≤ n ∧ n ≤ 57343 then -1 else if n ≤ 65535 then 3 else if n ≤ 1114111 then 4 else -1
theorem runeLen_ok (n : Int) : Ok Tryd.prog 42 [vR n] (vI (runeLenF n)) := by
  refine Ok.of_pwp (by kernel_rfl) Tryd.func42 rfl (by kernel_rfl) (by kernel_rfl) ?_
  unfold runeLenF
  simp (implicitDefEqProofs := false) (disch := omega) only [go_sem, simprocAttr, go_sem, ↓ix_enc, encI_len, encI_take, Nat.le_refl, Tryd.results42]
  repeat' ((first
    | with_reducible refine ifK_split (fun _ => ?_) (fun _ => ?_)) <;> try simp (implicitDefEqProofs := false) (disch := omega) only [go_sem, simprocAttr, go_sem, ↓ix_enc, encI_len, encI_take, Nat.le_refl, Tryd.results42])
  all_goals (congr 2; repeat' split)
  all_goals first | rfl | (exfalso; omega)
def hasPF (s p : ByteArray) : Bool := decide (p.size ≤ s.size) && decide (s.extract 0 p.size = p)
theorem hasP2_ok (s p : ByteArray) : Ok Tryd.prog 58 [vS s, vS p] (vB (hasPF s p)) := by
  refine Ok.of_pwp (by kernel_rfl) Tryd.func58 rfl (by kernel_rfl) (by kernel_rfl) ?_
  simp (implicitDefEqProofs := false) (disch := omega) only [go_sem, simprocAttr, go_sem, ↓ix_enc, encI_len, encI_take, Nat.le_refl, Tryd.results58]
  with_reducible refine ifK_split (fun h => ?_) (fun h => ?_)
  · simp (implicitDefEqProofs := false) (disch := omega) only [go_sem, simprocAttr, go_sem, ↓ix_enc, encI_len, encI_take, Nat.le_refl, Tryd.results58]
    unfold hasPF
    rw [decide_eq_true (by omega : p.size ≤ s.size), Bool.true_and]
  · simp (implicitDefEqProofs := false) (disch := omega) only [go_sem, simprocAttr, go_sem, ↓ix_enc, encI_len, encI_take, Nat.le_refl, Tryd.results58]
    unfold hasPF
    rw [decide_eq_false (by omega : ¬ p.size ≤ s.size), Bool.false_and]
theorem hasP_ok (s p : ByteArray) : Ok Tryd.prog 43 [vS s, vS p] (vB (hasPF s p)) := by
  refine Ok.of_pwp (by kernel_rfl) Tryd.func43 rfl (by kernel_rfl) (by kernel_rfl) ?_
  simp (implicitDefEqProofs := false) (disch := omega) only [go_sem, simprocAttr, go_sem, ↓ix_enc, encI_len, encI_take, Nat.le_refl, Tryd.results43]
  with_reducible refine CallOk.of (hasP2_ok _ _) rfl ?_
  simp (implicitDefEqProofs := false) (disch := omega) only [go_sem, simprocAttr, go_sem, ↓ix_enc, encI_len, encI_take, Nat.le_refl, Tryd.results43]
def decF (s : ByteArray) : Int × Int := if s.size = 0 then (-1, 0) else if ((Utf8.decode s 0).1 : Int) = 65533 ∧ hasPF s ⟨#[239, 191, 189]⟩ = false then (-1, 0) else ((Utf8.decode s 0).1, runeLenF (Utf8.decode s 0).1)
set_option maxHeartbeats 1000000 in
theorem decode_ok0 (s : ByteArray) (hs : s.size ≤ 140737488351232) : Ok Tryd.prog 26 [vS s] (twoP (decF s).1 (decF s).2) := by
  refine Ok.of_pwp (by kernel_rfl) Tryd.func26 rfl (by kernel_rfl) (by kernel_rfl) ?_
  have hle := decode_le s 0
  generalize hr : decF s = r
  unfold decF at hr
  simp (implicitDefEqProofs := false) (disch := omega) only [go_sem, simprocAttr, go_sem, ↓ix_enc, encI_len, encI_take, Nat.le_refl]
  refine p_loop (ι := Unit) (fun _ => ⟨[(8, .ptr 3 0), (0, vS s)], [(3, .iter s 0)], [], 4, 4⟩) (fun _ => 0) () ?_ ?_
  · refine ⟨?_, ?_, ?_, ?_, ?_, ?_, ?_⟩ <;> simp only [go_sem, simprocAttr, decide_eq_true_eq, Nat.le_refl] <;> try first | omega | ((repeat' (first | exact And.intro rfl (by omega) | (refine And.intro ?_ ?_))) <;> first | rfl | omega | (congr 3; omega) | (congr 2; omega))
  · intro _
    simp (implicitDefEqProofs := false) (disch := omega) only [go_sem, simprocAttr, go_sem, ↓ix_enc, encI_len, encI_take, Nat.le_refl]
    with_reducible refine ifK_split (fun h => ?_) (fun h => ?_)
    · rw [if_neg (by omega)] at hr
      simp (implicitDefEqProofs := false) (disch := omega) only [go_sem, simprocAttr, go_sem, ↓ix_enc, encI_len, encI_take, Nat.le_refl]
      with_reducible refine CallOk.of (runeLen_ok _) rfl ?_
      simp (implicitDefEqProofs := false) (disch := omega) only [go_sem, simprocAttr, go_sem, ↓ix_enc, encI_len, encI_take, Nat.le_refl]
      with_reducible refine ifK_split (fun h2 => ?_) (fun h2 => ?_)
      · simp (implicitDefEqProofs := false) (disch := omega) only [go_sem, simprocAttr, go_sem, ↓ix_enc, encI_len, encI_take, Nat.le_refl]
        with_reducible refine CallOk.of (hasP_ok _ _) rfl ?_
        simp (implicitDefEqProofs := false) (disch := omega) only [go_sem, simprocAttr, go_sem, ↓ix_enc, encI_len, encI_take, Nat.le_refl]
        with_reducible refine ifK_bsplit (fun h3 => ?_) (fun h3 => ?_)
        · simp (implicitDefEqProofs := false) (disch := omega) only [go_sem, simprocAttr, go_sem, ↓ix_enc, encI_len, encI_take, Nat.le_refl, Tryd.results26]
          rw [if_pos ⟨by omega, by simpa using h3⟩] at hr
          rw [← hr]
        · simp (implicitDefEqProofs := false) (disch := omega) only [go_sem, simprocAttr, go_sem, ↓ix_enc, encI_len, encI_take, Nat.le_refl, Tryd.results26]
          rw [if_neg (by rintro ⟨_, h4⟩; rw [h4] at h3; cases h3)] at hr
          rw [← hr]
      · simp (implicitDefEqProofs := false) (disch := omega) only [go_sem, simprocAttr, go_sem, ↓ix_enc, encI_len, encI_take, Nat.le_refl, Tryd.results26]
        rw [if_neg (by rintro ⟨h4, _⟩; exact h2 h4)] at hr
        rw [← hr]
    · simp (implicitDefEqProofs := false) (disch := omega) only [go_sem, simprocAttr, go_sem, ↓ix_enc, encI_len, encI_take, Nat.le_refl, Tryd.results26]
      rw [if_pos (by omega)] at hr
      rw [← hr]

end Go.Proofs.YtmfaejdnaippkaaDoor

end
section
/-
  Contracts and plain laws on the way to the statement; each says its own conditions.
-/

open Go Go.Proofs Go.Pw
namespace Go.Proofs.YtmfaejdnaippkaaDoor
set_option maxRecDepth 4000
set_option linter.unusedVariables false
set_option linter.unusedSimpArgs false
theorem hasPF_eq (s : ByteArray) : hasPF s ⟨#[239, 191, 189]⟩ = decide (3 ≤ s.size ∧ byteN s 0 = 239 ∧ byteN s 1 = 191 ∧ byteN s 2 = 189) := by
  have e : ∀ (p : ByteArray), (s.extract 0 p.size = p) = ((s.data.toList.take p.size) = p.data.toList) := fun p => by
    rw [← str_eq]
    simp
  unfold hasPF byteN
  rw [Bool.eq_iff_iff]
  simp only [Bool.and_eq_true, decide_eq_true_eq]
  rw [e]
  rw [show (⟨#[239, 191, 189]⟩ : ByteArray).size = 3 from rfl, show (⟨#[239, 191, 189]⟩ : ByteArray).data.toList = [239, 191, 189] from rfl]
  have hsz : s.size = s.data.toList.length := (Array.length_toList).symm
  rw [hsz]
  generalize s.data.toList = l
  have k0 : ∀ x : UInt8, (x.toNat = 239) = (x = 239) := fun x => propext ⟨fun h => UInt8.toNat_inj.1 h, fun h => by rw [h]; rfl⟩
  have k1 : ∀ x : UInt8, (x.toNat = 191) = (x = 191) := fun x => propext ⟨fun h => UInt8.toNat_inj.1 h, fun h => by rw [h]; rfl⟩
  have k2 : ∀ x : UInt8, (x.toNat = 189) = (x = 189) := fun x => propext ⟨fun h => UInt8.toNat_inj.1 h, fun h => by rw [h]; rfl⟩
  match l with
  | [] => simp
  | [a] => simp
  | [a, b] => simp
  | a :: b :: c :: r => simp [k0, k1, k2]
set_option maxHeartbeats 4000000 in
theorem decN_shape (n x y z t : Nat) (hn : 0 < n) (hb : x < 256) (hb1 : y < 256) (hb2 : z < 256) (hb3 : t < 256) :
    (Lib.decodeN n x y z t = (65533, 1) ∧ ¬ (3 ≤ n ∧ x = 239 ∧ y = 191 ∧ z = 189)) ∨
    (Lib.decodeN n x y z t ≠ (65533, 1) ∧ runeLenF (Lib.decodeN n x y z t).1 = (Lib.decodeN n x y z t).2 ∧ ((Lib.decodeN n x y z t).1 = 65533 → (3 ≤ n ∧ x = 239 ∧ y = 191 ∧ z = 189))) := by
  have nope : ∀ a b : Nat, (a ≠ 65533 ∨ b ≠ 1) → (a, b) ≠ (65533, 1) := fun a b h e => by
    rw [Prod.mk.injEq] at e
    omega
  unfold Lib.decodeN
  repeat' split
  all_goals first
    | exact .inl ⟨rfl, by omega⟩
    | (refine .inr ⟨nope _ _ (by omega), ?_, fun h => by simp only at h; omega⟩
       unfold runeLenF
       simp only
       repeat' split
       all_goals omega)
/-- What the program decodes is what the model's decode finds. -/
theorem decF_good (s : ByteArray) (h : 0 < s.size) : decF s = goodN (Utf8.decode s 0) := by
  unfold decF
  rw [if_neg (by omega), hasPF_eq, Lib.decode_at]
  simp only [get!_byteN, decide_eq_false_iff_not, Nat.zero_add]
  have sh := decN_shape (s.size - 0) (byteN s 0) (byteN s 1) (byteN s 2) (byteN s 3) (by omega) (byteN_lt s 0) (byteN_lt s 1) (byteN_lt s 2) (byteN_lt s 3)
  generalize Lib.decodeN (s.size - 0) (byteN s 0) (byteN s 1) (byteN s 2) (byteN s 3) = r at *
  unfold goodN
  rcases sh with ⟨rfl, h2⟩ | ⟨h1, h2, h3⟩
  · rw [if_pos rfl, if_pos ⟨rfl, by omega⟩]
  · rw [if_neg h1, if_neg (by rintro ⟨h4, h5⟩; exact h5 (by have := h3 (by omega); omega)), h2]
theorem decF_nil (s : ByteArray) (h : s.size = 0) : decF s = (-1, 0) := by unfold decF; rw [if_pos h]
end Go.Proofs.YtmfaejdnaippkaaDoor

end
section
/-
  Contracts and plain laws on the way to the statement; each says its own conditions.
-/
open Go Go.Proofs Go.Pw
namespace Go.Proofs.YtmfaejdnaippkaaDoor
set_option maxRecDepth 4000
set_option linter.unusedVariables false
set_option linter.unusedSimpArgs false
theorem dec_pos (s : ByteArray) (i : Nat) (h : i < s.size) : 1 ≤ (Utf8.decode s i).2 ∧ i + (Utf8.decode s i).2 ≤ s.size := by
  refine ⟨Lib.decode_width_pos s i h, ?_⟩
  rw [Lib.decode_at]
  have := Lib.decodeN_width_le (s.size - i) (s.get! i).toNat (s.get! (i + 1)).toNat (s.get! (i + 2)).toNat (s.get! (i + 3)).toNat (by omega)
  omega
/-- The points of bytes from a place on, ags far ags they are some; where that ends. -/
def scan (s : ByteArray) (i : Nat) : List Int × Nat :=
  if h : i < s.size then
    if Utf8.decode s i = (65533, 1) then ([], i) else (((Utf8.decode s i).1 : Int) :: (scan s (i + (Utf8.decode s i).2)).1, (scan s (i + (Utf8.decode s i).2)).2)
  else ([], i)
termination_by s.size - i
decreasing_by all_goals (have := dec_pos s i h; omega)
theorem scan_end {s : ByteArray} {i : Nat} (h : ¬ i < s.size) : scan s i = ([], i) := by rw [scan, dif_neg h]
theorem scan_bad {s : ByteArray} {i : Nat} (h : i < s.size) (hb : Utf8.decode s i = (65533, 1)) : scan s i = ([], i) := by rw [scan, dif_pos h, if_pos hb]
theorem scan_step {s : ByteArray} {i : Nat} (h : i < s.size) (hb : ¬ Utf8.decode s i = (65533, 1)) : scan s i = (((Utf8.decode s i).1 : Int) :: (scan s (i + (Utf8.decode s i).2)).1, (scan s (i + (Utf8.decode s i).2)).2) := by rw [scan, dif_pos h, if_neg hb]
theorem scan_len (s : ByteArray) (i : Nat) (hi : i ≤ s.size) : i ≤ (scan s i).2 ∧ (scan s i).2 ≤ s.size ∧ (scan s i).1.length ≤ s.size - i := by
  by_cases h : i < s.size
  · by_cases hb : Utf8.decode s i = (65533, 1)
    · rw [scan_bad h hb]; exact ⟨by simp, by simpa using hi, by simp⟩
    · have hp := dec_pos s i h
      have ih := scan_len s (i + (Utf8.decode s i).2) hp.2
      rw [scan_step h hb]
      simp only [List.length_cons]
      omega
  · rw [scan_end h]; exact ⟨by simp, by simpa using hi, by simp⟩
termination_by s.size - i
theorem first_good {s : ByteArray} {i : Nat} (h : i < s.size) (hb : ¬ Utf8.decode s i = (65533, 1)) : firstF s i 4 1 = (((Utf8.decode s i).1 : Int), ((Utf8.decode s i).2 : Int)) := by rw [first_decode s i h, goodN, if_neg hb]
theorem first_bad {s : ByteArray} {i : Nat} (h : i < s.size) (hb : Utf8.decode s i = (65533, 1)) : firstF s i 4 1 = (-1, 0) := by rw [first_decode s i h, goodN, if_pos hb]
theorem decF_tail {s : ByteArray} {i : Nat} (h : i < s.size) : decF (s.extract i s.size) = goodN (Utf8.decode s i) := by
  rw [decF_good _ (by rw [Lib.tail_size]; omega), Lib.tail_decode, Nat.add_zero]
def rptsS (s : ByteArray) (i k : Nat) (xs : List Int) : PS :=
  ⟨[(4, rowI k xs), (5, vI i), (0, vS s)], [], tokI k 3 xs, 0, k + 1⟩
set_option maxHeartbeats 4000000 in
theorem rpoints_ok (s : ByteArray) (hs : s.size ≤ 1000000) : Ok Tryd.prog 18 [vS s] (.tup [.sl (encI (scan s 0).1), vI (scan s 0).2]) := by
  refine Ok.of_pwp (by kernel_rfl) Tryd.func18 rfl (by kernel_rfl) (by kernel_rfl) ?_
  generalize hr : scan s 0 = r
  simp (implicitDefEqProofs := false) (disch := omega) only [go_sem, simprocAttr, go_sem, ↓ix_enc, encI_len, encI_take, Nat.le_refl, Tryd.results18]
  refine p_loop (ι := { p : Nat × Nat × List Int // p.1 ≤ s.size ∧ p.2.2.length ≤ p.1 ∧ r = (p.2.2 ++ (scan s p.1).1, (scan s p.1).2) }) (fun p => rptsS s p.1.1 p.1.2.1 p.1.2.2) (fun p => s.size - p.1.1) ⟨(0, 0, []), Nat.zero_le _, Nat.zero_le _, by simp [hr]⟩ ?_ ?_
  · simp only [rptsS, rowI, tokI]
    refine ⟨?_, ?_, ?_, ?_, ?_, ?_, ?_⟩ <;> simp only [go_sem, simprocAttr, decide_eq_true_eq, Int.natCast_zero] <;> try first | omega | ((repeat' (first | exact And.intro rfl (by omega) | (refine And.intro ?_ ?_))) <;> first | rfl | omega | (congr 3; omega) | (congr 2; omega))
  · rintro ⟨⟨i, k, xs⟩, h1, h2, h3⟩
    simp only at h1 h2 h3
    simp only [rptsS]
    simp (implicitDefEqProofs := false) (disch := omega) only [go_sem, simprocAttr, go_sem, ↓ix_enc, encI_len, encI_take, Nat.le_refl, Tryd.results18]
    with_reducible refine ifK_split (fun hlt => ?_) (fun hge => ?_)
    · have hlt' : i < s.size := by omega
      have f := first_ok s i (by omega) (by omega) (by omega)
      by_cases hb : Utf8.decode s i = (65533, 1)
      · rw [first_bad hlt' hb] at f
        rw [scan_bad hlt' hb] at h3
        simp (implicitDefEqProofs := false) (disch := omega) only [go_sem, simprocAttr, go_sem, ↓ix_enc, encI_len, encI_take, Nat.le_refl, Tryd.results18]
        with_reducible refine CallOk.of f rfl ?_
        simp (implicitDefEqProofs := false) (disch := omega) only [go_sem, simprocAttr, go_sem, ↓ix_enc, encI_len, encI_take, Nat.le_refl, Tryd.results18]
        simp only [List.append_nil] at h3
        cases xs with
        | nil =>
          simp only [rowI]
          simp (implicitDefEqProofs := false) (disch := omega) only [go_sem, simprocAttr, go_sem, ↓ix_enc, encI_len, encI_take, Nat.le_refl, Tryd.results18]
          rw [h3]; rfl
        | cons x q =>
          simp only [rowI]
          simp (implicitDefEqProofs := false) (disch := omega) only [go_sem, simprocAttr, go_sem, ↓ix_enc, encI_len, encI_take, Nat.le_refl, Tryd.results18]
          rw [h3]
      · rw [first_good hlt' hb] at f
        have hp := dec_pos s i hlt'
        rw [scan_step hlt' hb] at h3
        generalize Utf8.decode s i = d at *
        simp (implicitDefEqProofs := false) (disch := omega) only [go_sem, simprocAttr, go_sem, ↓ix_enc, encI_len, encI_take, Nat.le_refl, Tryd.results18]
        with_reducible refine CallOk.of f rfl ?_
        have hd0 : ¬ ((d.2 : Int) = 0) := by omega
        cases xs with
        | nil =>
          simp only [rowI, tokI]
          simp (implicitDefEqProofs := false) (disch := omega) only [go_sem, simprocAttr, go_sem, ↓ix_enc, encI_len, encI_take, Nat.le_refl, Tryd.results18]
          refine ⟨⟨(i + d.2, k + 1 + 4 + 8 + 2 + 3, [(d.1 : Int)]), by simp only; omega, by simp only [List.length_singleton]; omega, by simpa using h3⟩, by simp only; omega, ?_⟩
          simp only [rptsS, rowI, tokI, ← encI_one]
          refine ⟨?_, ?_, ?_, ?_, ?_, ?_, ?_⟩ <;> simp only [go_sem, simprocAttr, decide_eq_true_eq, Int.natCast_add, List.length_singleton, ite_self] <;> try first | omega | ((repeat' (first | exact And.intro rfl (by omega) | (refine And.intro ?_ ?_))) <;> first | rfl | omega | (congr 3; omega) | (congr 2; omega))
        | cons x q =>
          simp only [List.length_cons] at h2
          have hq : q.length ≤ 1000000 := by omega
          simp only [rowI, tokI]
          simp (implicitDefEqProofs := false) (disch := omega) only [go_sem, simprocAttr, go_sem, ↓ix_enc, encI_len, encI_take, Nat.le_refl, Tryd.results18]
          refine ⟨⟨(i + d.2, k, x :: (q ++ [(d.1 : Int)])), by simp only; omega, by simp only [List.length_cons, List.length_append, List.length_nil]; omega, by simpa using h3⟩, by simp only; omega, ?_⟩
          simp only [rptsS, rowI, tokI]
          refine ⟨?_, ?_, ?_, ?_, ?_, ?_, ?_⟩ <;> simp only [go_sem, simprocAttr, decide_eq_true_eq, Int.natCast_add, encI_snoc, List.cons_append, List.length_cons, List.length_append, List.length_singleton] <;> try first | omega | ((repeat' (first | exact And.intro rfl (by omega) | (refine And.intro ?_ ?_))) <;> first | rfl | omega | (congr 3; omega) | (congr 2; omega))
    · rw [scan_end (by omega)] at h3
      simp only [List.append_nil] at h3
      cases xs with
      | nil =>
        simp only [rowI]
        simp (implicitDefEqProofs := false) (disch := omega) only [go_sem, simprocAttr, go_sem, ↓ix_enc, encI_len, encI_take, Nat.le_refl, Tryd.results18]
        rw [h3]; rfl
      | cons x q =>
        simp only [rowI]
        simp (implicitDefEqProofs := false) (disch := omega) only [go_sem, simprocAttr, go_sem, ↓ix_enc, encI_len, encI_take, Nat.le_refl, Tryd.results18]
        rw [h3]
theorem rvalid_ok (s : ByteArray) (hs : s.size ≤ 1000000) : Ok Tryd.prog 6 [vS s] (vB (decide ((scan s 0).2 = s.size))) := by
  have e : decide (((scan s 0).2 : Int) = (s.size : Int)) = decide ((scan s 0).2 = s.size) := decide_eq_decide.2 (by omega)
  rw [← e]
  refine Ok.of_pwp (by kernel_rfl) Tryd.func6 rfl (by kernel_rfl) (by kernel_rfl) ?_
  simp (implicitDefEqProofs := false) (disch := omega) only [go_sem, simprocAttr, go_sem, ↓ix_enc, encI_len, encI_take, Nat.le_refl, Tryd.results6]
  with_reducible refine CallOk.of (rpoints_ok s hs) rfl ?_
  simp (implicitDefEqProofs := false) (disch := omega) only [go_sem, simprocAttr, go_sem, ↓ix_enc, encI_len, encI_take, Nat.le_refl, Tryd.results6]

end Go.Proofs.YtmfaejdnaippkaaDoor

end
section
/-
  The text of a list of points: the document's.
-/
open Go Go.Proofs Go.Pw Go.RowKit
namespace Go.Proofs.YtmfaejdnaippkaaDoor
set_option maxRecDepth 4000
set_option linter.unusedSimpArgs false
set_option linter.unusedVariables false
abbrev isPt (n : Int) : Prop := 0 ≤ n ∧ n ≤ 1114111
def textN (l : List Int) : List Int := l.flatMap bytesF
theorem bytesF_byte (n : Int) (h : isPt n) : ∀ x ∈ bytesF n, 0 ≤ x ∧ x ≤ 255 := by
  unfold bytesF
  intro x hx
  split at hx
  · simp at hx; omega
  · split at hx
    · simp at hx; omega
    · split at hx
      · simp at hx; omega
      · simp at hx; omega
theorem bytesF_len (n : Int) : 1 ≤ (bytesF n).length ∧ (bytesF n).length ≤ 4 := by
  unfold bytesF
  repeat' split
  all_goals simp
theorem take_snocJ {a : List Int} {k : Nat} (h : k < a.length) : a.take (k + 1) = a.take k ++ [a.getD k 0] := by
  rw [List.take_succ_eq_append_getElem h, List.getD_eq_getElem?_getD, List.getElem?_eq_getElem h]; rfl
theorem textN_step {l : List Int} {i : Nat} (h : i < l.length) : textN (l.take (i + 1)) = textN (l.take i) ++ bytesF (l.getD i 0) := by
  unfold textN
  rw [take_snocJ h, List.flatMap_append]
  simp
theorem textN_len (l : List Int) : (textN l).length ≤ 4 * l.length := by
  induction l with
  | nil => simp [textN]
  | cons x r ih =>
    have := (bytesF_len x).2
    unfold textN at *
    rw [List.flatMap_cons, List.length_append, List.length_cons]
    omega
def textS (l : List Int) (i tk : Nat) (xs : List Int) : PS :=
  ⟨[(3, rowC tk xs), (9, vI i), (8, vI l.length), (7, .sl (encI l)), (0, .sl (encI l))], [], tokC tk 5 xs, 0, tk + 1⟩
def textT (l b : List Int) (i k tk : Nat) (xs : List Int) : PS :=
  ⟨[(3, rowC tk xs), (19, vI k), (18, vI b.length), (5, .sl (encI b)), (9, vI i), (8, vI l.length), (7, .sl (encI l)), (0, .sl (encI l))], [], tokC tk 5 xs, 0, tk + 1⟩
set_option maxHeartbeats 4000000 in
theorem ptext_ok (l : List Int) (hl : ∀ n ∈ l, isPt n) (hn : l.length ≤ 1000000) : Ok Tryd.prog 28 [.sl (encI l)] (vS (strOfNums (textN l))) := by
  refine Ok.of_pwp (by kernel_rfl) Tryd.func28 rfl (by kernel_rfl) (by kernel_rfl) ?_
  simp (implicitDefEqProofs := false) (disch := omega) only [go_sem, simprocAttr, go_sem, ↓ix_enc, encI_len, encI_take, Nat.le_refl, Tryd.results28]
  refine p_loop (ι := { p : Nat × Nat // p.1 ≤ l.length }) (fun p => textS l p.1.1 p.1.2 (textN (l.take p.1.1))) (fun p => l.length - p.1.1) ⟨(0, 0), Nat.zero_le _⟩ ?_ ?_
  · simp only [textS, List.take_zero, textN, List.flatMap_nil, rowC, tokC]
    refine ⟨?_, ?_, ?_, ?_, ?_, ?_, ?_⟩ <;> simp only [go_sem, simprocAttr, decide_eq_true_eq, Int.natCast_zero] <;> try first | omega | ((repeat' (first | exact And.intro rfl (by omega) | (refine And.intro ?_ ?_))) <;> first | rfl | omega | (congr 3; omega) | (congr 2; omega))
  · rintro ⟨⟨i, tk⟩, hi⟩
    simp only at hi ⊢
    have tl := textN_len (l.take i)
    rw [List.length_take] at tl
    simp only [textS]
    simp (implicitDefEqProofs := false) (disch := omega) only [go_sem, simprocAttr, go_sem, ↓ix_enc, encI_len, encI_take, Nat.le_refl, Tryd.results28]
    with_reducible refine ifK_split (fun hlt => ?_) (fun hge => ?_)
    · simp (implicitDefEqProofs := false) (disch := omega) only [go_sem, simprocAttr, go_sem, ↓ix_enc, encI_len, encI_take, Nat.le_refl, Tryd.results28]
      have hp : isPt (l.getD i 0) := by
        rw [List.getD_eq_getElem?_getD, List.getElem?_eq_getElem (by omega)]
        exact hl _ (List.getElem_mem (by omega))
      with_reducible refine CallOk.of (bytes_ok _ (And.left hp) (And.right hp)) rfl ?_
      simp (implicitDefEqProofs := false) (disch := omega) only [go_sem, simprocAttr, go_sem, ↓ix_enc, encI_len, encI_take, Nat.le_refl, Tryd.results28]
      have hbl := bytesF_len (l.getD i 0)
      have hbb := bytesF_byte (l.getD i 0) hp
      have hst := textN_step (l := l) (i := i) (by omega)
      generalize bytesF (l.getD i 0) = b at *
      refine p_loop (ι := { p : Nat × Nat × List Int // p.1 ≤ b.length ∧ p.2.2 = textN (l.take i) ++ b.take p.1 }) (fun p => textT l b i p.1.1 p.1.2.1 p.1.2.2) (fun p => b.length - p.1.1) ⟨(0, tk, textN (l.take i)), Nat.zero_le _, by simp⟩ ?_ ?_
      · simp only [textT]
        refine ⟨?_, ?_, tokC_weak _ _ _, ?_, ?_, ?_, ?_⟩ <;> simp only [go_sem, simprocAttr, decide_eq_true_eq, rowC_lt, Int.natCast_zero] <;> try omega
      · rintro ⟨⟨k, tk2, xs⟩, hk, hx⟩
        simp only at hk hx ⊢
        have hxl := congrArg List.length hx
        rw [List.length_append, List.length_take] at hxl
        simp only [textT]
        simp (implicitDefEqProofs := false) (disch := omega) only [go_sem, simprocAttr, go_sem, ↓ix_enc, encI_len, encI_take, Nat.le_refl, Tryd.results28]
        with_reducible refine ifK_split (fun hlt2 => ?_) (fun hge2 => ?_)
        · have hgk : 0 ≤ b.getD k 0 ∧ b.getD k 0 ≤ 255 := by
            rw [List.getD_eq_getElem?_getD, List.getElem?_eq_getElem (by omega)]
            exact hbb _ (List.getElem_mem (by omega))
          have hx2 : xs ++ [b.getD k 0] = textN (l.take i) ++ b.take (k + 1) := by rw [hx, take_snocJ (by omega), List.append_assoc]
          cases xs with
          | nil =>
            simp only [rowC, tokC]
            simp (implicitDefEqProofs := false) (disch := omega) only [go_sem, simprocAttr, go_sem, ↓ix_enc, encI_len, encI_take, Nat.le_refl, Tryd.results28, wrap8 hgk.1 hgk.2]
            refine ⟨⟨(k + 1, tk2 + 1 + 1 + 2 + 7, [b.getD k 0]), by simp only; omega, by simpa using hx2⟩, by simp only; omega, ?_⟩
            simp only [textT, rowC, tokC, ← encC_one]
            refine ⟨?_, ?_, ?_, ?_, ?_, ?_, ?_⟩ <;> simp only [go_sem, simprocAttr, decide_eq_true_eq, Int.natCast_add, Int.natCast_one, List.length_singleton, ite_self, List.length_nil, Nat.zero_add] <;> try first | omega | ((repeat' (first | exact And.intro rfl (by omega) | (refine And.intro ?_ ?_))) <;> first | rfl | omega | (congr 3; omega) | (congr 2; omega))
          | cons x r =>
            simp only [List.length_cons] at hxl
            have hrl : r.length ≤ 5000000 := by omega
            simp only [rowC, tokC]
            simp (implicitDefEqProofs := false) (disch := omega) only [go_sem, simprocAttr, go_sem, ↓ix_enc, encI_len, encI_take, Nat.le_refl, Tryd.results28, wrap8 hgk.1 hgk.2]
            refine ⟨⟨(k + 1, tk2, x :: (r ++ [b.getD k 0])), by simp only; omega, by simpa using hx2⟩, by simp only; omega, ?_⟩
            simp only [textT, rowC, tokC]
            refine ⟨?_, ?_, ?_, ?_, ?_, ?_, ?_⟩ <;> simp only [go_sem, simprocAttr, decide_eq_true_eq, Int.natCast_add, Int.natCast_one, List.length_cons, List.length_append, List.length_singleton] <;> try first | omega | ((repeat' (first | exact And.intro rfl (by omega) | (refine And.intro ?_ ?_))) <;> first | rfl | omega | (congr 3; omega) | (congr 2; omega))
        · have hkb : k = b.length := by omega
          rw [hkb, List.take_length, ← hst] at hx
          subst hx
          simp (implicitDefEqProofs := false) (disch := omega) only [go_sem, simprocAttr, go_sem, ↓ix_enc, encI_len, encI_take, Nat.le_refl, Tryd.results28]
          refine ⟨⟨(i + 1, tk2), by simp only; omega⟩, by simp only; omega, ?_⟩
          simp only [textS]
          refine ⟨?_, ?_, tokC_weak _ _ _, ?_, ?_, ?_, ?_⟩ <;> simp only [go_sem, simprocAttr, decide_eq_true_eq, rowC_lt, Int.natCast_add, Int.natCast_one] <;> try omega
    · have hii : i = l.length := by omega
      subst hii
      rw [List.take_length]
      simp (implicitDefEqProofs := false) (disch := omega) only [go_sem, simprocAttr, go_sem, ↓ix_enc, encI_len, encI_take, Nat.le_refl, Tryd.results28]
end Go.Proofs.YtmfaejdnaippkaaDoor

end
section
/-
  Points of texts: text behind text; the text of a text's points.
-/
open Go Go.Proofs Go.Pw Go.RowKit
namespace Go.Proofs.YtmfaejdnaippkaaDoor
set_option maxRecDepth 4000
set_option linter.unusedVariables false
set_option linter.unusedSimpArgs false
set_option maxHeartbeats 8000000 in
theorem decN_more (n x y z t n' y' z' t' : Nat) (h : Lib.decodeN n x y z t ≠ (65533, 1)) (hn : n ≤ n') (h1 : 1 < n → y' = y) (h2 : 2 < n → z' = z) (h3 : 3 < n → t' = t) : Lib.decodeN n' x y' z' t' = Lib.decodeN n x y z t := by
  unfold Lib.decodeN at h ⊢
  by_cases c1 : x < 128
  · rw [if_pos c1, if_pos c1]
  · rw [if_neg c1] at h ⊢
    rw [if_neg c1]
    by_cases c2 : x / 32 = 6 ∧ (1 < n ∧ y / 64 = 2)
    · have e := h1 c2.2.1
      subst e
      rw [if_pos c2, if_pos (by omega)]
    · rw [if_neg c2] at h ⊢
      by_cases c3 : x / 16 = 14 ∧ (1 < n ∧ y / 64 = 2) ∧ (2 < n ∧ z / 64 = 2)
      · have e := h1 c3.2.1.1
        have e' := h2 c3.2.2.1
        subst e e'
        rw [if_pos c3, if_neg (by omega), if_pos (by omega)]
      · rw [if_neg c3] at h ⊢
        by_cases c4 : x / 8 = 30 ∧ (1 < n ∧ y / 64 = 2) ∧ (2 < n ∧ z / 64 = 2) ∧ (3 < n ∧ t / 64 = 2)
        · have e := h1 c4.2.1.1
          have e' := h2 c4.2.2.1.1
          have e'' := h3 c4.2.2.2.1
          subst e e' e''
          rw [if_pos c4, if_neg (by omega), if_neg (by omega), if_pos (by omega)]
        · rw [if_neg c4] at h
          exact absurd rfl h
theorem byteN_left (a b : ByteArray) (k : Nat) (h : k < a.size) : byteN (a ++ b) k = byteN a k := by
  unfold byteN
  rw [ByteArray.data_append, Array.toList_append, List.getD_eq_getElem?_getD, List.getD_eq_getElem?_getD, List.getElem?_append_left (by rw [Array.length_toList]; exact h)]
theorem byteN_right (a b : ByteArray) (k : Nat) : byteN (a ++ b) (a.size + k) = byteN b k := by
  unfold byteN
  have e : a.data.toList.length = a.size := Array.length_toList
  rw [ByteArray.data_append, Array.toList_append, List.getD_eq_getElem?_getD, List.getD_eq_getElem?_getD, List.getElem?_append_right (by rw [e]; omega), e, Nat.add_sub_cancel_left]
theorem dec_left {a b : ByteArray} {i : Nat} (h : i < a.size) (hg : Utf8.decode a i ≠ (65533, 1)) : Utf8.decode (a ++ b) i = Utf8.decode a i := by
  rw [Lib.decode_at] at hg ⊢
  rw [Lib.decode_at]
  simp only [get!_byteN] at hg ⊢
  rw [byteN_left a b i h]
  exact decN_more _ _ _ _ _ _ _ _ _ hg (by rw [ByteArray.size_append]; omega) (fun hh => byteN_left a b _ (by omega)) (fun hh => byteN_left a b _ (by omega)) (fun hh => byteN_left a b _ (by omega))
theorem dec_right (a b : ByteArray) (i : Nat) : Utf8.decode (a ++ b) (a.size + i) = Utf8.decode b i := by
  rw [Lib.decode_at, Lib.decode_at]
  simp only [get!_byteN, Nat.add_assoc, byteN_right, ByteArray.size_append]
  rw [show a.size + b.size - (a.size + i) = b.size - i by omega]
theorem scan_right (a b : ByteArray) (i : Nat) : scan (a ++ b) (a.size + i) = ((scan b i).1, a.size + (scan b i).2) := by
  have hs : (a ++ b).size = a.size + b.size := ByteArray.size_append
  by_cases h : i < b.size
  · by_cases hb : Utf8.decode b i = (65533, 1)
    · rw [scan_bad h hb, scan_bad (by omega) (by rw [dec_right]; exact hb)]
    · have hp := dec_pos b i h
      have ih := scan_right a b (i + (Utf8.decode b i).2)
      rw [scan_step h hb, scan_step (by omega) (by rw [dec_right]; exact hb), dec_right, Nat.add_assoc, ih]
  · rw [scan_end h, scan_end (by omega)]
termination_by b.size - i
theorem scan_left {a : ByteArray} (b : ByteArray) (i : Nat) (hi : i ≤ a.size) (hv : (scan a i).2 = a.size) : scan (a ++ b) i = ((scan a i).1 ++ (scan (a ++ b) a.size).1, (scan (a ++ b) a.size).2) := by
  have hs : (a ++ b).size = a.size + b.size := ByteArray.size_append
  by_cases h : i < a.size
  · by_cases hb : Utf8.decode a i = (65533, 1)
    · rw [scan_bad h hb] at hv
      simp only at hv
      omega
    · have hp := dec_pos a i h
      have e := dec_left (b := b) h hb
      rw [scan_step h hb] at hv
      have ih := scan_left b (i + (Utf8.decode a i).2) hp.2 hv
      rw [scan_step h hb, scan_step (by omega) (by rw [e]; exact hb), e, ih]
      rfl
  · have : i = a.size := by omega
    subst this
    rw [scan_end h]
    rfl
termination_by a.size - i
theorem scan_join {a b : ByteArray} (ha : (scan a 0).2 = a.size) (hb : (scan b 0).2 = b.size) : scan (a ++ b) 0 = ((scan a 0).1 ++ (scan b 0).1, (a ++ b).size) := by
  have h := scan_right a b 0
  rw [Nat.add_zero] at h
  rw [scan_left b 0 (Nat.zero_le _) ha, h, hb, ByteArray.size_append]
theorem byteN_app {l : List Int} (hl : ∀ x ∈ l, 0 ≤ x ∧ x ≤ 255) (t : ByteArray) (k : Nat) (h : k < l.length) : (byteN (strOfNums l ++ t) k : Int) = l.getD k 0 := by
  have hd : (strOfNums l ++ t).data.toList = (l.map fun n => UInt8.ofNat n.toNat) ++ t.data.toList := by
    rw [ByteArray.data_append, Array.toList_append]
    rfl
  have hx := hl _ (List.getElem_mem h)
  unfold byteN
  rw [hd, List.getD_eq_getElem?_getD, List.getElem?_append_left (by simpa using h), List.getElem?_map, List.getElem?_eq_getElem h]
  simp only [Option.map_some, Option.getD_some, List.getD_eq_getElem?_getD, List.getElem?_eq_getElem h]
  rw [UInt8.toNat_ofNat']
  omega
theorem dec_enc (n : Int) (h : isF n = true) (t : ByteArray) : goodN (Utf8.decode (strOfNums (bytesF n) ++ t) 0) = (n, ((bytesF n).length : Int)) := by
  have hp : isPt n := by unfold isF at h; simp only [decide_eq_true_eq] at h; exact ⟨by omega, by omega⟩
  have hB := bytesF_byte n hp
  have g := fun k hk => byteN_app hB t k hk
  have hs : (strOfNums (bytesF n) ++ t).size = (bytesF n).length + t.size := by rw [ByteArray.size_append, strOfNums_size]
  rw [Lib.decode_at]
  simp only [get!_byteN, Nat.zero_add]
  have hs0 : (strOfNums (bytesF n) ++ t).size - 0 = (bytesF n).length + t.size := by omega
  rw [hs0]
  generalize strOfNums (bytesF n) ++ t = s at *
  have b1 := byteN_lt s 1
  have b2 := byteN_lt s 2
  have b3 := byteN_lt s 3
  have b0 := byteN_lt s 0
  unfold isF at h
  simp only [decide_eq_true_eq] at h
  have nope : ∀ a b : Nat, (a ≠ 65533 ∨ b ≠ 1) → goodN (a, b) = ((a : Int), (b : Int)) := fun a b h => by
    unfold goodN
    rw [if_neg (by rw [Prod.mk.injEq]; omega)]
  unfold bytesF at *
  unfold Lib.decodeN
  by_cases c1 : n < 128
  · simp only [if_pos c1] at *
    have g0 := g 0 (by simp)
    simp only [List.getD_cons_zero] at g0
    rw [if_pos (by omega), nope _ _ (by omega)]
    exact Prod.ext (by simp only; omega) rfl
  · simp only [if_neg c1] at *
    by_cases c2 : n < 2048
    · simp only [if_pos c2] at *
      have g0 := g 0 (by simp)
      have g1 := g 1 (by simp)
      simp only [List.getD_cons_zero, List.getD_cons_succ] at g0 g1
      simp only [List.length_cons, List.length_nil]
      rw [if_neg (by omega), if_pos (by omega), if_pos (by omega), nope _ _ (by omega)]
      exact Prod.ext (by simp only; omega) rfl
    · simp only [if_neg c2] at *
      by_cases c3 : n < 65536
      · simp only [if_pos c3] at *
        have g0 := g 0 (by simp)
        have g1 := g 1 (by simp)
        have g2 := g 2 (by simp)
        simp only [List.getD_cons_zero, List.getD_cons_succ] at g0 g1 g2
        simp only [List.length_cons, List.length_nil]
        rw [if_neg (by omega), if_neg (by omega), if_pos (by omega), if_pos (by omega), nope _ _ (by omega)]
        exact Prod.ext (by simp only; omega) rfl
      · simp only [if_neg c3] at *
        have g0 := g 0 (by simp)
        have g1 := g 1 (by simp)
        have g2 := g 2 (by simp)
        have g3 := g 3 (by simp)
        simp only [List.getD_cons_zero, List.getD_cons_succ] at g0 g1 g2 g3
        simp only [List.length_cons, List.length_nil]
        rw [if_neg (by omega), if_neg (by omega), if_neg (by omega), if_pos (by omega), if_pos (by omega), nope _ _ (by omega)]
        exact Prod.ext (by simp only; omega) rfl
def toI (x : UInt8) : Int := x.toNat
set_option maxHeartbeats 4000000 in
theorem decN_bytes (n x y z t : Nat) (hb : x < 256) (hb1 : y < 256) (hb2 : z < 256) (hb3 : t < 256) (h : Lib.decodeN n x y z t ≠ (65533, 1)) :
    isF (Lib.decodeN n x y z t).1 = true ∧ (bytesF (Lib.decodeN n x y z t).1).length = (Lib.decodeN n x y z t).2 ∧
    ∀ k, k < (Lib.decodeN n x y z t).2 → (bytesF (Lib.decodeN n x y z t).1).getD k 0 = ([x, y, z, t].getD k 0 : Nat) := by
  unfold Lib.decodeN at h ⊢
  by_cases c1 : x < 128
  · simp only [c1, if_true] at h ⊢
    refine ⟨by unfold isF; rw [decide_eq_true_eq]; omega, by unfold bytesF; rw [if_pos (by omega)]; rfl, fun k hk => ?_⟩
    have : k = 0 := by omega
    subst this
    unfold bytesF
    rw [if_pos (by omega)]
    simp
  · rw [if_neg c1] at h ⊢
    by_cases c2 : x / 32 = 6 ∧ (1 < n ∧ y / 64 = 2)
    · rw [if_pos c2] at h ⊢
      generalize hc : x % 32 * 64 + y % 64 = c at h ⊢
      by_cases d : c ≥ 128
      · rw [if_pos d] at h ⊢
        have eb : bytesF (c : Int) = [(x : Int), (y : Int)] := by
          unfold bytesF
          rw [if_neg (by omega), if_pos (by omega)]
          congr 1
          · omega
          · congr 1; omega
        refine ⟨by unfold isF; rw [decide_eq_true_eq]; simp only; omega, by simp only [eb]; rfl, fun k hk => ?_⟩
        simp only at hk
        have : k = 0 ∨ k = 1 := by omega
        rcases this with rfl | rfl <;> simp [eb]
      · rw [if_neg d] at h
        exact absurd rfl h
    · rw [if_neg c2] at h ⊢
      by_cases c3 : x / 16 = 14 ∧ (1 < n ∧ y / 64 = 2) ∧ (2 < n ∧ z / 64 = 2)
      · rw [if_pos c3] at h ⊢
        generalize hc : x % 16 * 4096 + y % 64 * 64 + z % 64 = c at h ⊢
        by_cases d : c ≥ 2048 ∧ (c < 55296 ∨ (57344 ≤ c ∧ c ≤ 1114111))
        · rw [if_pos d] at h ⊢
          have eb : bytesF (c : Int) = [(x : Int), (y : Int), (z : Int)] := by
            unfold bytesF
            rw [if_neg (by omega), if_neg (by omega), if_pos (by omega)]
            congr 1
            · omega
            · congr 1
              · omega
              · congr 1; omega
          refine ⟨by unfold isF; rw [decide_eq_true_eq]; simp only; omega, by simp only [eb]; rfl, fun k hk => ?_⟩
          simp only at hk
          have : k = 0 ∨ k = 1 ∨ k = 2 := by omega
          rcases this with rfl | rfl | rfl <;> simp [eb]
        · rw [if_neg d] at h
          exact absurd rfl h
      · rw [if_neg c3] at h ⊢
        by_cases c4 : x / 8 = 30 ∧ (1 < n ∧ y / 64 = 2) ∧ (2 < n ∧ z / 64 = 2) ∧ (3 < n ∧ t / 64 = 2)
        · rw [if_pos c4] at h ⊢
          generalize hc : x % 8 * 262144 + y % 64 * 4096 + z % 64 * 64 + t % 64 = c at h ⊢
          by_cases d : c ≥ 65536 ∧ (c < 55296 ∨ (57344 ≤ c ∧ c ≤ 1114111))
          · rw [if_pos d] at h ⊢
            have eb : bytesF (c : Int) = [(x : Int), (y : Int), (z : Int), (t : Int)] := by
              unfold bytesF
              rw [if_neg (by omega), if_neg (by omega), if_neg (by omega)]
              congr 1
              · omega
              · congr 1
                · omega
                · congr 1
                  · omega
                  · congr 1; omega
            refine ⟨by unfold isF; rw [decide_eq_true_eq]; simp only; omega, by simp only [eb]; rfl, fun k hk => ?_⟩
            simp only at hk
            have : k = 0 ∨ k = 1 ∨ k = 2 ∨ k = 3 := by omega
            rcases this with rfl | rfl | rfl | rfl <;> simp [eb]
          · rw [if_neg d] at h
            exact absurd rfl h
        · rw [if_neg c4] at h
          exact absurd rfl h
theorem drop_split {L : List UInt8} {i w : Nat} {B : List Int} (hB : B.length = w) (hw : i + w ≤ L.length) (h : ∀ k, k < w → B.getD k 0 = ((L.getD (i + k) 0).toNat : Int)) : (L.drop i).map toI = B ++ (L.drop (i + w)).map toI := by
  apply List.ext_getElem?
  intro j
  rw [List.getElem?_map, List.getElem?_drop]
  by_cases hj : j < w
  · have h1 := h j hj
    rw [List.getElem?_append_left (by omega), List.getElem?_eq_getElem (show i + j < L.length by omega), List.getElem?_eq_getElem (show j < B.length by omega)]
    rw [List.getD_eq_getElem?_getD, List.getD_eq_getElem?_getD, List.getElem?_eq_getElem (show i + j < L.length by omega), List.getElem?_eq_getElem (show j < B.length by omega)] at h1
    simp only [Option.getD_some] at h1
    rw [h1]
    rfl
  · rw [List.getElem?_append_right (by omega), List.getElem?_map, List.getElem?_drop, hB, show i + w + (j - w) = i + j by omega]
theorem scan_bytes (a : ByteArray) (i : Nat) (hi : i ≤ a.size) (hv : (scan a i).2 = a.size) : (a.data.toList.drop i).map toI = textN (scan a i).1 ∧ ∀ x ∈ (scan a i).1, isF x = true := by
  have hs : a.data.toList.length = a.size := Array.length_toList
  by_cases h : i < a.size
  · by_cases hb : Utf8.decode a i = (65533, 1)
    · rw [scan_bad h hb] at hv
      simp only at hv
      omega
    · have hp := dec_pos a i h
      rw [scan_step h hb] at hv ⊢
      obtain ⟨ih1, ih2⟩ := scan_bytes a (i + (Utf8.decode a i).2) hp.2 hv
      have db : isF (Utf8.decode a i).1 = true ∧ (bytesF (Utf8.decode a i).1).length = (Utf8.decode a i).2 ∧ ∀ k, k < (Utf8.decode a i).2 → (bytesF (Utf8.decode a i).1).getD k 0 = byteN a (i + k) := by
        rw [Lib.decode_at] at hb ⊢
        simp only [get!_byteN] at hb ⊢
        obtain ⟨g1, g2, g3⟩ := decN_bytes _ _ _ _ _ (byteN_lt a i) (byteN_lt a (i + 1)) (byteN_lt a (i + 2)) (byteN_lt a (i + 3)) hb
        refine ⟨g1, g2, fun k hk => ?_⟩
        rw [g3 k hk]
        have bl := (bytesF_len (Lib.decodeN (a.size - i) (byteN a i) (byteN a (i + 1)) (byteN a (i + 2)) (byteN a (i + 3))).1).2
        have : k = 0 ∨ k = 1 ∨ k = 2 ∨ k = 3 := by omega
        rcases this with rfl | rfl | rfl | rfl <;> simp
      refine ⟨?_, fun x hx => ?_⟩
      · rw [drop_split db.2.1 (by omega) db.2.2, ih1]
        simp [textN]
      · rcases List.mem_cons.1 hx with rfl | hx
        · exact db.1
        · exact ih2 x hx
  · have : i = a.size := by omega
    subst this
    rw [scan_end h]
    refine ⟨?_, fun x hx => by cases hx⟩
    rw [List.drop_eq_nil_of_le (by omega)]
    rfl
termination_by a.size - i
theorem strOf_app (a b : List Int) : strOfNums a ++ strOfNums b = strOfNums (a ++ b) := by
  apply ByteArray.ext
  simp [strOfNums]
theorem strOf_len (a : List Int) : (strOfNums a).size = a.length := by
  show (strOfNums a).data.size = _
  simp [strOfNums]
theorem scan_text : ∀ (l : List Int), l.all isF = true → scan (strOfNums (textN l)) 0 = (l, (strOfNums (textN l)).size)
  | [], _ => by rw [scan_end (by decide)]; rfl
  | n :: r, h => by
    rw [List.all_cons, Bool.and_eq_true] at h
    have ih := scan_text r h.2
    have e : strOfNums (textN (n :: r)) = strOfNums (bytesF n) ++ strOfNums (textN r) := by rw [strOf_app]; rfl
    have d := dec_enc n h.1 (strOfNums (textN r))
    have bl := bytesF_len n
    rw [e]
    generalize strOfNums (textN r) = t at *
    have hsz : (strOfNums (bytesF n) ++ t).size = (bytesF n).length + t.size := by rw [ByteArray.size_append, strOf_len]
    have hlt : 0 < (strOfNums (bytesF n) ++ t).size := by omega
    unfold goodN at d
    split at d
    · simp at d
      omega
    · rename_i hb
      rw [scan_step hlt hb]
      injection d with d1 d2
      have d3 : (Utf8.decode (strOfNums (bytesF n) ++ t) 0).2 = (bytesF n).length := by omega
      have sr := scan_right (strOfNums (bytesF n)) t 0
      rw [strOf_len, Nat.add_zero, ih] at sr
      rw [d1, d3, Nat.zero_add, sr, hsz]
theorem strOf_toI (s : ByteArray) : strOfNums (s.data.toList.map toI) = s := by
  apply ByteArray.ext
  simp [strOfNums, toI, Function.comp_def]
end Go.Proofs.YtmfaejdnaippkaaDoor

end
section
/-
  strings.Builder in memory, alone or at the head of a struct: copyCheck at a fresh one and at a used one, and String; what each leaves of the world, said whole.
-/
open Go Go.Proofs Go.RowKit
namespace Go.Proofs.YtmfaejdnaippkaaDoor
set_option maxRecDepth 4000
set_option linter.unusedVariables false
set_option linter.unusedSimpArgs false
/-- A builder stands at the head of a variable of type T, of so many cells. -/
def Heads (T n : Nat) : Prop := 0 < n ∧ liesAt Tryd.prog Tryd.prog.depth T (n / Tryd.prog.cellsOf T) 0 52 1 = true
set_option maxHeartbeats 1000000 in
set_option maxRecDepth 100000 in
theorem copy_used (b : Nat) (w : World) (h0 : w.cell? ⟨b, 0, none⟩ = some (.pointer (some ⟨b, 0, none⟩))) :
    Calls Tryd.prog 55 #[.pointer (some ⟨b, 0, none⟩)] w fun e w' => e = .returned (.tuple #[]) ∧ w' = w := by
  obtain ⟨j, hj, hjs⟩ := Option.map_eq_some_iff.1 (show (Tryd.prog.info? 52).map (·.size) = some 2 by kernel_rfl)
  go_enter Tryd.func55, Tryd.ntmps55
  go_wp2
  rw [Lib.run_neq_ptr_same w _ Tryd.underlying49 hj]
  go_wp2
  go_end0
  exact ⟨rfl, rfl⟩
set_option maxHeartbeats 1000000 in
set_option maxRecDepth 100000 in
theorem copy_fresh {T n : Nat} (hT : Heads T n) (b : Nat) (w : World) (h0 : w.cell? ⟨b, 0, none⟩ = some (.pointer none)) (hsh : w.shape? b = some (T, n)) (hfz : w.frozen? ⟨b, 0, none⟩ = false) :
    Calls Tryd.prog 55 #[.pointer (some ⟨b, 0, none⟩)] w fun e w' => e = .returned (.tuple #[]) ∧ w' = w.setCell ⟨b, 0, none⟩ (.pointer (some ⟨b, 0, none⟩)) := by
  obtain ⟨j, hj, hjs⟩ := Option.map_eq_some_iff.1 (show (Tryd.prog.info? 52).map (·.size) = some 2 by kernel_rfl)
  obtain ⟨hn, hlies⟩ := hT
  go_enter Tryd.func55, Tryd.ntmps55
  go_wp2
  rw [Lib.run_to_unsafe w ⟨b, 0, none⟩ Tryd.underlying49 Tryd.underlying105 hj (by rw [hjs]; decide) hsh hn]
  simp only [Result.andThen]
  rw [Oper.upon_value]
  go_wp2
  rw [run_callFunc_extern Tryd.func67 (by kernel_rfl) (by kernel_rfl) (by kernel_rfl) (e := Extern.AbiNoEscape.same) (by kernel_rfl)]
  rw [Lib.run_noEscape]
  simp only [Result.andThen]
  rw [Oper.upon_value]
  go_wp2
  rw [Lib.run_from_unsafe w ⟨b, 0, none⟩ Tryd.underlying105 Tryd.underlying49 hj hsh hlies]
  simp only [Result.andThen]
  rw [Oper.upon_value]
  go_wp2
  go_end0
  exact ⟨rfl, rfl⟩
set_option maxHeartbeats 2000000 in
set_option maxRecDepth 100000 in
theorem string_nil (b : Nat) (w : World) (h1 : w.cell? ⟨b, 1, none⟩ = some (.slice none 0 0)) :
    Calls Tryd.prog 20 #[.pointer (some ⟨b, 0, none⟩)] w fun e w' => e = .returned (.string ⟨#[]⟩) ∧ w' = w.drew := by
  have hUS : ∀ (W : World) (q : Option Addr), (Builtin.unsafeString_ #[83, 3] 9 #[.pointer q, .int .i64 0]).run Tryd.prog W = .ok (.string .empty) W := fun W q => Lib.run_unsafeString_none W _ _ _ q
  have c1 : w.drew.cell? ⟨b, 1, none⟩ = some (.slice none 0 0) := h1
  have hSD : (Builtin.unsafeSliceData_ #[50] 83 #[.slice none 0 0]).run Tryd.prog w.drew = .ok (.pointer none) w.drew := rfl
  have mixed : Tryd.prog.follows .mixedOrders = true := by kernel_rfl
  go_enter Tryd.func20, Tryd.ntmps20
  go_wp2
  go_region_o
  all_goals (go_wp2; go_ret; exact ⟨rfl, rfl⟩)
set_option maxHeartbeats 2000000 in
set_option maxRecDepth 100000 in
theorem string_some (b g cap : Nat) (w : World) (l : List UInt8) (h0 : l ≠ []) (hlc : l.length ≤ cap) (hcm : cap ≤ maxLen) (h1 : w.cell? ⟨b, 1, none⟩ = some (.slice (some ⟨g, 0, none⟩) l.length cap))
    (cur : Array Value) (hg : w.heap[g]? = some (.cells cur 5 (0, 0))) (hcs : cur.size = cap) (hc : ∀ (j : Nat) (x : UInt8), l[j]? = some x → cur[j]? = some (Value.int .u8 x.toNat)) :
    Calls Tryd.prog 20 #[.pointer (some ⟨b, 0, none⟩)] w fun e w' => e = .returned (.string ⟨l.toArray⟩) ∧ w' = w.drew.freeze ⟨g, 0, none⟩ l.length := by
  have hl0 : l.length ≠ 0 := by simpa using h0
  have c1 : w.drew.cell? ⟨b, 1, none⟩ = some (.slice (some ⟨g, 0, none⟩) l.length cap) := h1
  have hSD : (Builtin.unsafeSliceData_ #[50] 83 #[.slice (some ⟨g, 0, none⟩) l.length cap]).run Tryd.prog w.drew = .ok (.pointer (some ⟨g, 0, none⟩)) w.drew :=
    Lib.run_unsafeSliceData_row _ _ _ _ _ _ (by omega)
  have hUS : (Builtin.unsafeString_ #[83, 3] 9 #[.pointer (some ⟨g, 0, none⟩), .int .i64 l.length]).run Tryd.prog w.drew = .ok (.string ⟨l.toArray⟩) (w.drew.freeze ⟨g, 0, none⟩ l.length) := by
    refine Lib.run_unsafeString_row w.drew 83 3 9 5 Tryd.underlying83 (by kernel_rfl) g cur.size (by have hg' : w.drew.heap[g]? = some (.cells cur 5 (0, 0)) := hg; simp [World.shape?, hg']) l h0 (by omega) (by unfold maxLen at hcm; omega) ?_
    intro j x hx
    rw [Addr.add_lit, Nat.zero_add]
    have hg' : w.drew.heap[g]? = some (.cells cur 5 (0, 0)) := hg
    rw [Lib.cell_of_heap hg']
    exact hc j x hx
  have mixed : Tryd.prog.follows .mixedOrders = true := by kernel_rfl
  go_enter Tryd.func20, Tryd.ntmps20
  go_wp2
  go_region_o
  all_goals (go_wp2; go_ret; exact ⟨rfl, rfl⟩)
end Go.Proofs.YtmfaejdnaippkaaDoor

end
section
/-
  A function that works on some objects and rows, proved where there are no others, taken where there are.
-/
namespace Go.Pw
open Go Go.RowKit
set_option linter.unusedVariables false
set_option linter.unusedSimpArgs false
mutual
/-- Other numbers: of the objects, of the rows. -/
def PV.rm (f g : Nat → Nat) : PV → PV
  | .val v => .val v
  | .sl xs => .sl xs
  | .row k xs => .row (g k) xs
  | .ptr i o => .ptr (f i) o
  | .ms i lo n c => .ms (f i) lo n c
  | .fp cs => .fp cs
  | .agg cs => .agg (PV.rmL f g cs)
  | .tup cs => .tup (PV.rmL f g cs)
  | .fn h cs => .fn h (PV.rmL f g cs)
  | .iface t p => .iface t (PV.rm f g p)
def PV.rmL (f g : Nat → Nat) : List PV → List PV
  | [] => []
  | p :: r => PV.rm f g p :: PV.rmL f g r
end
def PObj.rm (f g : Nat → Nat) : PObj → PObj
  | .box t cs => .box t (PV.rmL f g cs)
  | .iter s pos => .iter s pos
def rmH (f g : Nat → Nat) : List (Nat × PObj) → List (Nat × PObj)
  | [] => []
  | e :: r => (f e.1, e.2.rm f g) :: rmH f g r
def rmK (g : Nat → Nat) : List (Nat × Tok) → List (Nat × Tok)
  | [] => []
  | e :: r => (g e.1, e.2) :: rmK g r
def dropK (l : List Nat) : List (Nat × Tok) → List (Nat × Tok)
  | [] => []
  | e :: r => if inL e.1 l = true then dropK l r else e :: dropK l r
theorem rmL_get {f g : Nat → Nat} : ∀ {cs : List PV} (i : Nat), (PV.rmL f g cs)[i]? = (cs[i]?).map (PV.rm f g)
  | [], i => by simp [PV.rmL]
  | p :: r, 0 => by simp [PV.rmL]
  | p :: r, i + 1 => by simp [PV.rmL, rmL_get i]
theorem rmL_len {f g : Nat → Nat} : ∀ {cs : List PV}, (PV.rmL f g cs).length = cs.length
  | [] => rfl
  | p :: r => by rw [PV.rmL, List.length_cons, rmL_len, List.length_cons]
theorem dropK_lkp (l : List Nat) : ∀ (H : List (Nat × Tok)) (j : Nat), lkp (dropK l H) j = if j ∈ l then none else lkp H j
  | [], j => by simp [dropK, lkp]
  | (k, o) :: r, j => by
    have ih := dropK_lkp l r j
    simp only [dropK]
    split
    · rename_i hk
      rw [inL_iff] at hk
      rw [ih, lkp_cons]
      by_cases e : j = k
      · subst e; rw [if_pos hk, if_pos hk]
      · rw [if_neg e]
    · rename_i hk
      rw [inL_iff] at hk
      rw [lkp_cons, lkp_cons, ih]
      by_cases e : j = k
      · subst e; rw [if_pos rfl, if_neg hk, if_pos rfl]
      · rw [if_neg e, if_neg e]
theorem rmH_lkp {f g : Nat → Nat} (inj : ∀ i j, f i = f j → i = j) (H : List (Nat × PObj)) : ∀ (l : List (Nat × PObj)) (i : Nat), lkp H (f i) = none → lkp (rmH f g l ++ H) (f i) = (lkp l i).map (PObj.rm f g)
  | [], i, h => by simpa [rmH, lkp] using h
  | (k, o) :: r, i, h => by
    rw [rmH, List.cons_append, lkp_cons, lkp_cons, rmH_lkp inj H r i h]
    by_cases e : i = k
    · subst e; rw [if_pos rfl, if_pos rfl]; rfl
    · rw [if_neg e, if_neg (fun h => e (inj _ _ h))]
theorem rmH_out {f g : Nat → Nat} (H : List (Nat × PObj)) (j : Nat) (hj : ∀ i, f i ≠ j) : ∀ (l : List (Nat × PObj)), lkp (rmH f g l ++ H) j = lkp H j
  | [] => rfl
  | (k, o) :: r => by rw [rmH, List.cons_append, lkp_cons, rmH_out H j hj r, if_neg (fun h => hj k h.symm)]
theorem rmK_lkp {g : Nat → Nat} (inj : ∀ i j, g i = g j → i = j) (H : List (Nat × Tok)) : ∀ (l : List (Nat × Tok)) (i : Nat), lkp H (g i) = none → lkp (rmK g l ++ H) (g i) = lkp l i
  | [], i, h => by simpa [rmK, lkp] using h
  | (k, o) :: r, i, h => by
    rw [rmK, List.cons_append, lkp_cons, lkp_cons, rmK_lkp inj H r i h]
    by_cases e : i = k
    · subst e; rw [if_pos rfl, if_pos rfl]
    · rw [if_neg e, if_neg (fun h => e (inj _ _ h))]
theorem rmK_out {g : Nat → Nat} (H : List (Nat × Tok)) (j : Nat) (hj : ∀ i, g i ≠ j) : ∀ (l : List (Nat × Tok)), lkp (rmK g l ++ H) j = lkp H j
  | [] => rfl
  | (k, o) :: r => by rw [rmK, List.cons_append, lkp_cons, rmK_out H j hj r, if_neg (fun h => hj k h.symm)]
theorem RepV.rm {C C' : Cx} {T T' : List (Nat × Tok)} {U V U' V' : Nat → Prop} {f g : Nat → Nat} (hS : SLe C.S C'.S) (hU : ∀ i, U i → C'.ρ (f i) = C.ρ i ∧ U' (f i)) (hV : ∀ k, V k → C'.τ (g k) = C.τ k ∧ V' (g k) ∧ ∀ t, lkp T' (g k) = some t → lkp T k = some t) {v : Value} {p : PV} (r : RepV C T U V v p) :
    RepV C' T' U' V' v (p.rm f g) := by
  induction r with
  | @frz v p h =>
    have := h.mono hS
    cases h with
    | val h => exact .frz this
    | sl => exact .frz this
  | row h hk ht =>
    obtain ⟨h1, h2, h3⟩ := hV _ hk
    refine .row (h.mono hS) h2 (fun t h' => ?_)
    obtain ⟨g1, g2, g3⟩ := ht t (h3 t h')
    exact ⟨g1, g2, fun e => by rw [h1]; exact g3 e⟩
  | @ptr id off h => rw [← (hU _ h).1]; exact .ptr (hU _ h).2
  | @ms id lo n cap h hc => rw [← (hU _ h).1]; exact .ms (hU _ h).2 hc
  | fp h => exact .fp (fun i p hp => by obtain ⟨u, h1, h2⟩ := h i p hp; exact ⟨u, hS _ _ _ h1, h2.mono hS⟩)
  | agg hs h h1 ih =>
    refine .agg (by rw [rmL_len]; exact hs) (fun i v p hv hp => ?_) h1
    rw [rmL_get] at hp
    obtain ⟨q, hq, rfl⟩ := Option.map_eq_some_iff.1 hp
    exact ih i v q hv hq
  | tup hs h ih =>
    refine .tup (by rw [rmL_len]; exact hs) (fun i v p hv hp => ?_)
    rw [rmL_get] at hp
    obtain ⟨q, hq, rfl⟩ := Option.map_eq_some_iff.1 hp
    exact ih i v q hv hq
  | fn hs h ih =>
    refine .fn (by rw [rmL_len]; exact hs) (fun i v p hv hp => ?_)
    rw [rmL_get] at hp
    obtain ⟨q, hq, rfl⟩ := Option.map_eq_some_iff.1 hp
    exact ih i v q hv hq
  | iface h ih => exact .iface ih
mutual
theorem lt_low {a b a' b' : Nat} (ha : a ≤ a') (hb : b ≤ b') : ∀ (p : PV), p.lt a b = true → p.lt a' b' = true
  | .val v, _ => rfl
  | .sl xs, _ => rfl
  | .row k xs, h => by simp only [PV.lt, decide_eq_true_eq] at h ⊢; omega
  | .ptr i o, h => by simp only [PV.lt, decide_eq_true_eq] at h ⊢; omega
  | .ms i lo n c, h => by simp only [PV.lt, decide_eq_true_eq] at h ⊢; omega
  | .fp cs, _ => rfl
  | .agg cs, h => by simp only [PV.lt] at h ⊢; exact ltL_low ha hb cs h
  | .tup cs, h => by simp only [PV.lt] at h ⊢; exact ltL_low ha hb cs h
  | .fn g cs, h => by simp only [PV.lt] at h ⊢; exact ltL_low ha hb cs h
  | .iface t p, h => by simp only [PV.lt] at h ⊢; exact lt_low ha hb p h
theorem ltL_low {a b a' b' : Nat} (ha : a ≤ a') (hb : b ≤ b') : ∀ (l : List PV), PV.ltL a b l = true → PV.ltL a' b' l = true
  | [], _ => rfl
  | p :: r, h => by
    simp only [PV.ltL, Bool.and_eq_true] at h ⊢
    exact ⟨lt_low ha hb p h.1, ltL_low ha hb r h.2⟩
end
mutual
theorem rm_frz {f g : Nat → Nat} : ∀ (p : PV), p.lt 0 0 = true → p.rm f g = p
  | .val v, _ => rfl
  | .sl xs, _ => rfl
  | .row k xs, h => by simp [PV.lt] at h
  | .ptr i o, h => by simp [PV.lt] at h
  | .ms i lo n c, h => by simp [PV.lt] at h
  | .fp cs, _ => rfl
  | .agg cs, h => by simp only [PV.lt] at h; rw [PV.rm, rmL_frz cs h]
  | .tup cs, h => by simp only [PV.lt] at h; rw [PV.rm, rmL_frz cs h]
  | .fn h' cs, h => by simp only [PV.lt] at h; rw [PV.rm, rmL_frz cs h]
  | .iface t p, h => by simp only [PV.lt] at h; rw [PV.rm, rm_frz p h]
theorem rmL_frz {f g : Nat → Nat} : ∀ (l : List PV), PV.ltL 0 0 l = true → PV.rmL f g l = l
  | [], _ => rfl
  | p :: r, h => by
    simp only [PV.ltL, Bool.and_eq_true] at h
    rw [PV.rmL, rm_frz p h.1, rmL_frz r h.2]
end
theorem OkI.mono' {P : Program} {f : FuncId} {args : List PV} {st : PS} {Q Q' : PV → PS → Prop} (h : OkI P f args st Q) (k : ∀ r s, Q r s → Q' r s) : OkI P f args st Q' :=
  ⟨h.1, fun own S0 w0 w C vals R hn hr => (h.2 own S0 w0 w C vals R hn hr).mono (by
    rintro e w' ⟨r, s, v, C', hq, rest⟩
    exact ⟨r, s, v, C', k r s hq, rest⟩)⟩
section
variable {P : Program}
/-- Values whose objects and rows are among the first ones. -/
theorem RepV.backT {C C0 : Cx} {T T0 : List (Nat × Tok)} {U V : Nat → Prop} {f g : Nat → Nat} {m mt : Nat} (hS : SLe C.S C0.S) (hρ : ∀ i, i < m → C0.ρ i = C.ρ (f i)) (hτ : ∀ i, i < mt → C0.τ i = C.τ (g i)) (hT : ∀ i t, lkp T0 i = some t → lkp T (g i) = some t) {v : Value} {q : PV} (r : RepV C T U V v q) :
    ∀ {p : PV}, p.rm f g = q → p.lt m mt = true → RepV C0 T0 (· < m) (· < mt) v p := by
  induction r with
  | @frz v q h =>
    intro p e hl
    cases p with
    | val u => simp only [PV.rm] at e; subst e; exact .frz (h.mono hS)
    | sl xs => simp only [PV.rm] at e; subst e; exact .frz (h.mono hS)
    | _ => simp only [PV.rm] at e; subst e; cases h
  | @row v tok xs h hk ht =>
    intro p e hl
    cases p with
    | row k ys =>
      simp only [PV.rm, PV.row.injEq] at e
      obtain ⟨e1, rfl⟩ := e
      have hi : k < mt := by simpa [PV.lt] using hl
      refine .row (h.mono hS) hi (fun t h' => ?_)
      obtain ⟨g1, g2, g3⟩ := ht t (e1 ▸ hT k t h')
      exact ⟨g1, g2, fun e => by rw [hτ k hi, e1]; exact g3 e⟩
    | _ => simp [PV.rm] at e
  | @ptr id off h =>
    intro p e hl
    cases p with
    | ptr i o =>
      simp only [PV.rm, PV.ptr.injEq] at e
      obtain ⟨e1, rfl⟩ := e
      have hi : i < m := by simpa [PV.lt] using hl
      rw [← e1, ← hρ i hi]
      exact .ptr hi
    | _ => simp [PV.rm] at e
  | @ms id lo n cap h hc =>
    intro p e hl
    cases p with
    | ms i lo' n' cap' =>
      simp only [PV.rm, PV.ms.injEq] at e
      obtain ⟨e1, rfl, rfl, rfl⟩ := e
      have hi : i < m := by simpa [PV.lt] using hl
      rw [← e1, ← hρ i hi]
      exact .ms hi hc
    | _ => simp [PV.rm] at e
  | fp h =>
    intro p e hl
    cases p with
    | fp cs => simp only [PV.rm, PV.fp.injEq] at e; subst e; exact .fp (fun i p hp => by obtain ⟨u, h1, h2⟩ := h i p hp; exact ⟨u, hS _ _ _ h1, h2.mono hS⟩)
    | _ => simp [PV.rm] at e
  | agg hs h h1 ih =>
    intro p e hl
    cases p with
    | agg cs =>
      simp only [PV.rm, PV.agg.injEq] at e
      subst e
      rw [rmL_len] at hs
      refine .agg hs (fun i v p hv hp => ?_) h1
      exact ih i v (p.rm f g) hv (by rw [rmL_get, hp]; rfl) rfl (ltL_get (by simpa [PV.lt] using hl) p (List.mem_of_getElem? hp))
    | _ => simp [PV.rm] at e
  | tup hs h ih =>
    intro p e hl
    cases p with
    | tup cs =>
      simp only [PV.rm, PV.tup.injEq] at e
      subst e
      rw [rmL_len] at hs
      exact .tup hs (fun i v p hv hp => ih i v (p.rm f g) hv (by rw [rmL_get, hp]; rfl) rfl (ltL_get (by simpa [PV.lt] using hl) p (List.mem_of_getElem? hp)))
    | _ => simp [PV.rm] at e
  | fn hs h ih =>
    intro p e hl
    cases p with
    | fn h' cs =>
      simp only [PV.rm, PV.fn.injEq] at e
      obtain ⟨rfl, rfl⟩ := e
      rw [rmL_len] at hs
      exact .fn hs (fun i v p hv hp => ih i v (p.rm f g) hv (by rw [rmL_get, hp]; rfl) rfl (ltL_get (by simpa [PV.lt] using hl) p (List.mem_of_getElem? hp)))
    | _ => simp [PV.rm] at e
  | iface h ih =>
    intro p e hl
    cases p with
    | iface t p =>
      simp only [PV.rm, PV.iface.injEq] at e
      obtain ⟨rfl, e⟩ := e
      exact .iface (ih e (by simpa [PV.lt] using hl))
    | _ => simp [PV.rm] at e
theorem rnF_low {l : List Nat} {nx : Nat} (hlt : ∀ j ∈ l, j < nx) : ∀ i, i < l.length → rnF l nx i ∈ l ∧ rnF l nx i < nx ∧ l[i]? = some (rnF l nx i) := fun i hi => by
  have h1 : l[i]? = some (l[i]'(by omega)) := List.getElem?_eq_getElem (by omega)
  have : rnF l nx i = l[i]'(by omega) := by unfold rnF; rw [h1]
  rw [this]
  exact ⟨List.getElem_mem _, hlt _ (List.getElem_mem _), h1⟩
theorem rnF_high {l : List Nat} {nx : Nat} : ∀ i, l.length ≤ i → rnF l nx i = i - l.length + nx := fun i hi => by
  have h1 : l[i]? = none := List.getElem?_eq_none (by omega)
  unfold rnF; rw [h1]
theorem rnF_inj {l : List Nat} {nx : Nat} (hnd : l.Nodup) (hlt : ∀ j ∈ l, j < nx) : ∀ i j, rnF l nx i = rnF l nx j → i = j := fun i j e => by
  rcases Nat.lt_or_ge i l.length with h1 | h1 <;> rcases Nat.lt_or_ge j l.length with h2 | h2
  · obtain ⟨_, _, g1⟩ := rnF_low hlt i h1
    obtain ⟨_, _, g2⟩ := rnF_low hlt j h2
    rw [← e] at g2
    exact (List.getElem?_inj (show i < l.length by omega) hnd).1 (g1.trans g2.symm)
  · have := (rnF_low hlt i h1).2.1; rw [e, rnF_high j h2] at this; omega
  · have := (rnF_low hlt j h2).2.1; rw [← e, rnF_high i h1] at this; omega
  · rw [rnF_high i h1, rnF_high j h2] at e; omega
set_option maxHeartbeats 1000000 in
/-- ████ A function that works on some objects and rows, proved where there are no others, taken where there are. -/
theorem OkI.frameT {g0 : FuncId} {st : PS} {h0 : List (Nat × PObj)} {t0 : List (Nat × Tok)} {as0 ags : List PV} {Q : PV → PS → Prop} (l lt : List Nat) (ok : OkI P g0 as0 ⟨[], h0, t0, l.length, lt.length⟩ Q) (hnd : l.Nodup) (hlt : ∀ j ∈ l, j < st.nx)
    (hndt : lt.Nodup) (hltt : ∀ j ∈ lt, j < st.nt)
    (hh : ∀ e ∈ h0, e.1 < l.length ∧ e.2.lt l.length lt.length = true ∧ lkp st.heap (rnF l st.nx e.1) = some (e.2.rm (rnF l st.nx) (rnF lt st.nt)))
    (ht : ∀ e ∈ t0, e.1 < lt.length ∧ lkp st.toks (rnF lt st.nt e.1) = some e.2)
    (hal : PV.ltL l.length lt.length as0 = true) (ha : PV.rmL (rnF l st.nx) (rnF lt st.nt) as0 = ags) :
    OkI P g0 ags st (fun r st' => ∃ r0 s, Q r0 s ∧ r = r0.rm (rnF l st.nx) (rnF lt st.nt) ∧ st' = ⟨st.env, rmH (rnF l st.nx) (rnF lt st.nt) s.heap ++ dropH l st.heap, rmK (rnF lt st.nt) s.toks ++ dropK lt st.toks, s.nx - l.length + st.nx, s.nt - lt.length + st.nt⟩) := by
  subst ha
  have flow0 := rnF_low hlt
  have fhigh0 := rnF_high (l := l) (nx := st.nx)
  have inj0 := rnF_inj hnd hlt
  have glow0 := rnF_low hltt
  have ghigh0 := rnF_high (l := lt) (nx := st.nt)
  have ginj0 := rnF_inj hndt hltt
  obtain ⟨m, hm⟩ : ∃ m, m = l.length := ⟨_, rfl⟩
  obtain ⟨mt, hmt⟩ : ∃ m, m = lt.length := ⟨_, rfl⟩
  obtain ⟨f, hf⟩ : ∃ f, f = rnF l st.nx := ⟨_, rfl⟩
  obtain ⟨g, hg⟩ : ∃ g, g = rnF lt st.nt := ⟨_, rfl⟩
  rw [← hf, ← hg] at hh ⊢
  rw [← hg] at ht
  rw [← hm, ← hmt] at ok hh hal ⊢
  rw [← hmt] at ht
  rw [← hf, ← hm] at flow0
  rw [← hf] at inj0
  rw [← hf, ← hm] at fhigh0
  rw [← hg, ← hmt] at glow0
  rw [← hg] at ginj0
  rw [← hg, ← hmt] at ghigh0
  have flow := flow0
  have fhigh := fhigh0
  have inj := inj0
  have glow := glow0
  have ghigh := ghigh0
  have ginj := ginj0
  have hh' : ∀ i o, lkp h0 i = some o → i < m ∧ o.lt m mt = true ∧ lkp st.heap (f i) = some (o.rm f g) := fun i o h => hh _ (lkp_mem h)
  have ht' : ∀ i t, lkp t0 i = some t → i < mt ∧ lkp st.toks (g i) = some t := fun i o h => ht _ (lkp_mem h)
  refine ⟨ok.1, fun own S0 w0 w C vals R hn hr => ?_⟩
  let own' : Nat → Prop := fun b => (∃ i o, lkp h0 i = some o ∧ b = C.ρ (f i)) ∨ (∃ k t, lkp t0 k = some t ∧ b = (C.τ (g k)).1)
  let Ci : Cx := ⟨fun i => C.ρ (f i), fun k => C.τ (g k), C.S⟩
  have own'_ok : ∀ b, own' b → b < w.heap.size ∧ (own b ∨ w0.heap.size ≤ b) := by
    rintro b (⟨i, o, h, rfl⟩ | ⟨k, t, h, rfl⟩)
    · exact ⟨(R.hown _ _ (hh' i o h).2.2).2.1, (R.hown _ _ (hh' i o h).2.2).2.2.1⟩
    · obtain ⟨g1, g2, ⟨us, g3, g4⟩, _⟩ := R.tok _ _ (ht' k t h).2
      exact ⟨(Array.getElem?_eq_some_iff.1 g3).1, g2⟩
  have hs0 := R.frame.size
  have bk : ∀ {v : Value} {p : PV}, RepV C st.toks (· < st.nx) (· < st.nt) v (p.rm f g) → p.lt m mt = true → RepV Ci t0 (· < m) (· < mt) v p := fun r hl =>
    RepV.backT (C := C) (C0 := Ci) (f := f) (g := g) (m := m) (mt := mt) (SLe.refl _) (fun _ _ => rfl) (fun _ _ => rfl) (fun i t h => (ht' i t h).2) r rfl hl
  have Rin : Rel own' ⟨C.S, Ci, t0, (· < m), (· < mt)⟩ w Ci (· < m) (· < mt) ⟨[], h0, t0, m, mt⟩ w := by
    refine ⟨Frame.refl _ _, R.stable, ?_, ?_, ?_, ?_, ?_, ?_, ?_, fun b o v h => .inl h, SLe.refl _, Ext.refl _ _ _ _, ⟨R.known.2, R.known.1, ?_⟩⟩
    · intro i T cs h
      obtain ⟨h1, h2, h3⟩ := hh' i _ h
      obtain ⟨us, g1, g2, g3⟩ := R.box _ T _ h3
      rw [rmL_len] at g2
      refine ⟨us, g1, g2, fun k v p hv hp => ?_⟩
      obtain ⟨g4, g5⟩ := g3 k v (p.rm f g) hv (by rw [rmL_get, hp]; rfl)
      exact ⟨g4, bk g5 (ltL_get h2 p (List.mem_of_getElem? hp))⟩
    · intro i s pos h
      exact R.iter _ s pos (hh' i _ h).2.2
    · intro i o h
      obtain ⟨h1, h2, h3⟩ := hh' i o h
      obtain ⟨g1, g2, g3, g4⟩ := R.hown _ _ h3
      exact ⟨h1, g2, .inl (.inl ⟨i, o, h, rfl⟩), g4⟩
    · intro i j oi oj h1 h2 he
      exact inj i j (R.hinj _ _ _ _ (hh' i oi h1).2.2 (hh' j oj h2).2.2 he)
    · intro k t h
      obtain ⟨h1, h2⟩ := ht' k t h
      obtain ⟨g1, g2, g3, g4⟩ := R.tok _ _ h2
      exact ⟨h1, .inl (.inr ⟨k, t, h, rfl⟩), g3, g4⟩
    · intro i oi k t h1 h2
      exact R.tbox _ _ _ _ (hh' i oi h1).2.2 (ht' k t h2).2
    · intro i j ti tj h1 h2 he
      exact ginj i j (R.tinj _ _ _ _ (ht' i ti h1).2 (ht' j tj h2).2 he)
    · intro b hb ho
      obtain ⟨_, g3⟩ := own'_ok b ho
      rcases g3 with g3 | g3
      · exact R.glob.own _ hb g3
      · have := R.glob.size; omega
  refine (ok.2 own' ⟨C.S, Ci, t0, (· < m), (· < mt)⟩ w w Ci vals Rin (by rw [hn, rmL_len]) (fun i v p hv hp => ?_)).mono ?_
  · exact bk (hr i v (p.rm f g) hv (by rw [rmL_get, hp]; rfl)) (ltL_get hal p (List.mem_of_getElem? hp))
  rintro e w' ⟨r0, s, v, C1, hq, rfl, R1, X1, hrep⟩
  have hms : m ≤ s.nx := by
    rcases Nat.eq_zero_or_pos m with h | h
    · omega
    · have : m - 1 < s.nx := X1.nx (m - 1) (by show m - 1 < m; omega)
      omega
  have hmst : mt ≤ s.nt := by
    rcases Nat.eq_zero_or_pos mt with h | h
    · omega
    · have : mt - 1 < s.nt := X1.nt (mt - 1) (by show mt - 1 < mt; omega)
      omega
  have ρ1 : ∀ i, i < m → C1.ρ i = C.ρ (f i) := fun i hi => X1.ρ i hi
  have hH : ∀ j, st.nx ≤ j → lkp st.heap j = none := fun j hj => by
    cases h : lkp st.heap j with
    | none => rfl
    | some o => have := (R.hown j o h).1; omega
  have hT : ∀ j, st.nt ≤ j → lkp st.toks j = none := fun j hj => by
    cases h : lkp st.toks j with
    | none => rfl
    | some o => have := (R.tok j o h).1; omega
  have lDk := dropK_lkp lt st.toks
  have bel : ∀ k, k < w.heap.size → ¬ own' k → w'.heap[k]? = w.heap[k]? := fun k hk hn => R1.frame.block k hk hn
  have ltw : ∀ {b : Nat} {x : Obj}, w.heap[b]? = some x → b < w.heap.size := fun h => (Array.getElem?_eq_some_iff.1 h).1
  have snone : ∀ b o, b < w.heap.size → ¬ own' b → C.S b o = none → C1.S b o = none := fun b o hb hno h => by
    cases h' : C1.S b o with
    | none => rfl
    | some v =>
      rcases R1.snew b o v h' with h1 | h1 | h1
      · replace h1 : C.S b o = some v := h1
        rw [h] at h1; cases h1
      · exact absurd h1 hno
      · omega
  -- an object of the caller's that isn't handed over
  have apart : ∀ j o, lkp st.heap j = some o → j ∉ l → ¬ own' (C.ρ j) := by
    rintro j o h hj (⟨i, o', h1, h2⟩ | ⟨k, t, h1, h2⟩)
    · obtain ⟨g1, _, g3⟩ := hh' i o' h1
      have := R.hinj _ _ _ _ h g3 h2
      rw [this] at hj
      exact hj (flow i g1).1
    · exact R.tbox _ _ _ _ h (ht' k t h1).2 h2
  have tokApart : ∀ k t, lkp st.toks k = some t → k ∉ lt → ¬ own' (C.τ k).1 := by
    rintro k t h hk (⟨i, o, h1, h2⟩ | ⟨k', t', h1, h2⟩)
    · exact R.tbox _ _ k t (hh' i o h1).2.2 h h2.symm
    · obtain ⟨g1, g3⟩ := ht' k' t' h1
      have := R.tinj _ _ _ _ h g3 h2
      rw [this] at hk
      exact hk (glow k' g1).1
  have placeB : ∀ i o, lkp s.heap i = some o → own' (C1.ρ i) ∨ w.heap.size ≤ C1.ρ i := fun i o h => (R1.hown i o h).2.2.1
  have placeT : ∀ i t, lkp s.toks i = some t → own' (C1.τ i).1 ∨ w.heap.size ≤ (C1.τ i).1 := fun i t h => (R1.tok i t h).2.1
  let C2 : Cx := ⟨fun j => if j ∈ l then C.ρ j else if j < st.nx then C.ρ j else C1.ρ (j - st.nx + m), fun j => if j ∈ lt then C1.τ (lt.idxOf j) else if j < st.nt then C.τ j else C1.τ (j - st.nt + mt), C1.S⟩
  have ρo : ∀ i, i < st.nx → C2.ρ i = C.ρ i := fun i h => by
    show (if _ then _ else if _ then _ else _) = _
    by_cases hi : i ∈ l
    · rw [if_pos hi]
    · rw [if_neg hi, if_pos h]
  have ρf : ∀ i, C2.ρ (f i) = C1.ρ i := fun i => by
    rcases Nat.lt_or_ge i m with h | h
    · rw [ρo _ (flow i h).2.1, ρ1 i h]
    · rw [fhigh i h]
      show (if _ then _ else if _ then _ else _) = _
      rw [if_neg (fun hj => by have := hlt _ hj; omega), if_neg (by omega)]
      congr 1; omega
  have τo : ∀ i, i < st.nt → i ∉ lt → C2.τ i = C.τ i := fun i h hi => by
    show (if _ then _ else if _ then _ else _) = _
    rw [if_neg hi, if_pos h]
  have τg : ∀ i, C2.τ (g i) = C1.τ i := fun i => by
    rcases Nat.lt_or_ge i mt with h | h
    · obtain ⟨g1, g2, g3⟩ := glow i h
      show (if _ then _ else if _ then _ else _) = _
      rw [if_pos g1]
      congr 1
      have h4 : lt[lt.idxOf (g i)]? = some (g i) := by
        rw [List.getElem?_eq_getElem (List.idxOf_lt_length_iff.2 g1), List.getElem_idxOf]
      exact (List.getElem?_inj (List.idxOf_lt_length_iff.2 g1) hndt).1 (h4.trans g3.symm)
    · rw [ghigh i h]
      show (if _ then _ else if _ then _ else _) = _
      rw [if_neg (fun hj => by have := hltt _ hj; omega), if_neg (by omega)]
      congr 1; omega
  have fU : ∀ i, i < s.nx → f i < s.nx - m + st.nx := fun i hi => by
    rcases Nat.lt_or_ge i m with h | h
    · have := (flow i h).2.1; omega
    · rw [fhigh i h]; omega
  have gU : ∀ i, i < s.nt → g i < s.nt - mt + st.nt := fun i hi => by
    rcases Nat.lt_or_ge i mt with h | h
    · have := (glow i h).2.1; omega
    · rw [ghigh i h]; omega
  have lD := dropH_lkp l st.heap
  have split : ∀ j o, lkp (rmH f g s.heap ++ dropH l st.heap) j = some o → (j < st.nx ∧ j ∉ l ∧ lkp st.heap j = some o ∧ C2.ρ j = C.ρ j) ∨ (∃ i o', j = f i ∧ lkp s.heap i = some o' ∧ o = o'.rm f g ∧ C2.ρ j = C1.ρ i) := fun j o h => by
    by_cases hj : ∃ i, f i = j
    · obtain ⟨i, rfl⟩ := hj
      rw [rmH_lkp inj] at h
      · obtain ⟨o', h1, rfl⟩ := Option.map_eq_some_iff.1 h
        exact .inr ⟨i, o', rfl, h1, rfl, ρf i⟩
      · rw [lD]
        rcases Nat.lt_or_ge i m with hi | hi
        · rw [if_pos (flow i hi).1]
        · split
          · rfl
          · exact hH _ (by rw [fhigh i hi]; omega)
    · rw [rmH_out _ j (fun i e => hj ⟨i, e⟩), lD] at h
      split at h
      · cases h
      · rename_i hjl
        have hjx : j < st.nx := (R.hown j o h).1
        exact .inl ⟨hjx, hjl, h, ρo j hjx⟩
  have splitT : ∀ j t, lkp (rmK g s.toks ++ dropK lt st.toks) j = some t → (j < st.nt ∧ j ∉ lt ∧ lkp st.toks j = some t ∧ C2.τ j = C.τ j) ∨ (∃ i, j = g i ∧ lkp s.toks i = some t ∧ C2.τ j = C1.τ i) := fun j t h => by
    by_cases hj : ∃ i, g i = j
    · obtain ⟨i, rfl⟩ := hj
      rw [rmK_lkp ginj] at h
      · exact .inr ⟨i, rfl, h, τg i⟩
      · rw [lDk]
        rcases Nat.lt_or_ge i mt with hi | hi
        · rw [if_pos (glow i hi).1]
        · split
          · rfl
          · exact hT _ (by rw [ghigh i hi]; omega)
    · rw [rmK_out _ j (fun i e => hj ⟨i, e⟩), lDk] at h
      split at h
      · cases h
      · rename_i hjl
        have hjx : j < st.nt := (R.tok j t h).1
        exact .inl ⟨hjx, hjl, h, τo j hjx hjl⟩
  have X : Ext C C2 st.toks (rmK g s.toks ++ dropK lt st.toks) (· < st.nx) (· < st.nt) (· < s.nx - m + st.nx) (· < s.nt - mt + st.nt) := by
    refine ⟨R1.sold, fun i hi => ρo i hi, fun k t hk h => ?_, fun i (hi : i < st.nx) => Nat.lt_of_lt_of_le hi (Nat.le_add_left _ _), fun i (hi : i < st.nt) => Nat.lt_of_lt_of_le hi (Nat.le_add_left _ _)⟩
    have hk' : k < st.nt := hk
    rcases splitT k t h with ⟨h1, h2, h3, h4⟩ | ⟨i, h1, h2, h3⟩
    · exact ⟨t, h3, Nat.le_refl _, rfl, fun _ => h4⟩
    · have hi : i < mt := by
        rcases Nat.lt_or_ge i mt with hi | hi
        · exact hi
        · rw [ghigh i hi] at h1; omega
      obtain ⟨t1, g1, g2, g3, g4⟩ := X1.tok i t hi h2
      exact ⟨t1, by rw [h1]; exact (ht' i t1 g1).2, g2, g3, fun e => by rw [h3, g4 e, h1]⟩
  have shV : ∀ {v : Value} {p : PV}, RepV C1 s.toks (· < s.nx) (· < s.nt) v p → RepV C2 (rmK g s.toks ++ dropK lt st.toks) (· < s.nx - m + st.nx) (· < s.nt - mt + st.nt) v (p.rm f g) := fun r => by
    refine RepV.rm (C := C1) (C' := C2) (SLe.refl _) (fun i (hi : i < s.nx) => ⟨ρf i, fU i hi⟩) (fun k (hk : k < s.nt) => ⟨τg k, gU k hk, fun t h => ?_⟩) r
    rcases splitT _ t h with ⟨h1, h2, h3, h4⟩ | ⟨i, h1, h2, h3⟩
    · exfalso
      rcases Nat.lt_or_ge k mt with hi | hi
      · exact h2 (glow k hi).1
      · rw [ghigh k hi] at h1; omega
    · rw [ginj _ _ h1]; exact h2
  have far : ∀ b, own' b ∨ w.heap.size ≤ b → own b ∨ w0.heap.size ≤ b := fun b h => by
    rcases h with h | h
    · exact (own'_ok b h).2
    · exact .inr (by omega)
  refine ⟨_, _, v, C2, ⟨r0, s, hq, rfl, rfl⟩, rfl, ⟨⟨R1.frame.os.trans R.frame.os, R1.frame.tape.trans R.frame.tape, R1.frame.output.trans R.frame.output, Nat.le_trans hs0 R1.frame.size, fun k hk hn => ?_⟩, R1.stable, ?_, ?_, ?_, ?_, ?_, ?_, ?_, ?_, fun b o v h => R1.sold b o v (R.sold b o v h), R.base.trans X, R.glob⟩, X, shV hrep⟩
  · rw [bel k (by omega) (fun h => ?_)]
    · exact R.frame.block k hk hn
    · rcases (own'_ok k h).2 with h1 | h1
      · exact hn h1
      · omega
  · intro j T cs h
    rcases split j _ h with ⟨h1, h2, h3, h4⟩ | ⟨i, o', h1, h2, h3, h4⟩
    · obtain ⟨us, g1, g2, g3⟩ := R.box j T cs h3
      exact ⟨us, by rw [h4, bel _ (ltw g1) (apart j _ h3 h2)]; exact g1, g2, fun i v p hv hp => ⟨(g3 i v p hv hp).1, (g3 i v p hv hp).2.ext X⟩⟩
    · cases o' with
      | iter s pos => cases h3
      | box T' cs' =>
        obtain ⟨rfl, rfl⟩ := PObj.box.inj h3
        obtain ⟨us, g1, g2, g3⟩ := R1.box _ T cs' h2
        refine ⟨us, by rw [h4]; exact g1, by rw [rmL_len]; exact g2, fun i v p hv hp => ?_⟩
        rw [rmL_get] at hp
        obtain ⟨q, hq, rfl⟩ := Option.map_eq_some_iff.1 hp
        exact ⟨(g3 i v q hv hq).1, shV (g3 i v q hv hq).2⟩
  · intro j sx pos h
    rcases split j _ h with ⟨h1, h2, h3, h4⟩ | ⟨i, o', h1, h2, h3, h4⟩
    · have g1 := R.iter j sx pos h3
      rw [h4, bel _ (ltw g1) (apart j _ h3 h2)]; exact g1
    · cases o' with
      | box T' cs' => cases h3
      | iter s' pos' =>
        obtain ⟨rfl, rfl⟩ := PObj.iter.inj h3
        rw [h4]; exact R1.iter _ _ _ h2
  · intro j o h
    rcases split j _ h with ⟨h1, h2, h3, h4⟩ | ⟨i, o', h1, h2, h3, h4⟩
    · obtain ⟨g1, g2, g3, g4⟩ := R.hown j o h3
      exact ⟨by show j < s.nx - m + st.nx; omega, by rw [h4]; have := R1.frame.size; omega, by rw [h4]; exact g3, fun o' => by rw [h4]; exact snone _ o' g2 (apart j _ h3 h2) (g4 o')⟩
    · obtain ⟨g1, g2, g3, g4⟩ := R1.hown _ o' h2
      exact ⟨by rw [h1]; exact fU i g1, by rw [h4]; exact g2, by rw [h4]; exact far _ (placeB i o' h2), fun o' => by rw [h4]; exact g4 o'⟩
  · intro i j oi oj h1 h2 he
    rcases split i _ h1 with ⟨a1, a2, a3, a4⟩ | ⟨i', o1, a1, a2, a3, a4⟩ <;> rcases split j _ h2 with ⟨b1, b2, b3, b4⟩ | ⟨j', o2, b1, b2, b3, b4⟩
    · rw [a4, b4] at he; exact R.hinj i j _ _ a3 b3 he
    · rw [a4, b4] at he
      rcases placeB _ _ b2 with h | h
      · rw [← he] at h; exact absurd h (apart i _ a3 a2)
      · have := (R.hown i _ a3).2.1; omega
    · rw [a4, b4] at he
      rcases placeB _ _ a2 with h | h
      · rw [he] at h; exact absurd h (apart j _ b3 b2)
      · have := (R.hown j _ b3).2.1; omega
    · rw [a4, b4] at he
      rw [a1, b1, R1.hinj _ _ _ _ a2 b2 he]
  · intro k t h
    rcases splitT k t h with ⟨h1, h2, h3, h4⟩ | ⟨i, h1, h2, h3⟩
    · obtain ⟨g1, g2, ⟨us, g3, g4⟩, g5, g6, g7⟩ := R.tok k t h3
      rw [h4]
      exact ⟨by show k < s.nt - mt + st.nt; omega, g2, ⟨us, by rw [bel _ (ltw g3) (tokApart k t h3 h2)]; exact g3, g4⟩, g5, g6, fun o ho => snone _ o (ltw g3) (tokApart k t h3 h2) (g7 o ho)⟩
    · obtain ⟨g1, g2, g3, g5, g6, g7⟩ := R1.tok _ t h2
      rw [h3]
      exact ⟨by rw [h1]; exact gU i g1, far _ (placeT _ _ h2), g3, g5, g6, g7⟩
  · intro i oi k t h1 h2
    rcases split i _ h1 with ⟨a1, a2, a3, a4⟩ | ⟨i', o1, a1, a2, a3, a4⟩ <;> rcases splitT k t h2 with ⟨b1, b2, b3, b4⟩ | ⟨k', b1, b2, b3⟩
    · rw [a4, b4]; exact R.tbox i _ k t a3 b3
    · rw [a4, b3]
      intro he
      rcases placeT _ _ b2 with h | h
      · rw [← he] at h; exact apart i _ a3 a2 h
      · have := (R.hown i _ a3).2.1; omega
    · rw [a4, b4]
      intro he
      obtain ⟨_, _, ⟨us, g3, _⟩, _⟩ := R.tok k t b3
      rcases placeB _ _ a2 with h | h
      · rw [he] at h; exact tokApart k t b3 b2 h
      · have := ltw g3; omega
    · rw [a4, b3]; exact R1.tbox _ _ _ t a2 b2
  · intro i j ti tj h1 h2 he
    rcases splitT i _ h1 with ⟨a1, a2, a3, a4⟩ | ⟨i', a1, a2, a3⟩ <;> rcases splitT j _ h2 with ⟨b1, b2, b3, b4⟩ | ⟨j', b1, b2, b3⟩
    · rw [a4, b4] at he; exact R.tinj i j _ _ a3 b3 he
    · rw [a4, b3] at he
      obtain ⟨_, _, ⟨us, g3, _⟩, _⟩ := R.tok i _ a3
      rcases placeT _ _ b2 with h | h
      · rw [← he] at h; exact absurd h (tokApart i _ a3 a2)
      · have := ltw g3; omega
    · rw [a3, b4] at he
      obtain ⟨_, _, ⟨us, g3, _⟩, _⟩ := R.tok j _ b3
      rcases placeT _ _ a2 with h | h
      · rw [he] at h; exact absurd h (tokApart j _ b3 b2)
      · have := ltw g3; omega
    · rw [a3, b3] at he
      have := R1.tinj _ _ _ _ a2 b2 he
      rw [a1, b1, this]
  · intro b o u h
    rcases R1.snew b o u h with h1 | h1
    · exact R.snew b o u h1
    · exact .inr (far b h1)
/-- A result, with rows read ags what they hold. -/
def frR (p : PV) : PV := (fzA p).getD p
def outF (P : Program) (fn : Func) (L : Nat × Nat) (Q : PV → PS → Prop) : Exit → PS → Prop
  | .normal, st => bindO (resAll P st fn.results.toList) fun l => ∃ st', Q (packR (l.map frR)) st' ∧ Weak L { st with env := [(0, packR (l.map frR))] } { st' with env := [(0, packR (l.map frR))] }
  | .ret, st => bindO (resAll P st fn.results.toList) fun l => ∃ st', Q (packR (l.map frR)) st' ∧ Weak L { st with env := [(0, packR (l.map frR))] } { st' with env := [(0, packR (l.map frR))] }
  | _, _ => False
end
section
variable {P : Program} {own : Nat → Prop} {S0 : Base} {w0 w : World} {C : Cx} {U V : Nat → Prop} {st : PS}
mutual
/-- A pointer to what isn't written any more. -/
def PV.pf (i : Nat) (ds : List PV) : PV → PV
  | .val v => .val v
  | .sl xs => .sl xs
  | .row k xs => .row k xs
  | .ptr j o => if j = i then .fp (ds.drop o) else .ptr j o
  | .ms i lo n c => .ms i lo n c
  | .fp cs => .fp cs
  | .agg cs => .agg (PV.pfL i ds cs)
  | .tup cs => .tup (PV.pfL i ds cs)
  | .fn h cs => .fn h (PV.pfL i ds cs)
  | .iface t p => .iface t (PV.pf i ds p)
def PV.pfL (i : Nat) (ds : List PV) : List PV → List PV
  | [] => []
  | p :: r => PV.pf i ds p :: PV.pfL i ds r
end
theorem pfL_get {i : Nat} {ds : List PV} : ∀ {cs : List PV} (j : Nat), (PV.pfL i ds cs)[j]? = (cs[j]?).map (PV.pf i ds)
  | [], j => by simp [PV.pfL]
  | p :: r, 0 => by simp [PV.pfL]
  | p :: r, j + 1 => by simp [PV.pfL, pfL_get j]
theorem pfL_len {i : Nat} {ds : List PV} : ∀ {cs : List PV}, (PV.pfL i ds cs).length = cs.length
  | [] => rfl
  | p :: r => by rw [PV.pfL, List.length_cons, pfL_len, List.length_cons]
theorem RepV.pf {T : List (Nat × Tok)} {i : Nat} {ds : List PV} (h : ∀ (off : Nat) (j : Nat) (p : PV), (ds.drop off)[j]? = some p → ∃ u, C.S (C.ρ i) (off + j) = some u ∧ RepF C.S u p) {v : Value} {p : PV} (r : RepV C T U V v p) : RepV C T U V v (p.pf i ds) := by
  induction r with
  | @frz v p h' =>
    cases h' with
    | val h1 => exact .frz (.val h1)
    | sl f a b c d e => exact .frz (.sl f a b c d e)
  | row h hk ht => exact .row h hk ht
  | @ptr id off hU =>
    simp only [PV.pf]
    split
    · rename_i e
      subst e
      exact .fp (h off)
    · exact .ptr hU
  | ms h hc => exact .ms h hc
  | fp h => exact .fp h
  | agg hs h h1 ih =>
    refine .agg (by rw [pfL_len]; exact hs) (fun i v p hv hp => ?_) h1
    rw [pfL_get] at hp
    obtain ⟨q, hq, rfl⟩ := Option.map_eq_some_iff.1 hp
    exact ih i v q hv hq
  | tup hs h ih =>
    refine .tup (by rw [pfL_len]; exact hs) (fun i v p hv hp => ?_)
    rw [pfL_get] at hp
    obtain ⟨q, hq, rfl⟩ := Option.map_eq_some_iff.1 hp
    exact ih i v q hv hq
  | fn hs h ih =>
    refine .fn (by rw [pfL_len]; exact hs) (fun i v p hv hp => ?_)
    rw [pfL_get] at hp
    obtain ⟨q, hq, rfl⟩ := Option.map_eq_some_iff.1 hp
    exact ih i v q hv hq
  | iface h ih => exact .iface ih
end
/-! Several regions that are cut. -/
def bar2 (r k : Nat) (b : Nat → Option Nat) : Nat → Option Nat := fun i => if i = r then some k else b i
section
variable {P : Program} {l0 : Nat × Nat} {st : PS} {Q : Exit → PS → Prop}
theorem p_skip_bar {id r k : Nat} {b : Nat → Option Nat} {ops : Array Oper} {dr : Bool} (h : id ≠ r) : pwp P ⟨l0, bar2 r k b⟩ (.region id ops dr) st Q = pwp P ⟨l0, b⟩ (.region id ops dr) st Q := by
  have : bar2 r k b id = b id := if_neg h
  cases dr <;> simp only [pwp, this]
theorem p_bar2 {r k : Nat} {b : Nat → Option Nat} {l : List Oper} (hb : barOk l.toArray k = true) (h : evS st fun st => evN st.nx fun a => evN st.nt fun b => evL (l.take k) fun l1 => dops P l.toArray a b 0 l1 st fun s => evS s fun s => evL ((l.drop k).take 1) fun l2 => dopsS P l.toArray 0 l2 s fun s => evS s fun s => evN s.nx fun a => evN s.nt fun b => evL (l.drop (k + 1)) fun l3 => dops P l.toArray a b (k + 1) l3 s (Q .normal)) :
    pwp P ⟨l0, bar2 r k b⟩ (.region r l.toArray true) st Q := by
  have e := p_bar (l0 := l0) (r := r) hb h
  have h1 : bar2 r k b r = some k := if_pos rfl
  have h2 : oneBar r k r = some k := if_pos rfl
  simp only [pwp, h1, h2] at e ⊢
  exact e
end
attribute [go_sem ↓] p_skip_bar
attribute [go_sem] PV.pf PV.pfL frR outF Option.getD_some Option.getD_none List.map_cons List.map_nil
attribute [go_sem] PV.rm PV.rmL PObj.rm rmH rmK dropK
end Go.Pw

end
section
/-
  strings.Builder, alone or at the head of a struct, in the call's own memory: copyCheck, String, WriteString, WriteByte by contract; taken at any state.
-/
open Go Go.Proofs Go.Pw Go.RowKit
namespace Go.Proofs.YtmfaejdnaippkaaDoor
set_option maxRecDepth 4000
set_option linter.unusedVariables false
set_option linter.unusedSimpArgs false
section
variable {own : Nat → Prop} {S0 : Base} {w0 w : World} {C : Cx} {U V : Nat → Prop} {st : PS}
theorem setCell_row {vs : Array Value} {t : TypeId} {fr : Nat × Nat} {g i : Nat} (hg : w.heap[g]? = some (.cells vs t fr)) (v : Value) : w.setCell ⟨g, i, none⟩ v = w.setRow g (vs.setIfInBounds i v) := by
  unfold World.setCell World.setRow
  congr 1
  refine Array.ext_getElem? fun j => ?_
  simp only [Array.getElem?_modify]
  split
  · rename_i h
    subst h
    rw [hg]
    rfl
  · rfl
/-- Forget a row. -/
theorem Rel.toks_ (R : Rel own S0 w0 C U V st w) {T : List (Nat × Tok)} (hT : ∀ k t, lkp T k = some t → lkp st.toks k = some t) : Rel own S0 w0 C U V { st with toks := T } w ∧ Ext C C st.toks T U V U V := by
  have X : Ext C C st.toks T U V U V := ⟨SLe.refl _, fun _ _ => rfl, fun k t _ h => ⟨t, hT k t h, Nat.le_refl _, rfl, fun _ => rfl⟩, fun _ h => h, fun _ h => h⟩
  refine ⟨⟨R.frame, R.stable, fun id T' cs h => ?_, R.iter, R.hown, R.hinj, fun k t h => R.tok k t (hT k t h), fun i oi k t h1 h2 => R.tbox i oi k t h1 (hT k t h2), fun i j ti tj h1 h2 => R.tinj i j ti tj (hT _ _ h1) (hT _ _ h2), R.snew, R.sold, R.base.trans X, R.glob⟩, X⟩
  obtain ⟨vs, h1, h2, h3⟩ := R.box id T' cs h
  exact ⟨vs, h1, h2, fun i v p hv hp => ⟨(h3 i v p hv hp).1, (h3 i v p hv hp).2.ext X⟩⟩
theorem freeze_other (w : World) (g n k : Nat) (h : k ≠ g) : (w.freeze ⟨g, 0, none⟩ n).heap[k]? = w.heap[k]? := by
  unfold World.freeze
  split
  · rfl
  · simp [Array.getElem?_modify, Ne.symm h]
theorem freeze_cell (w : World) (g n b o : Nat) : (w.freeze ⟨g, 0, none⟩ n).cell? ⟨b, o, none⟩ = w.cell? ⟨b, o, none⟩ := by
  by_cases hb : b = g
  · subst hb
    unfold World.freeze
    split
    · rfl
    · unfold World.cell?
      simp only [Array.getElem?_modify, if_true]
      cases w.heap[b]? with
      | none => rfl
      | some x => cases x <;> rfl
  · exact World.cell?_of_block (freeze_other w g n b hb)
/-- Forget a row, and freeze what lies there. -/
theorem Rel.freeze_ (R : Rel own S0 w0 C U V st w) {k : Nat} {t : Tok} (hk : lkp st.toks k = some t) {T : List (Nat × Tok)} (hT : ∀ j t, lkp T j = some t → j ≠ k ∧ lkp st.toks j = some t) (n : Nat) :
    Rel own S0 w0 C U V { st with toks := T } (w.freeze ⟨(C.τ k).1, 0, none⟩ n) ∧ Ext C C st.toks T U V U V := by
  obtain ⟨R', X⟩ := Rel.toks_ R (T := T) fun j t h => (hT j t h).2
  have hown := (R.tok k t hk).2.1
  have hother : ∀ b, b ≠ (C.τ k).1 → (w.freeze ⟨(C.τ k).1, 0, none⟩ n).heap[b]? = w.heap[b]? := fun b hb => freeze_other w _ n b hb
  have hsize : (w.freeze ⟨(C.τ k).1, 0, none⟩ n).heap.size = w.heap.size := by
    unfold World.freeze
    split
    · rfl
    · simp
  have hio : (w.freeze ⟨(C.τ k).1, 0, none⟩ n).os = w.os ∧ (w.freeze ⟨(C.τ k).1, 0, none⟩ n).tape = w.tape ∧ (w.freeze ⟨(C.τ k).1, 0, none⟩ n).output = w.output := by
    unfold World.freeze
    split <;> exact ⟨rfl, rfl, rfl⟩
  refine ⟨⟨⟨by rw [hio.1]; exact R.frame.os, by rw [hio.2.1]; exact R.frame.tape, by rw [hio.2.2]; exact R.frame.output, by rw [hsize]; exact R.frame.size, fun b hb hn => ?_⟩, fun b o v h => ?_, fun id T' cs h => ?_, fun id s pos h => ?_, fun id o h => ?_, R'.hinj, fun j t' h => ?_, R'.tbox, R'.tinj, R'.snew, R'.sold, R'.base, R'.glob⟩, X⟩
  · rw [hother b (fun e => by subst e; rcases hown with h | h; exact hn h; omega)]
    exact R.frame.block b hb hn
  · rw [freeze_cell]
    exact R.stable b o v h
  · rw [hother _ (fun e => R.tbox id _ k t h hk e)]
    exact R'.box id T' cs h
  · rw [hother _ (fun e => R.tbox id _ k t h hk e)]
    exact R.iter id s pos h
  · rw [hsize]
    exact R.hown id o h
  · rw [hother _ (fun e => (hT j t' h).1 (R.tinj j k t' t (hT j t' h).2 hk e))]
    exact R'.tok j t' h
end
abbrev vNP : PV := .val (.pointer none)
@[irreducible] def rowS (k : Nat) (s : ByteArray) : PV := if s.size = 0 then .val (.slice none 0 0) else .row k (encS s)
@[irreducible] def tokS (k : Nat) (e : TypeId) (s : ByteArray) : List (Nat × Tok) := if s.size = 0 then [] else [(k, ⟨e, 1, s.size⟩)]
/-- What lies in memory: a variable with a builder at its head that holds s. -/
def bldB (T : TypeId) (k : Nat) (a : PV) (s : ByteArray) (rest : List PV) : List (Nat × PObj) := [(0, .box T (a :: rowS k s :: rest))]
theorem three_of {vs : Array Value} {n : Nat} (h : vs.size = n + 2) : ∃ v0 v1 vr, vs = ⟨v0 :: v1 :: vr⟩ ∧ vr.length = n := by
  cases vs with
  | mk l => match l, h with
    | v0 :: v1 :: vr, h => exact ⟨v0, v1, vr, rfl, by simpa using h⟩
theorem copy_ok {T : TypeId} {rest : List PV} (hT : Heads T (rest.length + 2)) (nx nt : Nat) (a b : PV) (TK : List (Nat × Tok)) (ha : a = vNP ∨ a = .ptr 0 0) :
    OkI Tryd.prog 55 [.ptr 0 0] ⟨[], [(0, .box T (a :: b :: rest))], TK, nx, nt⟩ (fun r st' => r = .tup [] ∧ st' = ⟨[], [(0, .box T (.ptr 0 0 :: b :: rest))], TK, nx, nt⟩) := by
  refine ⟨by kernel_rfl, fun own S0 w0 w C vals R hn hr => ?_⟩
  have ho : lkp ([(0, PObj.box T (a :: b :: rest))] : List (Nat × PObj)) 0 = some (.box T (a :: b :: rest)) := by simp [lkp]
  obtain ⟨vs, hb, hs, hv⟩ := R.box 0 _ _ ho
  obtain ⟨v, rfl⟩ : ∃ v, vals = #[v] := by
    cases vals with
    | mk l => match l, hn with
      | [v], _ => exact ⟨v, rfl⟩
  obtain ⟨v0, v1, vr, rfl, hvr⟩ := three_of (n := rest.length) hs
  obtain ⟨rfl, hU⟩ := rep_ptr (hr 0 v _ rfl rfl)
  have h0 := hv 0 v0 a rfl rfl
  have hc : w.cell? ⟨C.ρ 0, 0, none⟩ = some v0 := by rw [Lib.cell_of_heap hb]; rfl
  rcases ha with rfl | rfl
  · obtain ⟨rfl, _⟩ := rep_val h0.2
    refine (copy_fresh hT (C.ρ 0) w hc (by simp [World.shape?, hb, hvr]) (by simp [World.frozen?, hb])).mono ?_
    rintro e w' ⟨rfl, rfl⟩
    refine ⟨.tup [], _, .tuple #[], C, ⟨rfl, rfl⟩, rfl, ?_, Ext.refl _ _ _ _, .tup rfl (fun i v p hv hp => by simp at hp)⟩
    have R' := R.store (id := 0) (T := T) ho (cs' := .ptr 0 0 :: b :: rest) (vs' := ⟨.pointer (some ⟨C.ρ 0, 0, none⟩) :: v1 :: vr⟩) ⟨by simpa using hvr, fun i v p hv' hp => by
      match i with
      | 0 => simp at hv' hp; subst hv' hp; exact ⟨rfl, .ptr hU⟩
      | i + 1 => exact hv (i + 1) v p (by simpa using hv') (by simpa using hp)⟩
    rw [setCell_row hb]
    have eu : upd [(0, PObj.box T (vNP :: b :: rest))] 0 (.box T (.ptr 0 0 :: b :: rest)) = [(0, .box T (.ptr 0 0 :: b :: rest))] := by simp [upd]
    rw [← eu]
    exact R'
  · obtain ⟨rfl, _⟩ := rep_ptr h0.2
    refine (copy_used (C.ρ 0) w hc).mono ?_
    rintro e w' ⟨rfl, rfl⟩
    exact ⟨.tup [], _, .tuple #[], C, ⟨rfl, rfl⟩, rfl, R, Ext.refl _ _ _ _, .tup rfl (fun i v p hv hp => by simp at hp)⟩
theorem string_ok0 (T : TypeId) (s : ByteArray) (k nx nt : Nat) (a : PV) (rest : List PV) :
    OkI Tryd.prog 20 [.ptr 0 0] ⟨[], bldB T k a s rest, tokS k 5 s, nx, nt⟩ (fun r st' => r = .val (.string s) ∧ st' = ⟨[], bldB T k a s rest, [], nx, nt⟩) := by
  refine ⟨by kernel_rfl, fun own S0 w0 w C vals R hn hr => ?_⟩
  have ho : lkp (bldB T k a s rest) 0 = some (.box T (a :: rowS k s :: rest)) := by simp [bldB, lkp]
  obtain ⟨vs, hb, hs, hv⟩ := R.box 0 _ _ ho
  obtain ⟨v, rfl⟩ : ∃ v, vals = #[v] := by
    cases vals with
    | mk l => match l, hn with
      | [v], _ => exact ⟨v, rfl⟩
  obtain ⟨v0, v1, vr, rfl, hvr⟩ := three_of (n := rest.length) hs
  obtain ⟨rfl, hU⟩ := rep_ptr (hr 0 v _ rfl rfl)
  have h1 := hv 1 v1 (rowS k s) rfl rfl
  have hc : w.cell? ⟨C.ρ 0, 1, none⟩ = some v1 := by rw [Lib.cell_of_heap hb]; rfl
  by_cases h0 : s.size = 0
  · have es : s = ⟨#[]⟩ := by
      cases s with
      | mk d => congr 1; exact Array.size_eq_zero_iff.1 h0
    simp only [rowS, h0, if_true] at h1
    obtain ⟨rfl, _⟩ := rep_val h1.2
    have eT : tokS k 5 s = [] := by simp [tokS, h0]
    refine (string_nil (C.ρ 0) w hc).mono ?_
    rintro e w' ⟨rfl, rfl⟩
    rw [eT] at R ⊢
    exact ⟨.val (.string s), _, .string ⟨#[]⟩, C, ⟨rfl, rfl⟩, rfl, R.drew, Ext.refl _ _ _ _, by rw [es]; exact .frz (.val rfl)⟩
  · have eT : tokS k 5 s = [(k, ⟨5, 1, s.size⟩)] := by simp [tokS, h0]
    simp only [rowS, h0, if_false] at h1
    rw [eT] at R h1
    have hk : lkp [(k, (⟨5, 1, s.size⟩ : Tok))] k = some ⟨5, 1, s.size⟩ := by simp [lkp]
    obtain ⟨hV, hown, ⟨cur, hcur, hcs⟩, hnc, hcm, hS⟩ := R.tok k _ hk
    have hlen : (encS s).length = s.size := by simp [encS]
    have hll : s.data.toList.length = s.size := by simp
    have hval : v1 = .slice (some ⟨(C.τ k).1, 0, none⟩) s.data.toList.length (C.τ k).2 := by
      rw [hll]
      have h2 := h1.2
      cases h2 with
      | frz h => cases h
      | row g1 g2 g3 => exact (g3 _ hk).2.2 hlen
    have hxf := rep_sl (.inr ⟨_, h1.2⟩)
    have hcells : ∀ (j : Nat) (x : UInt8), s.data.toList[j]? = some x → cur[j]? = some (Value.int .u8 x.toNat) := by
      intro j x hx
      have hj : j < (encS s).length := by rw [hlen]; have := (List.getElem?_eq_some_iff.1 hx).1; omega
      rw [hval] at hxf
      generalize hvv : Value.slice (some ⟨(C.τ k).1, 0, none⟩) s.data.toList.length (C.τ k).2 = v at hxf
      have hxs : (encS s)[j]? = some [.val (.int .u8 x.toNat)] := by simp [encS, hx]
      cases hxf with
      | @sl A n cc sz' _ f hn' hcc hsz' hA hrr =>
        injection hvv with g1 g2 g3
        subst g1
        obtain ⟨b, o', e3, hS'⟩ := hA (by omega)
        injection e3 with e3
        injection e3 with e3 e4
        subst e3 e4
        have e5 : sz' = 1 := (hsz' _ (List.mem_of_getElem? hxs)).symm
        subst e5
        have h1 := R.stable _ _ _ (hS' j 0 (by omega) (by omega))
        rw [cell_of_row w _ _ cur 5 (0, 0) hcur] at h1
        have h2 := hrr j 0 _ _ hxs rfl
        rw [show f j 0 = Value.int .u8 x.toNat from by generalize f j 0 = u at h2; cases h2; rfl] at h1
        simpa using h1
    rw [hval] at hc
    refine (string_some (C.ρ 0) (C.τ k).1 (C.τ k).2 w s.data.toList (fun h => h0 (by rw [← hll, h]; rfl)) (by rw [hll]; exact hnc) hcm hc cur hcur (by rw [hcs, Nat.mul_one]) hcells).mono ?_
    rintro e w' ⟨rfl, rfl⟩
    obtain ⟨R', X⟩ := Rel.freeze_ (R.drew) (k := k) hk (T := []) (fun j t h => by cases h) s.data.toList.length
    rw [eT]
    exact ⟨.val (.string s), _, .string ⟨s.data.toList.toArray⟩, C, ⟨rfl, rfl⟩, rfl, R', X, .frz (by
      have : (⟨s.data.toList.toArray⟩ : ByteArray) = s := by simp
      rw [this]; exact .val rfl)⟩
end Go.Proofs.YtmfaejdnaippkaaDoor

end
section
/-
  strings.Builder: WriteString and WriteByte by contract; and each of a builder's functions taken at any state.
-/
open Go Go.Proofs Go.Pw Go.RowKit
namespace Go.Proofs.YtmfaejdnaippkaaDoor
set_option maxRecDepth 4000
set_option linter.unusedVariables false
set_option linter.unusedSimpArgs false
/-- What a function leaves that writes into a builder: its result, and what the builder holds. -/
def bldQ (T : TypeId) (s : ByteArray) (rest : List PV) (R : PV) (r : PV) (st : PS) : Prop := r = R ∧ ∃ k, k < st.nt ∧ 1 ≤ st.nt ∧ st.nx = 1 ∧ st.heap = bldB T k (.ptr 0 0) s rest ∧ st.toks = tokS k 5 s
theorem rowS_rm (f g : Nat → Nat) (k : Nat) (s : ByteArray) : (rowS k s).rm f g = rowS (g k) s := by unfold rowS; split <;> rfl
theorem tokS_rm (g : Nat → Nat) (k : Nat) (s : ByteArray) (e : TypeId) : rmK g (tokS k e s) = tokS (g k) e s := by unfold tokS; split <;> rfl
theorem rowS_lt (a b k : Nat) (s : ByteArray) (h : k < b) : (rowS k s).lt a b = true := by unfold rowS; split <;> simp [PV.lt, h]
theorem app_s0 {e : TypeId} {b tk : Nat} {st : PS} {K : Delta → Prop} {d : PV} {t : ByteArray} (h0 : t.size = 0) : appS e b st tk K d (.val (.string t)) = (sliceLike d = true ∧ K (.val d)) := by
  have hn := encS_len t
  unfold appS
  simp only
  generalize encS t = l at *
  cases l with
  | nil => rfl
  | cons y r => simp at hn; omega
/-- ████ What a function does with a builder, at any state that has one. -/
theorem bld_at0 {g0 : FuncId} {T : TypeId} {s s' : ByteArray} {a' : PV} {rest as0 : List PV} {R : PV} (i k : Nat) {st : PS}
    (ok : ∀ a, (a = vNP ∨ a = .ptr 0 0) → a.rm (rnF [i] st.nx) (rnF [k] st.nt) = a' → OkI Tryd.prog g0 (.ptr 0 0 :: as0) ⟨[], bldB T 0 a s rest, tokS 0 5 s, 1, 1⟩ (bldQ T s' rest R))
    (hi : i < st.nx) (hk : k < st.nt) (ha : a' = vNP ∨ a' = .ptr i 0) (hrest : PV.ltL 0 0 rest = true) (has : PV.ltL 0 0 as0 = true) (hR : R.lt 0 0 = true)
    (ho : lkp st.heap i = some (.box T (a' :: rowS k s :: rest))) (ht : s.size ≠ 0 → lkp st.toks k = some ⟨5, 1, s.size⟩) :
    OkI Tryd.prog g0 (.ptr i 0 :: as0) st (fun r st' => r = R ∧ ∃ k' nt', k' < nt' ∧ st.nt ≤ nt' ∧ st' = ⟨st.env, (i, .box T (.ptr i 0 :: rowS k' s' :: rest)) :: dropH [i] st.heap, tokS k' 5 s' ++ dropK [k] st.toks, st.nx, nt'⟩) := by
  obtain ⟨a, hca, haa⟩ : ∃ a, (a = vNP ∨ a = .ptr 0 0) ∧ a.rm (rnF [i] st.nx) (rnF [k] st.nt) = a' ∧ a.lt 1 1 = true := by
    rcases ha with rfl | rfl
    · exact ⟨vNP, .inl rfl, rfl, rfl⟩
    · exact ⟨.ptr 0 0, .inr rfl, rfl, rfl⟩
  refine OkI.mono' (OkI.frameT [i] [k] (ok a hca haa.1) (by simp) (fun j hj => by rw [List.mem_singleton] at hj; subst hj; exact hi) (by simp) (fun j hj => by rw [List.mem_singleton] at hj; subst hj; exact hk) (fun e he => ?_) (fun e he => ?_) ?_ ?_) ?_
  · simp only [bldB, List.mem_singleton] at he
    subst he
    refine ⟨Nat.zero_lt_one, ?_, ?_⟩
    · simp only [PObj.lt, PV.ltL, haa.2, rowS_lt 1 1 0 s Nat.zero_lt_one, ltL_low (Nat.zero_le 1) (Nat.zero_le 1) rest hrest, Bool.and_self, List.length_singleton]
    · show lkp st.heap i = _
      rw [ho, PObj.rm, PV.rmL, PV.rmL, haa.1, rowS_rm, rmL_frz rest hrest]
      rfl
  · unfold tokS at he
    split at he
    · cases he
    · rename_i h0
      rw [List.mem_singleton] at he
      subst he
      exact ⟨Nat.zero_lt_one, ht h0⟩
  · simp only [PV.ltL, PV.lt, List.length_singleton, Nat.zero_lt_one, decide_true, Bool.true_and]
    exact ltL_low (Nat.zero_le 1) (Nat.zero_le 1) as0 has
  · rw [PV.rmL, rmL_frz as0 has]; rfl
  · rintro r st' ⟨r0, s0, ⟨rfl, k0, h1, h2, h3, h4, h5⟩, rfl, rfl⟩
    refine ⟨rm_frz r0 hR, rnF [k] st.nt k0, s0.nt - 1 + st.nt, ?_, by omega, ?_⟩
    · cases k0 with
      | zero => show k < _; omega
      | succ n => rw [rnF_high (l := [k]) (n + 1) (by simp)]; simp only [List.length_singleton]; omega
    · rw [h3, h4, h5, tokS_rm]
      simp only [bldB, rmH, PObj.rm, PV.rmL, rowS_rm, rmL_frz rest hrest, List.length_singleton, List.cons_append, List.nil_append]
      have : 1 - 1 + st.nx = st.nx := by omega
      rw [this]
      rfl
theorem bld_at {g0 : FuncId} {T : TypeId} {s s' : ByteArray} {a' : PV} {rest as0 : List PV} {R : PV} (i k : Nat) {st : PS}
    (ok : ∀ a, (a = vNP ∨ a = .ptr 0 0) → OkI Tryd.prog g0 (.ptr 0 0 :: as0) ⟨[], bldB T 0 a s rest, tokS 0 5 s, 1, 1⟩ (bldQ T s' rest R))
    (hi : i < st.nx) (hk : k < st.nt) (ha : a' = vNP ∨ a' = .ptr i 0) (hrest : PV.ltL 0 0 rest = true) (has : PV.ltL 0 0 as0 = true) (hR : R.lt 0 0 = true)
    (ho : lkp st.heap i = some (.box T (a' :: rowS k s :: rest))) (ht : s.size ≠ 0 → lkp st.toks k = some ⟨5, 1, s.size⟩) :
    OkI Tryd.prog g0 (.ptr i 0 :: as0) st (fun r st' => r = R ∧ ∃ k' nt', k' < nt' ∧ st.nt ≤ nt' ∧ st' = ⟨st.env, (i, .box T (.ptr i 0 :: rowS k' s' :: rest)) :: dropH [i] st.heap, tokS k' 5 s' ++ dropK [k] st.toks, st.nx, nt'⟩) :=
  bld_at0 i k (fun a h _ => ok a h) hi hk ha hrest has hR ho ht
theorem string_at {T : TypeId} {s : ByteArray} {a' : PV} {rest : List PV} (i k : Nat) {st : PS} (hi : i < st.nx) (hk : k < st.nt) (ha : a' = vNP ∨ a' = .ptr i 0) (hrest : PV.ltL 0 0 rest = true)
    (ho : lkp st.heap i = some (.box T (a' :: rowS k s :: rest))) (ht : s.size ≠ 0 → lkp st.toks k = some ⟨5, 1, s.size⟩) :
    OkI Tryd.prog 20 [.ptr i 0] st (fun r st' => r = vS s ∧ st' = ⟨st.env, (i, .box T (a' :: rowS k s :: rest)) :: dropH [i] st.heap, dropK [k] st.toks, st.nx, st.nt⟩) := by
  obtain ⟨a, hca, haa⟩ : ∃ a, (a = vNP ∨ a = .ptr 0 0) ∧ a.rm (rnF [i] st.nx) (rnF [k] st.nt) = a' ∧ a.lt 1 1 = true := by
    rcases ha with rfl | rfl
    · exact ⟨vNP, .inl rfl, rfl, rfl⟩
    · exact ⟨.ptr 0 0, .inr rfl, rfl, rfl⟩
  refine OkI.mono' (OkI.frameT [i] [k] (string_ok0 T s 0 1 1 a rest) (by simp) (fun j hj => by rw [List.mem_singleton] at hj; subst hj; exact hi) (by simp) (fun j hj => by rw [List.mem_singleton] at hj; subst hj; exact hk) (fun e he => ?_) (fun e he => ?_) rfl rfl) ?_
  · simp only [bldB, List.mem_singleton] at he
    subst he
    refine ⟨Nat.zero_lt_one, ?_, ?_⟩
    · simp only [PObj.lt, PV.ltL, haa.2, rowS_lt 1 1 0 s Nat.zero_lt_one, ltL_low (Nat.zero_le 1) (Nat.zero_le 1) rest hrest, Bool.and_self, List.length_singleton]
    · show lkp st.heap i = _
      rw [ho, PObj.rm, PV.rmL, PV.rmL, haa.1, rowS_rm, rmL_frz rest hrest]
      rfl
  · unfold tokS at he
    split at he
    · cases he
    · rename_i h0
      rw [List.mem_singleton] at he
      subst he
      exact ⟨Nat.zero_lt_one, ht h0⟩
  · rintro r st' ⟨r0, s0, ⟨rfl, rfl⟩, rfl, rfl⟩
    refine ⟨rfl, ?_⟩
    simp only [bldB, rmH, rmK, PObj.rm, PV.rmL, rowS_rm, haa.1, rmL_frz rest hrest, List.length_singleton, List.cons_append, List.nil_append]
    have : 1 - 1 + st.nx = st.nx := by omega
    have h2 : 1 - 1 + st.nt = st.nt := by omega
    rw [this, h2]
    rfl
set_option maxHeartbeats 4000000 in
theorem writeS_ok {T : TypeId} {rest : List PV} (hT : Heads T (rest.length + 2)) (hrest : PV.ltL 0 0 rest = true) (s t : ByteArray) (hl : s.size + t.size ≤ 1000000) (a : PV) (ha : a = vNP ∨ a = .ptr 0 0) :
    OkI Tryd.prog 39 [.ptr 0 0, vS t] ⟨[], bldB T 0 a s rest, tokS 0 5 s, 1, 1⟩ (bldQ T (s ++ t) rest (.tup [vI t.size, .val .nilIface])) := by
  refine OkI.of_pwp (by kernel_rfl) Tryd.func39 rfl (by kernel_rfl) (by kernel_rfl) ?_
  have hst : (s ++ t).size = s.size + t.size := by simp
  have hlt : ∀ (a b : Nat), PV.ltL a b rest = true := fun a b => ltL_low (Nat.zero_le a) (Nat.zero_le b) rest hrest
  by_cases ht : t.size = 0
  · have et : s ++ t = s := by
      have : t = ByteArray.empty := by
        cases t with
        | mk d => congr 1; exact Array.size_eq_zero_iff.1 ht
      rw [this]
      simp
    by_cases hs : s.size = 0
    · simp only [bldB, rowS, tokS, hs, if_true]
      simp (implicitDefEqProofs := false) (disch := omega) only [go_sem, simprocAttr, go_sem, Nat.le_refl, Tryd.results39, app_s0, sliceLike, Delta.val]
      refine CallOk.ofI (copy_ok hT _ _ _ _ [] ha) rfl rfl rfl rfl ?_
      rintro r st1 ⟨rfl, rfl⟩
      simp (implicitDefEqProofs := false) (disch := omega) only [go_sem, simprocAttr, go_sem, Nat.le_refl, Tryd.results39, app_s0, sliceLike, Delta.val]
      rw [et]
      refine ⟨⟨[], bldB T 0 (.ptr 0 0) s rest, tokS 0 5 s, 1, 1⟩, ⟨rfl, 0, by simp only; omega, by simp only; omega, rfl, rfl, rfl⟩, ?_⟩
      simp only [bldB, rowS, tokS, hs, if_true]
      refine ⟨?_, ?_, ?_, ?_, ?_, ?_, ?_⟩ <;> simp only [go_sem, simprocAttr, decide_eq_true_eq, ite_self, hlt] <;> try first | omega | ((repeat' (first | exact And.intro rfl (by omega) | (refine And.intro ?_ ?_))) <;> first | rfl | omega | (congr 3; omega) | (congr 2; omega))
    · simp only [bldB, rowS, tokS, hs, if_false]
      simp (implicitDefEqProofs := false) (disch := omega) only [go_sem, simprocAttr, go_sem, Nat.le_refl, Tryd.results39, app_s0, sliceLike, Delta.val]
      refine CallOk.ofI (copy_ok hT _ _ _ _ _ ha) rfl rfl rfl rfl ?_
      rintro r st1 ⟨rfl, rfl⟩
      simp (implicitDefEqProofs := false) (disch := omega) only [go_sem, simprocAttr, go_sem, Nat.le_refl, Tryd.results39, app_s0, sliceLike, Delta.val]
      rw [et]
      refine ⟨⟨[], bldB T 0 (.ptr 0 0) s rest, tokS 0 5 s, 1, 1⟩, ⟨rfl, 0, by simp only; omega, by simp only; omega, rfl, rfl, rfl⟩, ?_⟩
      simp only [bldB, rowS, tokS, hs, if_false]
      refine ⟨?_, ?_, ?_, ?_, ?_, ?_, ?_⟩ <;> simp only [go_sem, simprocAttr, decide_eq_true_eq, ite_self, hlt] <;> try first | omega | ((repeat' (first | exact And.intro rfl (by omega) | (refine And.intro ?_ ?_))) <;> first | rfl | omega | (congr 3; omega) | (congr 2; omega))
  have hne : ¬ (s ++ t).size = 0 := by omega
  by_cases hs : s.size = 0
  · have es : s ++ t = t := by
      have : s = ByteArray.empty := by
        cases s with
        | mk d => congr 1; exact Array.size_eq_zero_iff.1 hs
      rw [this]
      simp
    simp only [bldB, rowS, tokS, hs, if_true]
    simp (implicitDefEqProofs := false) (disch := omega) only [go_sem, simprocAttr, go_sem, Nat.le_refl, Tryd.results39, app_s0, sliceLike, Delta.val]
    refine CallOk.ofI (copy_ok hT _ _ _ _ [] ha) rfl rfl rfl rfl ?_
    rintro r st1 ⟨rfl, rfl⟩
    simp (implicitDefEqProofs := false) (disch := omega) only [go_sem, simprocAttr, go_sem, Nat.le_refl, Tryd.results39, app_s0, sliceLike, Delta.val]
    rw [es]
    refine ⟨⟨[], bldB T (1 + 2 + 1 + 2 + 6) (.ptr 0 0) t rest, tokS (1 + 2 + 1 + 2 + 6) 5 t, 1, 1 + 2 + 1 + 2 + 10⟩, ⟨rfl, 1 + 2 + 1 + 2 + 6, by simp only; omega, by simp only; omega, rfl, rfl, rfl⟩, ?_⟩
    simp only [bldB, rowS, tokS, ht, if_false]
    refine ⟨?_, ?_, ?_, ?_, ?_, ?_, ?_⟩ <;> simp only [go_sem, simprocAttr, decide_eq_true_eq, ite_self, hlt] <;> try first | omega | ((repeat' (first | exact And.intro rfl (by omega) | (refine And.intro ?_ ?_))) <;> first | rfl | omega | (congr 3; omega) | (congr 2; omega))
  · simp only [bldB, rowS, tokS, hs, if_false]
    simp (implicitDefEqProofs := false) (disch := omega) only [go_sem, simprocAttr, go_sem, Nat.le_refl, Tryd.results39, app_s0, sliceLike, Delta.val]
    refine CallOk.ofI (copy_ok hT _ _ _ _ _ ha) rfl rfl rfl rfl ?_
    rintro r st1 ⟨rfl, rfl⟩
    simp (implicitDefEqProofs := false) (disch := omega) only [go_sem, simprocAttr, go_sem, Nat.le_refl, Tryd.results39, app_s0, sliceLike, Delta.val]
    refine ⟨⟨[], bldB T 0 (.ptr 0 0) (s ++ t) rest, tokS 0 5 (s ++ t), 1, 1⟩, ⟨rfl, 0, by simp only; omega, by simp only; omega, rfl, rfl, rfl⟩, ?_⟩
    simp only [bldB, rowS, tokS, hne, if_false]
    simp only [hst]
    refine ⟨?_, ?_, ?_, ?_, ?_, ?_, ?_⟩ <;> simp only [go_sem, simprocAttr, decide_eq_true_eq, ite_self, hlt] <;> try first | omega | ((repeat' (first | exact And.intro rfl (by omega) | (refine And.intro ?_ ?_))) <;> first | rfl | omega | (congr 3; omega) | (congr 2; omega))
end Go.Proofs.YtmfaejdnaippkaaDoor

end
section
/-
  strings.Builder: WriteByte by contract; WriteByte and WriteString taken at any state.
-/
open Go Go.Proofs Go.Pw Go.RowKit
namespace Go.Proofs.YtmfaejdnaippkaaDoor
set_option maxRecDepth 4000
set_option linter.unusedVariables false
set_option linter.unusedSimpArgs false
/-- A byte ags a text. -/
def bC (c : Int) : ByteArray := ⟨#[UInt8.ofNat c.toNat]⟩
theorem bC_size (c : Int) : (bC c).size = 1 := rfl
theorem encS_bC {c : Int} (h0 : 0 ≤ c) (h1 : c ≤ 255) : encS (bC c) = [[.val (.int .u8 c)]] := by
  unfold encS bC
  simp only [List.map_cons, List.map_nil]
  have : ((UInt8.ofNat c.toNat).toNat : Int) = c := by
    rw [UInt8.toNat_ofNat']
    omega
  rw [this]
theorem encS_push {c : Int} (h0 : 0 ≤ c) (h1 : c ≤ 255) (s : ByteArray) : encS s ++ [[.val (.int .u8 c)]] = encS (s ++ bC c) := by
  rw [← encS_bC h0 h1, encS_app]
set_option maxHeartbeats 4000000 in
theorem writeB_ok {T : TypeId} {rest : List PV} (hT : Heads T (rest.length + 2)) (hrest : PV.ltL 0 0 rest = true) (s : ByteArray) (c : Int) (h0 : 0 ≤ c) (h1 : c ≤ 255) (hl : s.size ≤ 1000000) (a : PV) (ha : a = vNP ∨ a = .ptr 0 0) :
    OkI Tryd.prog 37 [.ptr 0 0, vC c] ⟨[], bldB T 0 a s rest, tokS 0 5 s, 1, 1⟩ (bldQ T (s ++ bC c) rest (.val .nilIface)) := by
  refine OkI.of_pwp (by kernel_rfl) Tryd.func37 rfl (by kernel_rfl) (by kernel_rfl) ?_
  have hst : (s ++ bC c).size = s.size + 1 := by rw [ByteArray.size_append, bC_size]
  have hlt : ∀ (a b : Nat), PV.ltL a b rest = true := fun a b => ltL_low (Nat.zero_le a) (Nat.zero_le b) rest hrest
  have hne : ¬ (s ++ bC c).size = 0 := by omega
  by_cases hs : s.size = 0
  · have es : s ++ bC c = bC c := by
      have : s = ByteArray.empty := by
        cases s with
        | mk d => congr 1; exact Array.size_eq_zero_iff.1 hs
      rw [this]
      simp
    have hb := encS_bC h0 h1
    simp only [bldB, rowS, tokS, hs, if_true]
    simp (implicitDefEqProofs := false) (disch := omega) only [go_sem, simprocAttr, go_sem, Nat.le_refl, Tryd.results37, Delta.val]
    refine CallOk.ofI (copy_ok hT _ _ _ _ [] ha) rfl rfl rfl rfl ?_
    rintro r st1 ⟨rfl, rfl⟩
    simp (implicitDefEqProofs := false) (disch := omega) only [go_sem, simprocAttr, go_sem, Nat.le_refl, Tryd.results37, Delta.val]
    rw [es]
    refine ⟨⟨[], bldB T 12 (.ptr 0 0) (bC c) rest, tokS 12 5 (bC c), 1, 13⟩, ⟨rfl, 12, by simp only; omega, by simp only; omega, rfl, rfl, rfl⟩, ?_⟩
    simp only [bldB, rowS, tokS, bC_size, hb]
    refine ⟨?_, ?_, ?_, ?_, ?_, ?_, ?_⟩ <;> simp only [go_sem, simprocAttr, decide_eq_true_eq, ite_self, hlt, Nat.one_ne_zero] <;> try first | omega | ((repeat' (first | exact And.intro rfl (by omega) | (refine And.intro ?_ ?_))) <;> first | rfl | omega | (congr 3; omega) | (congr 2; omega))
  · simp only [bldB, rowS, tokS, hs, if_false]
    simp (implicitDefEqProofs := false) (disch := omega) only [go_sem, simprocAttr, go_sem, Nat.le_refl, Tryd.results37, Delta.val]
    refine CallOk.ofI (copy_ok hT _ _ _ _ _ ha) rfl rfl rfl rfl ?_
    rintro r st1 ⟨rfl, rfl⟩
    simp (implicitDefEqProofs := false) (disch := omega) only [go_sem, simprocAttr, go_sem, Nat.le_refl, Tryd.results37, Delta.val]
    rw [encS_len, encS_push h0 h1]
    refine ⟨rfl, by omega, by omega, ⟨[], bldB T 0 (.ptr 0 0) (s ++ bC c) rest, tokS 0 5 (s ++ bC c), 1, 1⟩, ⟨rfl, 0, by simp only; omega, by simp only; omega, rfl, rfl, rfl⟩, ?_⟩
    simp only [bldB, rowS, tokS, hne, if_false]
    simp only [hst]
    refine ⟨?_, ?_, ?_, ?_, ?_, ?_, ?_⟩ <;> simp only [go_sem, simprocAttr, decide_eq_true_eq, ite_self, hlt] <;> try first | omega | ((repeat' (first | exact And.intro rfl (by omega) | (refine And.intro ?_ ?_))) <;> first | rfl | omega | (congr 3; omega) | (congr 2; omega))
/-- What a builder's function leaves, at any state. -/
def bldP (T : TypeId) (i k : Nat) (st : PS) (s' : ByteArray) (rest : List PV) (R : PV) (r : PV) (st' : PS) : Prop := r = R ∧ ∃ k' nt', k' < nt' ∧ st.nt ≤ nt' ∧ st' = ⟨st.env, (i, .box T (.ptr i 0 :: rowS k' s' :: rest)) :: dropH [i] st.heap, tokS k' 5 s' ++ dropK [k] st.toks, st.nx, nt'⟩
theorem writeB_at {T : TypeId} {rest : List PV} (hT : Heads T (rest.length + 2)) (hrest : PV.ltL 0 0 rest = true) {s : ByteArray} {c : Int} {a' : PV} (i k : Nat) {st : PS} (h0 : 0 ≤ c) (h1 : c ≤ 255) (hl : s.size ≤ 1000000) (hi : i < st.nx) (hk : k < st.nt) (ha : a' = vNP ∨ a' = .ptr i 0)
    (ho : lkp st.heap i = some (.box T (a' :: rowS k s :: rest))) (ht : s.size ≠ 0 → lkp st.toks k = some ⟨5, 1, s.size⟩) : OkI Tryd.prog 37 [.ptr i 0, vC c] st (bldP T i k st (s ++ bC c) rest (.val .nilIface)) :=
  bld_at i k (writeB_ok hT hrest s c h0 h1 hl) hi hk ha hrest rfl rfl ho ht
theorem writeS_at {T : TypeId} {rest : List PV} (hT : Heads T (rest.length + 2)) (hrest : PV.ltL 0 0 rest = true) {s t : ByteArray} {a' : PV} (i k : Nat) {st : PS} (hl : s.size + t.size ≤ 1000000) (hi : i < st.nx) (hk : k < st.nt) (ha : a' = vNP ∨ a' = .ptr i 0)
    (ho : lkp st.heap i = some (.box T (a' :: rowS k s :: rest))) (ht : s.size ≠ 0 → lkp st.toks k = some ⟨5, 1, s.size⟩) : OkI Tryd.prog 39 [.ptr i 0, vS t] st (bldP T i k st (s ++ t) rest (.tup [vI t.size, .val .nilIface])) :=
  bld_at i k (writeS_ok hT hrest s t hl) hi hk ha hrest rfl rfl ho ht

end Go.Proofs.YtmfaejdnaippkaaDoor

end
