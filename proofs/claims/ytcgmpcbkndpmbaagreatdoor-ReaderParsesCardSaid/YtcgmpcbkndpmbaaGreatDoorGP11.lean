import Derived.Test.YtcgmpcbkndpmbaaGreatDoorGP10
import Derived.Test.YtcgmpcbkndpmbaaGreatDoorGP7
/-
 The document's lexer: a text in quotation marks.
-/
open Go Go.Proofs Go.Pw Go.RowKit
namespace Go.Proofs.YtcgmpcbkndpmbaaGreatDoor
set_option maxRecDepth 4000
set_option linter.unusedVariables false
set_option linter.unusedSimpArgs false
attribute [local go_sem] Nat.le_refl Tryz.results35 encI_len
theorem enc_bytes (n : Int) (h : isF n = true) : Utf8.encode n = strOfNums (bytesF n) := by
 have hv : Utf8.valid n = true := by
  unfold isF at h
  simp only [decide_eq_true_eq] at h
  unfold Utf8.valid
  simp only [Bool.or_eq_true, Bool.and_eq_true, decide_eq_true_eq]
  omega
 unfold isF at h
 simp only [decide_eq_true_eq] at h
 have hb : ∀ (a : Nat) (b : Int), (a : Int) = b -> UInt8.ofNat a = UInt8.ofNat b.toNat := fun a b e => by rw [<- e]; rfl
 unfold Utf8.encode bytesF strOfNums
 simp only [hv, if_true]
 by_cases c1 : n < 128
 ·rw [if_pos (by omega), if_pos c1]
  simp only [List.map_cons, List.map_nil]
 ·rw [if_neg (by omega), if_neg c1]
  by_cases c2 : n < 2048
  ·rw [if_pos (by omega), if_pos c2]
   simp only [List.map_cons, List.map_nil]
   rw [hb (0xC0 + n.toNat / 64) (192 + n / 64) (by omega), hb (0x80 + n.toNat % 64) (128 + n % 64) (by omega)]
  ·rw [if_neg (by omega), if_neg c2]
   by_cases c3 : n < 65536
   ·rw [if_pos (by omega), if_pos c3]
    simp only [List.map_cons, List.map_nil]
    rw [hb (0xE0 + n.toNat / 4096) (224 + n / 4096) (by omega), hb (0x80 + n.toNat / 64 % 64) (128 + n / 64 % 64) (by omega), hb (0x80 + n.toNat % 64) (128 + n % 64) (by omega)]
   ·rw [if_neg (by omega), if_neg c3]
    simp only [List.map_cons, List.map_nil]
    rw [hb (0xF0 + n.toNat / 262144) (240 + n / 262144) (by omega), hb (0x80 + n.toNat / 4096 % 64) (128 + n / 4096 % 64) (by omega), hb (0x80 + n.toNat / 64 % 64) (128 + n / 64 % 64) (by omega), hb (0x80 + n.toNat % 64) (128 + n % 64) (by omega)]
theorem encF_isF {n : Int} (h : isF n = true) : encF n = strOfNums (bytesF n) := by unfold encF; rw [if_pos h, enc_bytes n h]
theorem textN_snoc (l : List Int) (n : Int) : textN (l ++ [n]) = textN l ++ bytesF n := by unfold textN; simp
theorem enc_snoc {n : Int} (l : List Int) (h : isF n = true) : strOfNums (textN l) ++ encF n = strOfNums (textN (l ++ [n])) := by rw [encF_isF h, strOf_app, textN_snoc]
theorem dec_isF {s : ByteArray} {i : Nat} (h : i < s.size) (hb : Utf8.decode s i ≠ (65533, 1)) : isF ((Utf8.decode s i).1 : Int) = true := by
 rw [Lib.decode_at] at hb ⊢
 simp only [get!_byteN] at hb ⊢
 exact (decN_bytes _ _ _ _ _ (byteN_lt s i) (byteN_lt s (i + 1)) (byteN_lt s (i + 2)) (byteN_lt s (i + 3)) hb).1
theorem goodN_isF {s : ByteArray} {i : Nat} (h : i < s.size) (h2 : (goodN (Utf8.decode s i)).2 ≠ 0) : isF (goodN (Utf8.decode s i)).1 = true := by
 unfold goodN at h2 ⊢
 split
 ·rename_i e; rw [if_pos e] at h2; exact absurd rfl h2
 ·rename_i e; exact dec_isF h e
theorem ptS_isF : ∀ b : Fin 256, 0 <= Lib.indexByte ltS.data.toList b.1.toUInt8 -> isF (bt ptS (Lib.indexByte ltS.data.toList b.1.toUInt8)) = true := by decide +kernel
theorem pair_isF {n m : Int} (h : 0 <= pairF n m) : isF (pairF n m) = true := by
 unfold pairF at h ⊢
 split
 ·rename_i hc; unfold isF; simp only [decide_eq_true_eq]; omega
 ·rename_i hc; rw [if_neg hc] at h; omega
theorem escP_isF {s : ByteArray} {i : Nat} (h : (escP s i).2.1 = 0) : isF (escP s i).1 = true := by
 unfold escP at h ⊢
 split
 ·rename_i hh
  have hb := bt_range s (i + 1 : Nat)
  have := ptS_isF ⟨(bt s (i + 1 : Nat)).toNat, by omega⟩ (hasF_ix hh)
  exact this
 ·rename_i hh
  rw [if_neg hh] at h
  split
  ·rename_i h1
   rw [if_pos h1] at h
   split
   ·rename_i h2
    rw [if_pos h2] at h
    unfold esc2 at h ⊢
    split
    ·assumption
    ·rename_i h3
     rw [if_neg h3] at h
     split
     ·rename_i h4; exact pair_isF h4.2.2.2
     ·rename_i h4; rw [if_neg h4] at h; exact absurd h (show ¬ (3 : Int) = 0 by decide)
   ·rename_i h2; rw [if_neg h2] at h; exact absurd h (show ¬ (1 : Int) = 0 by decide)
  ·rename_i h1; rw [if_neg h1] at h; exact absurd h (show ¬ (1 : Int) = 0 by decide)
def ptsF (s : ByteArray) : Nat -> Nat -> List Int -> Int × List Int × Nat
 | 0, i, out => (1, out, i)
 | f + 1, i, out =>
  if hasF s qtS i = true then (0, out, i + 1) else
  if i = s.size ∨ bt s i < 32 then (1, out, i) else
  if hasF s bsS i = true then (if (escP s i).2.1 = 0 then ptsF s f (escP s i).2.2 (out ++ [(escP s i).1]) else ((escP s i).2.1, out, (escP s i).2.2)) else
  if (goodN (Utf8.decode s i)).2 = 0 then (2, out, i) else ptsF s f (i + (goodN (Utf8.decode s i)).2.toNat) (out ++ [(goodN (Utf8.decode s i)).1])
theorem ptsF_txt (s : ByteArray) : ∀ f i out, i <= s.size -> out.all isF = true -> txtF s f i (strOfNums (textN out)) = ((ptsF s f i out).1, strOfNums (textN (ptsF s f i out).2.1), (ptsF s f i out).2.2) /\ (ptsF s f i out).2.1.all isF = true
 | 0, i, out, hi, h => ⟨rfl, h⟩
 | f + 1, i, out, hi, h => by
  rw [txtF, ptsF]
  by_cases h1 : hasF s qtS i = true
  ·rw [if_pos h1, if_pos h1]; exact ⟨rfl, h⟩
  rw [if_neg h1, if_neg h1]
  by_cases h2 : i = s.size ∨ bt s i < 32
  ·rw [if_pos h2, if_pos h2]; exact ⟨rfl, h⟩
  rw [if_neg h2, if_neg h2]
  have hlt : i < s.size := by omega
  by_cases h3 : hasF s bsS i = true
  ·rw [if_pos h3, if_pos h3]
   by_cases h4 : (escP s i).2.1 = 0
   ·rw [if_pos h4, if_pos h4, enc_snoc out (escP_isF h4)]
    exact ptsF_txt s f _ _ (escP_range s i hlt).2.1 (by rw [List.all_append, h]; simp [escP_isF h4])
   ·rw [if_neg h4, if_neg h4]; exact ⟨rfl, h⟩
  rw [if_neg h3, if_neg h3, decF_tail hlt]
  by_cases h5 : (goodN (Utf8.decode s i)).2 = 0
  ·rw [if_pos h5, if_pos h5]; exact ⟨rfl, h⟩
  rw [if_neg h5, if_neg h5, enc_snoc out (goodN_isF hlt h5)]
  have hw : i + (goodN (Utf8.decode s i)).2.toNat <= s.size := by
   unfold goodN
   split
   ·simp only; omega
   ·have := dec_pos s i hlt
    simp only [Int.toNat_natCast]
    exact this.2
  exact ptsF_txt s f _ _ hw (by rw [List.all_append, h]; simp [goodN_isF hlt h5])
def ptsT (s : ByteArray) (i : Nat) : Int × List Int × Nat := ptsF s (s.size - i) (i + 1) []
theorem ptsT_txt (s : ByteArray) (i : Nat) (hi : i < s.size) : txtT s i = ((ptsT s i).1, strOfNums (textN (ptsT s i).2.1), (ptsT s i).2.2) /\ (ptsT s i).2.1.all isF = true := ptsF_txt s (s.size - i) (i + 1) [] (by omega) rfl
theorem isT_pts' {l : List Int} (h : l.all isF = true) : isT (strOfNums (textN l)) = true := by
 unfold isT
 rw [scan_text l h]
 simp
theorem txtT_isT {s : ByteArray} {i : Nat} (hi : i < s.size) : isT (txtT s i).2.1 = true := by
 obtain ⟨h1, h2⟩ := ptsT_txt s i hi
 rw [h1]
 exact isT_pts' h2
def rtxR (R : Int × List Int × Nat) : PV := .tup [.sl (encI (if R.1 = 0 then R.2.1 else [])), vI R.2.2, vI R.1]
theorem firstG (s : ByteArray) (i : Nat) (h : i < s.size) : firstF s i 4 1 = goodN (Utf8.decode s i) := first_decode s i h
set_option maxHeartbeats 16000000 in
theorem rtext_ok5 (s : ByteArray) (i : Nat) (hi : i < s.size) (hs : s.size <= 100000) : Ok Tryz.prog 35 [vS s, vI i] (rtxR (ptsT s i)) := by
 refine Ok.of_pwp (by kernel_rfl) Tryz.func35 rfl (by kernel_rfl) (by kernel_rfl) ?_
 generalize hF : ptsT s i = F
 unfold ptsT at hF
 simp (implicitDefEqProofs := false) (disch := omega) only [go_sem, simprocAttr]
 refine p_loop (ι := { p : Nat × List Int × Nat // i < p.1 /\ p.1 <= s.size /\ p.2.1.length <= p.1 /\ ∃ f, s.size < p.1 + f /\ ptsF s f p.1 p.2.1 = F }) (fun p => ⟨[(7, rowI p.1.2.2 p.1.2.1), (1, vI p.1.1), (0, vS s)], [], tokI p.1.2.2 3 p.1.2.1, 0, p.1.2.2 + 1⟩) (fun p => s.size + 1 - p.1.1) ⟨(i + 1, [], 0), by simp only; omega, by simp only; omega, by simp, ⟨s.size - i, by simp only; omega, hF⟩⟩ ?_ ?_
 ·simp only [rowI, tokI]
  constructor <;> simp only [go_sem, simprocAttr, decide_eq_true_eq, Int.natCast_add, Int.natCast_one] <;> try ((repeat' apply And.intro) <;> first | rfl | omega | (congr 3; omega) | (congr 2; omega))
 ·rintro ⟨⟨j, out, k⟩, h1, h2, h3, f, hf, h5⟩
  simp only at h1 h2 h3 hf h5 ⊢
  obtain ⟨f, rfl⟩ : ∃ g, f = g + 1 := ⟨f - 1, by omega⟩
  rw [ptsF] at h5
  by_cases hj : j = s.size
  ·subst hj
   rw [if_neg (fun h => by have := hasF_lt h; omega), if_pos (.inl rfl)] at h5
   subst h5
   cases out <;> simp only [rowI, tokI] <;> (simp (implicitDefEqProofs := false) (disch := omega) only [go_sem, simprocAttr]) <;> rfl
  ·have hlt : j < s.size := by omega
   have hq : hasF s qtS j = decide (bt s j = 34) := by
    rw [<- isB_hasF s 34 j]; unfold isB; rw [decide_eq_true hlt, Bool.true_and]; rfl
   by_cases hb : bt s j < 32
   ·rw [if_neg (by rw [hq, decide_eq_false (by omega)]; decide), if_pos (.inr hb)] at h5
    subst h5
    cases out <;> simp only [rowI, tokI] <;> (simp (implicitDefEqProofs := false) (disch := omega) only [go_sem, simprocAttr, decide_eq_true hb]) <;> rfl
   by_cases hb2 : bt s j = 34
   ·rw [if_pos (by rw [hq]; exact decide_eq_true hb2)] at h5
    subst h5
    cases out <;> simp only [rowI, tokI] <;> (simp (implicitDefEqProofs := false) (disch := omega) only [go_sem, simprocAttr, decide_eq_false hb, decide_eq_true hb2]) <;> rfl
   rw [if_neg (by rw [hq, decide_eq_false hb2]; decide), if_neg (by omega)] at h5
   have hbs : hasF s bsS j = decide (bt s j = 92) := by
    rw [<- isB_hasF s 92 j]; unfold isB; rw [decide_eq_true hlt, Bool.true_and]; rfl
   by_cases hb3 : bt s j = 92
   ·rw [if_pos (by rw [hbs]; exact decide_eq_true hb3)] at h5
    have ce := rescape_ok s j hlt (by omega)
    have hr := escP_range s j hlt
    by_cases he : (escP s j).2.1 = 0
    ·rw [if_pos he] at h5
     have hr2 := hr.2.2 he
     generalize escP s j = E at *
     obtain ⟨e1, e2, e3⟩ := E
     simp only at he hr hr2 h5 ce
     subst he
     cases out with
     | nil =>
      simp only [rowI, tokI]
      simp (implicitDefEqProofs := false) (disch := omega) only [go_sem, simprocAttr, decide_eq_false hb, decide_eq_false hb2, decide_eq_true hb3]
      with_reducible refine CallOk.of ce rfl ?_
      simp (implicitDefEqProofs := false) (disch := omega) only [go_sem, simprocAttr]
      refine ⟨⟨(e3, [e1], k + 1 + 10 + 4 + 4 + 10 + 2 + 3), by simp only; omega, hr.2.1, by simp only [List.length_singleton]; omega, ⟨f, by simp only; omega, by simpa using h5⟩⟩, by simp only; omega, ?_⟩
      simp only [rowI, tokI, <- encI_one]
      constructor <;> simp only [go_sem, simprocAttr, decide_eq_true_eq, Int.natCast_add, List.length_singleton, ite_self] <;> try ((repeat' apply And.intro) <;> first | rfl | omega | (congr 3; omega) | (congr 2; omega))
     | cons x q =>
      simp only [List.length_cons] at h3
      have hql : q.length <= 1000000 := by omega
      simp only [rowI, tokI]
      simp (implicitDefEqProofs := false) (disch := omega) only [go_sem, simprocAttr, decide_eq_false hb, decide_eq_false hb2, decide_eq_true hb3]
      with_reducible refine CallOk.of ce rfl ?_
      simp (implicitDefEqProofs := false) (disch := omega) only [go_sem, simprocAttr]
      refine ⟨⟨(e3, x :: (q ++ [e1]), k), by simp only; omega, hr.2.1, by simp only [List.length_cons, List.length_append, List.length_nil]; omega, ⟨f, by simp only; omega, by simpa using h5⟩⟩, by simp only; omega, ?_⟩
      simp only [rowI, tokI]
      constructor <;> simp only [go_sem, simprocAttr, decide_eq_true_eq, Int.natCast_add, encI_snoc, List.cons_append, List.length_cons, List.length_append, List.length_singleton] <;> try ((repeat' apply And.intro) <;> first | rfl | omega | (congr 3; omega) | (congr 2; omega))
    ·rw [if_neg he] at h5
     subst h5
     unfold rtxR
     rw [if_neg he]
     cases out <;> simp only [rowI, tokI] <;> (simp (implicitDefEqProofs := false) (disch := omega) only [go_sem, simprocAttr, decide_eq_false hb, decide_eq_false hb2, decide_eq_true hb3]) <;> (with_reducible refine CallOk.of ce rfl ?_) <;> (simp (implicitDefEqProofs := false) (disch := omega) only [go_sem, simprocAttr, decide_eq_false he]) <;> rfl
   ·rw [if_neg (by rw [hbs, decide_eq_false hb3]; decide)] at h5
    have cf := first_ok s j (by omega) (by omega) (by omega)
    rw [firstG s j hlt] at cf
    have hw : (goodN (Utf8.decode s j)).2 ≠ 0 -> 1 <= (goodN (Utf8.decode s j)).2 /\ j + (goodN (Utf8.decode s j)).2 <= s.size := fun h => by
     unfold goodN at h ⊢
     split
     ·rename_i e; rw [if_pos e] at h; exact absurd rfl h
     ·have := dec_pos s j hlt
      simp only
      omega
    generalize goodN (Utf8.decode s j) = E at *
    obtain ⟨e1, e2⟩ := E
    simp only at hw h5 cf
    by_cases he : e2 = 0
    ·rw [if_pos he] at h5
     subst h5
     subst he
     cases out <;> simp only [rowI, tokI] <;> (simp (implicitDefEqProofs := false) (disch := omega) only [go_sem, simprocAttr, decide_eq_false hb, decide_eq_false hb2, decide_eq_false hb3]) <;> (with_reducible refine CallOk.of cf rfl ?_) <;> (simp (implicitDefEqProofs := false) (disch := omega) only [go_sem, simprocAttr]) <;> rfl
    ·rw [if_neg he] at h5
     obtain ⟨w1, w2⟩ := hw he
     obtain ⟨w, rfl⟩ : ∃ w : Nat, e2 = w := ⟨e2.toNat, by omega⟩
     rw [Int.toNat_natCast] at h5
     cases out with
     | nil =>
      simp only [rowI, tokI]
      simp (implicitDefEqProofs := false) (disch := omega) only [go_sem, simprocAttr, decide_eq_false hb, decide_eq_false hb2, decide_eq_false hb3]
      with_reducible refine CallOk.of cf rfl ?_
      simp (implicitDefEqProofs := false) (disch := omega) only [go_sem, simprocAttr, decide_eq_false he]
      refine ⟨⟨(j + w, [e1], k + 1 + 10 + 4 + 4 + 8 + 2 + 3), by simp only; omega, by simp only; omega, by simp only [List.length_singleton]; omega, ⟨f, by simp only; omega, by simpa using h5⟩⟩, by simp only; omega, ?_⟩
      simp only [rowI, tokI, <- encI_one]
      constructor <;> simp only [go_sem, simprocAttr, decide_eq_true_eq, Int.natCast_add, List.length_singleton, ite_self] <;> try ((repeat' apply And.intro) <;> first | rfl | omega | (congr 3; omega) | (congr 2; omega))
     | cons x q =>
      simp only [List.length_cons] at h3
      have hql : q.length <= 1000000 := by omega
      simp only [rowI, tokI]
      simp (implicitDefEqProofs := false) (disch := omega) only [go_sem, simprocAttr, decide_eq_false hb, decide_eq_false hb2, decide_eq_false hb3]
      with_reducible refine CallOk.of cf rfl ?_
      simp (implicitDefEqProofs := false) (disch := omega) only [go_sem, simprocAttr, decide_eq_false he]
      refine ⟨⟨(j + w, x :: (q ++ [e1]), k), by simp only; omega, by simp only; omega, by simp only [List.length_cons, List.length_append, List.length_nil]; omega, ⟨f, by simp only; omega, by simpa using h5⟩⟩, by simp only; omega, ?_⟩
      simp only [rowI, tokI]
      constructor <;> simp only [go_sem, simprocAttr, decide_eq_true_eq, Int.natCast_add, encI_snoc, List.cons_append, List.length_cons, List.length_append, List.length_singleton] <;> try ((repeat' apply And.intro) <;> first | rfl | omega | (congr 3; omega) | (congr 2; omega))
end Go.Proofs.YtcgmpcbkndpmbaaGreatDoor
