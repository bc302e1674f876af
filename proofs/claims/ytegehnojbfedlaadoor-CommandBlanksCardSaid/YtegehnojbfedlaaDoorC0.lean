/-
  Chapter 25: blanks; strings.TrimLeft and strings.IndexAny at them.
-/
import Derived.Test.YtegehnojbfedlaaDoorWR
import Derived.Shelf.Strings.SlTrimAscii
import Derived.Shelf.Strings.IndexAnyAll
import Derived.Lib.TrimUEq
open Go Go.Proofs Go.Pw Go.RowKit
namespace Go.Proofs.YtegehnojbfedlaaDoor
set_option maxRecDepth 4000
set_option linter.unusedVariables false
set_option linter.unusedSimpArgs false
/-- A blank. -/
def isb (b : UInt8) : Bool := b == 32 || b == 9 || b == 10 || b == 13
abbrev BL : ByteArray := ⟨#[32, 9, 10, 13]⟩
def bA (l : List UInt8) : ByteArray := ⟨l.toArray⟩
theorem sz_bA (l : List UInt8) : (bA l).size = l.length := rfl
theorem tl_bA (l : List UInt8) : (bA l).data.toList = l := rfl
theorem bA_self (s : ByteArray) : bA s.data.toList = s := rfl
theorem ex_bA (l : List UInt8) (a b : Nat) : (bA l).extract a b = bA ((l.drop a).take (b - a)) := by
  apply ByteArray.ext
  apply Array.toList_inj.1
  rw [ext_list]
  rfl
theorem bA_bt {l : List UInt8} {i : Nat} {c : UInt8} (h : l[i]? = some c) : bt (bA l) i = (c.toNat : Int) := bt_list (s := bA l) h
theorem BL_has (b : UInt8) : ([32, 9, 10, 13] : List UInt8).contains b = isb b := by
  unfold isb
  simp [List.contains_cons, Bool.or_assoc]
  rfl
/-- Behind the blanks. -/
def skp (l : List UInt8) : List UInt8 := l.dropWhile isb
def nbr (l : List UInt8) : List UInt8 := l.dropWhile (fun b => !isb b)
def nbt (l : List UInt8) : List UInt8 := l.takeWhile (fun b => !isb b)
theorem BL_ascii (j : Nat) (b : UInt8) (h : ([32, 9, 10, 13] : List UInt8)[j]? = some b) : b.toNat < 128 := Go.Proofs.ascii_of_all (by decide) j b h
theorem trimL_ok (l : List UInt8) : Ok Tryd.prog 31 [vS (bA l), vS BL] (vS (bA (skp l))) :=
  Ok.of_plain (l := [.string (bA l), .string BL]) (by kernel_rfl) fun w hk => (Go.Proofs.Any.strings_TrimLeft_laid Tryd.lays161 (by kernel_rfl) (bA l) BL w (by decide) BL_ascii).mono (by
    rintro e w' ⟨rfl, hb⟩
    have e : Lib.trimLeftS (bA l).data.toList BL.data.toList = skp l := by
      unfold Lib.trimLeftS skp
      show List.dropWhile (fun b => ([32, 9, 10, 13] : List UInt8).contains b) l = _
      congr 1
      funext b
      exact BL_has b
    rw [e]
    exact ⟨_, rfl, fun S => .frz (.val rfl), hb⟩)
/-- The place of the first blank. -/
def ixA (l : List UInt8) : Int := if nbr l = [] then -1 else (nbt l).length
theorem indexAny_bl : ∀ l : List UInt8, Lib.indexAny l [32, 9, 10, 13] = ixA l
  | [] => rfl
  | b :: r => by
    rw [Lib.indexAny, BL_has, indexAny_bl r]
    unfold ixA nbr nbt
    cases hb : isb b with
    | true => simp [hb]
    | false =>
      simp only [List.dropWhile_cons, List.takeWhile_cons, hb, Bool.not_false, if_true, Bool.false_eq_true, if_false, beq_iff_eq, List.length_cons]
      by_cases h : List.dropWhile (fun b => !isb b) r = []
      · simp [h]
      · rw [if_neg h, if_neg h, if_neg (by omega)]; omega
theorem indexByte_ok (s : ByteArray) (c : Int) : Ok Tryd.prog 76 [vS s, .val (.int .u8 c)] (vI (Lib.indexByte s.data.toList c.toNat.toUInt8)) :=
  Ok.of_plain (l := [.string s, .int .u8 c]) (by kernel_rfl) fun w hk => (Tryd.strings_IndexByte s c w).mono (by
    rintro e w' ⟨rfl, rfl⟩
    exact ⟨_, rfl, fun S => .frz (.val rfl), Below.refl _ _⟩)
theorem indexByte_no : ∀ {l : List UInt8} {c : UInt8}, c ∉ l → Lib.indexByte l c = -1
  | [], _, _ => rfl
  | b :: l, c, h => by
    have h1 : ¬ b = c := fun e => h (by simp [e])
    have h2 : c ∉ l := fun e => h (by simp [e])
    rw [Lib.indexByte, indexByte_no h2]
    simp [h1]
theorem toU8_hi {c : Int} (h1 : 128 ≤ c) (h2 : c ≤ 255) : 128 ≤ c.toNat.toUInt8.toNat := by
  rw [Nat.toUInt8, UInt8.toNat_ofNat']
  omega
def okR (r : Int) : Prop := r = 65533 ∨ (0 ≤ r ∧ r < 55296) ∨ (57343 < r ∧ r ≤ 1114111)
theorem dec_wide {s : ByteArray} {i : Nat} (h : i < s.size) (hb : 128 ≤ bt s i) :
    128 ≤ (Utf8.decode s i).1 ∧ okR (Utf8.decode s i).1 ∧ 1 ≤ (Utf8.decode s i).2 ∧ i + (Utf8.decode s i).2 ≤ s.size ∧ ∀ k : Nat, k < (Utf8.decode s i).2 → 128 ≤ bt s (i + k : Nat) := by
  have e0 : bt s i = ((s.data.toList.getD i 0).toNat : Int) := rfl
  have e1 : bt s (i + 1 : Nat) = ((s.data.toList.getD (i + 1) 0).toNat : Int) := rfl
  have e2 : bt s (i + 2 : Nat) = ((s.data.toList.getD (i + 2) 0).toNat : Int) := rfl
  have e3 : bt s (i + 3 : Nat) = ((s.data.toList.getD (i + 3) 0).toNat : Int) := rfl
  have el : s.data.toList.length = s.size := Array.length_toList
  rw [Lib.decode_N, el]
  rw [e0] at hb
  generalize (s.data.toList.getD i 0).toNat = b0 at *
  generalize (s.data.toList.getD (i + 1) 0).toNat = b1 at *
  generalize (s.data.toList.getD (i + 2) 0).toNat = b2 at *
  generalize (s.data.toList.getD (i + 3) 0).toNat = b3 at *
  have k1 : ∀ k : Nat, k < 1 → 128 ≤ bt s (i + k : Nat) := fun k hk => by
    have : k = 0 := by omega
    subst this; rw [Nat.add_zero, e0]; exact hb
  have bad : 128 ≤ (65533, 1).1 ∧ okR ((65533, 1) : Nat × Nat).1 ∧ 1 ≤ ((65533, 1) : Nat × Nat).2 ∧ i + ((65533, 1) : Nat × Nat).2 ≤ s.size ∧ ∀ k : Nat, k < ((65533, 1) : Nat × Nat).2 → 128 ≤ bt s (i + k : Nat) := ⟨by decide, .inl rfl, by decide, by simp only; omega, k1⟩
  unfold Lib.decodeN
  rw [if_neg (by omega)]
  split
  · rename_i g
    split
    · refine ⟨by simp only; omega, ?_, by simp only; omega, by simp only; omega, fun k hk => ?_⟩
      · unfold okR; simp only; omega
      · match k, hk with
        | 0, _ => exact k1 0 (by decide)
        | 1, _ => rw [e1]; omega
    · exact bad
  split
  · rename_i g
    split
    · refine ⟨by simp only; omega, ?_, by simp only; omega, by simp only; omega, fun k hk => ?_⟩
      · unfold okR; simp only; omega
      · match k, hk with
        | 0, _ => exact k1 0 (by decide)
        | 1, _ => rw [e1]; omega
        | 2, _ => rw [e2]; omega
    · exact bad
  split
  · rename_i g
    split
    · refine ⟨by simp only; omega, ?_, by simp only; omega, by simp only; omega, fun k hk => ?_⟩
      · unfold okR; simp only; omega
      · match k, hk with
        | 0, _ => exact k1 0 (by decide)
        | 1, _ => rw [e1]; omega
        | 2, _ => rw [e2]; omega
        | 3, _ => rw [e3]; omega
    · exact bad
  · exact bad
theorem ofNat_hi {n : Nat} (h1 : 128 ≤ n) (h2 : n < 256) : ((UInt8.ofNat n).toNat : Int) = n := by rw [UInt8.toNat_ofNat']; omega
theorem enc_last {r : Int} (h : 128 ≤ r) (hv : (0 ≤ r ∧ r < 55296) ∨ (57343 < r ∧ r ≤ 1114111)) : ∃ k : Nat, (k = 1 ∨ k = 2 ∨ k = 3) ∧ (Utf8.encode r).size = k + 1 ∧ 128 ≤ bt (Utf8.encode r) k := by
  have hval : Utf8.valid r = true := by
    unfold Utf8.valid
    simp only [Bool.or_eq_true, Bool.and_eq_true, decide_eq_true_eq]
    omega
  obtain ⟨c, hc⟩ : ∃ c : Nat, r = c := ⟨r.toNat, by omega⟩
  subst hc
  unfold Utf8.encode
  rw [if_pos hval, Int.toNat_natCast, if_neg (by omega)]
  split
  · exact ⟨1, .inl rfl, rfl, by show (128 : Int) ≤ ((UInt8.ofNat (0x80 + c % 64)).toNat : Int); rw [ofNat_hi (by omega) (by omega)]; omega⟩
  split
  · exact ⟨2, .inr (.inl rfl), rfl, by show (128 : Int) ≤ ((UInt8.ofNat (0x80 + c % 64)).toNat : Int); rw [ofNat_hi (by omega) (by omega)]; omega⟩
  · exact ⟨3, .inr (.inr rfl), rfl, by show (128 : Int) ≤ ((UInt8.ofNat (0x80 + c % 64)).toNat : Int); rw [ofNat_hi (by omega) (by omega)]; omega⟩
theorem validRune_ok (r : Int) (hv : (0 ≤ r ∧ r < 55296) ∨ (57343 < r ∧ r ≤ 1114111)) : Ok Tryd.prog 77 [.val (.int .i32 r)] (vB true) := by
  refine Ok.of_pwp (by kernel_rfl) Tryd.func77 rfl (by kernel_rfl) (by kernel_rfl) ?_
  by_cases h : r < 55296
  · simp (implicitDefEqProofs := false) (disch := omega) only [go_sem, reduceCtorEq, Nat.reduceEqDiff, Nat.reduceBEq, ↓reduceIte, Nat.reduceGT, Nat.reduceAdd, Int.reduceEq, Int.reduceLT, Int.reduceLE, Int.reduceNeg, Int.reduceAdd, Int.reduceSub, Int.reduceMul, Int.reduceDiv, Int.reduceMod, Nat.reduceLT, Nat.reduceLeDiff, Nat.reduceMul, Nat.reduceSub, Int.reduceToNat, go_sem, Nat.le_refl, Int.toNat_natCast, Int.toNat_zero, Int.toNat_one, str_eq, sz_bA, tl_bA, Tryd.results77]
  · simp (implicitDefEqProofs := false) (disch := omega) only [go_sem, reduceCtorEq, Nat.reduceEqDiff, Nat.reduceBEq, ↓reduceIte, Nat.reduceGT, Nat.reduceAdd, Int.reduceEq, Int.reduceLT, Int.reduceLE, Int.reduceNeg, Int.reduceAdd, Int.reduceSub, Int.reduceMul, Int.reduceDiv, Int.reduceMod, Nat.reduceLT, Nat.reduceLeDiff, Nat.reduceMul, Nat.reduceSub, Int.reduceToNat, go_sem, Nat.le_refl, Int.toNat_natCast, Int.toNat_zero, Int.toNat_one, str_eq, sz_bA, tl_bA, Tryd.results77]
theorem should_ok (n : Nat) : Ok Tryd.prog 61 [vI n] (vB (decide ((8 : Int) < n))) := by
  refine Ok.of_pwp (by kernel_rfl) Tryd.func61 rfl (by kernel_rfl) (by kernel_rfl) ?_
  simp (implicitDefEqProofs := false) (disch := omega) only [go_sem, reduceCtorEq, Nat.reduceEqDiff, Nat.reduceBEq, ↓reduceIte, Nat.reduceGT, Nat.reduceAdd, Int.reduceEq, Int.reduceLT, Int.reduceLE, Int.reduceNeg, Int.reduceAdd, Int.reduceSub, Int.reduceMul, Int.reduceDiv, Int.reduceMod, Nat.reduceLT, Nat.reduceLeDiff, Nat.reduceMul, Nat.reduceSub, Int.reduceToNat, go_sem, Nat.le_refl, Int.toNat_natCast, Int.toNat_zero, Int.toNat_one, str_eq, sz_bA, tl_bA, Tryd.results61]
theorem ixr_lo (r : Int) (h0 : 0 ≤ r) (h1 : r < 128) : Ok Tryd.prog 60 [vS BL, .val (.int .i32 r)] (vI (Lib.indexByte [32, 9, 10, 13] r.toNat.toUInt8)) := by
  have c0 := indexByte_ok BL r
  have ew : IntKind.u8.wrap r = r := by rw [IntKind.wrap_u8]; omega
  refine Ok.of_pwp (by kernel_rfl) Tryd.func60 rfl (by kernel_rfl) (by kernel_rfl) ?_
  simp (implicitDefEqProofs := false) (disch := omega) only [go_sem, reduceCtorEq, Nat.reduceEqDiff, Nat.reduceBEq, ↓reduceIte, Nat.reduceGT, Nat.reduceAdd, Int.reduceEq, Int.reduceLT, Int.reduceLE, Int.reduceNeg, Int.reduceAdd, Int.reduceSub, Int.reduceMul, Int.reduceDiv, Int.reduceMod, Nat.reduceLT, Nat.reduceLeDiff, Nat.reduceMul, Nat.reduceSub, Int.reduceToNat, go_sem, Nat.le_refl, Int.toNat_natCast, Int.toNat_zero, Int.toNat_one, str_eq, sz_bA, tl_bA, Tryd.results60, ew]
  with_reducible refine CallOk.of c0 rfl ?_
  simp (implicitDefEqProofs := false) (disch := omega) only [go_sem, reduceCtorEq, Nat.reduceEqDiff, Nat.reduceBEq, ↓reduceIte, Nat.reduceGT, Nat.reduceAdd, Int.reduceEq, Int.reduceLT, Int.reduceLE, Int.reduceNeg, Int.reduceAdd, Int.reduceSub, Int.reduceMul, Int.reduceDiv, Int.reduceMod, Nat.reduceLT, Nat.reduceLeDiff, Nat.reduceMul, Nat.reduceSub, Int.reduceToNat, go_sem, Nat.le_refl, Int.toNat_natCast, Int.toNat_zero, Int.toNat_one, str_eq, sz_bA, tl_bA, Tryd.results60, ew]
theorem BL_bt {i : Nat} (h : i < 4) : bt BL i < 128 := by
  match i, h with
  | 0, _ => decide
  | 1, _ => decide
  | 2, _ => decide
  | 3, _ => decide
theorem ixr_hi (r : Int) (h1 : 128 ≤ r) (hr : okR r) : Ok Tryd.prog 60 [vS BL, .val (.int .i32 r)] (vI (-1)) := by
  refine Ok.of_pwp (by kernel_rfl) Tryd.func60 rfl (by kernel_rfl) (by kernel_rfl) ?_
  by_cases h5 : r = 65533
  · subst h5
    simp (implicitDefEqProofs := false) (disch := omega) only [go_sem, reduceCtorEq, Nat.reduceEqDiff, Nat.reduceBEq, ↓reduceIte, Nat.reduceGT, Nat.reduceAdd, Int.reduceEq, Int.reduceLT, Int.reduceLE, Int.reduceNeg, Int.reduceAdd, Int.reduceSub, Int.reduceMul, Int.reduceDiv, Int.reduceMod, Nat.reduceLT, Nat.reduceLeDiff, Nat.reduceMul, Nat.reduceSub, Int.reduceToNat, go_sem, Nat.le_refl, Int.toNat_natCast, Int.toNat_zero, Int.toNat_one, str_eq, sz_bA, tl_bA, Tryd.results60]
    refine p_loop (ι := { i : Nat // i ≤ 4 }) (fun i => ⟨[(175, .ptr 12 0)], [(12, .iter BL i.1)], [], 13, 0⟩) (fun i => 4 - i.1) ⟨0, Nat.zero_le _⟩ ?_ ?_
    · refine ⟨?_, ?_, ?_, ?_, ?_, ?_, ?_⟩ <;> simp only [mem_cons_, mem_nil_, lkp, hold_eq, b_some, frz_self, frz1_self, frzL_self, frzO_self, frzO_box, frzO_iter, frzL_cons, frzL_nil, frz_agg, frz1_row, frz1_nil, frz1_val, frz1_sl, frz1_rr, frz1_ptr, frz1_ms, frz_val, frz_sl, frz_row, frz_ptr, frz_ms, frz_fp, frz_tup, frz_fn, PV.lt, PV.ltL, PObj.lt, decide_true, Bool.true_and, Bool.and_true, Bool.and_self, Nat.reduceLT, Nat.reduceLeDiff, Nat.reduceEqDiff, if_true, if_false, ↓reduceIte, and_true, true_and, Nat.zero_le, reduceCtorEq, eq_self, decide_eq_true_eq, ] <;> try first | omega | ((repeat' (first | exact And.intro rfl (by omega) | (refine And.intro ?_ ?_))) <;> first | rfl | omega | (congr 3; omega) | (congr 2; omega))
    · rintro ⟨i, hi⟩
      simp only
      have hz : BL.size = 4 := rfl
      by_cases hl : i < 4
      · have hb := BL_bt hl
        have hr := bt_rng BL i
        have ed := dec_lo (s := BL) (i := i) hl hb
        simp (implicitDefEqProofs := false) (disch := omega) only [go_sem, reduceCtorEq, Nat.reduceEqDiff, Nat.reduceBEq, ↓reduceIte, Nat.reduceGT, Nat.reduceAdd, Int.reduceEq, Int.reduceLT, Int.reduceLE, Int.reduceNeg, Int.reduceAdd, Int.reduceSub, Int.reduceMul, Int.reduceDiv, Int.reduceMod, Nat.reduceLT, Nat.reduceLeDiff, Nat.reduceMul, Nat.reduceSub, Int.reduceToNat, go_sem, Nat.le_refl, Int.toNat_natCast, Int.toNat_zero, Int.toNat_one, str_eq, sz_bA, tl_bA, Tryd.results60, ed]
        refine ⟨⟨i + 1, hl⟩, by simp only; omega, ?_⟩
        refine ⟨?_, ?_, ?_, ?_, ?_, ?_, ?_⟩ <;> simp only [mem_cons_, mem_nil_, lkp, hold_eq, b_some, frz_self, frz1_self, frzL_self, frzO_self, frzO_box, frzO_iter, frzL_cons, frzL_nil, frz_agg, frz1_row, frz1_nil, frz1_val, frz1_sl, frz1_rr, frz1_ptr, frz1_ms, frz_val, frz_sl, frz_row, frz_ptr, frz_ms, frz_fp, frz_tup, frz_fn, PV.lt, PV.ltL, PObj.lt, decide_true, Bool.true_and, Bool.and_true, Bool.and_self, Nat.reduceLT, Nat.reduceLeDiff, Nat.reduceEqDiff, if_true, if_false, ↓reduceIte, and_true, true_and, Nat.zero_le, reduceCtorEq, eq_self, decide_eq_true_eq, ] <;> try first | omega | ((repeat' (first | exact And.intro rfl (by omega) | (refine And.intro ?_ ?_))) <;> first | rfl | omega | (congr 3; omega) | (congr 2; omega))
      · simp (implicitDefEqProofs := false) (disch := omega) only [go_sem, reduceCtorEq, Nat.reduceEqDiff, Nat.reduceBEq, ↓reduceIte, Nat.reduceGT, Nat.reduceAdd, Int.reduceEq, Int.reduceLT, Int.reduceLE, Int.reduceNeg, Int.reduceAdd, Int.reduceSub, Int.reduceMul, Int.reduceDiv, Int.reduceMod, Nat.reduceLT, Nat.reduceLeDiff, Nat.reduceMul, Nat.reduceSub, Int.reduceToNat, go_sem, Nat.le_refl, Int.toNat_natCast, Int.toNat_zero, Int.toNat_one, str_eq, sz_bA, tl_bA, Tryd.results60]
  · have hv : (0 ≤ r ∧ r < 55296) ∨ (57343 < r ∧ r ≤ 1114111) := by rcases hr with h | h; exact absurd h h5; exact h
    have c0 := validRune_ok r hv
    obtain ⟨k, hk, hz, hl⟩ := enc_last h1 hv
    generalize he : Utf8.encode r = rs at *
    simp (implicitDefEqProofs := false) (disch := omega) only [go_sem, reduceCtorEq, Nat.reduceEqDiff, Nat.reduceBEq, ↓reduceIte, Nat.reduceGT, Nat.reduceAdd, Int.reduceEq, Int.reduceLT, Int.reduceLE, Int.reduceNeg, Int.reduceAdd, Int.reduceSub, Int.reduceMul, Int.reduceDiv, Int.reduceMod, Nat.reduceLT, Nat.reduceLeDiff, Nat.reduceMul, Nat.reduceSub, Int.reduceToNat, go_sem, Nat.le_refl, Int.toNat_natCast, Int.toNat_zero, Int.toNat_one, str_eq, sz_bA, tl_bA, Tryd.results60, he, hz]
    with_reducible refine CallOk.of c0 rfl ?_
    simp (implicitDefEqProofs := false) (disch := omega) only [go_sem, reduceCtorEq, Nat.reduceEqDiff, Nat.reduceBEq, ↓reduceIte, Nat.reduceGT, Nat.reduceAdd, Int.reduceEq, Int.reduceLT, Int.reduceLE, Int.reduceNeg, Int.reduceAdd, Int.reduceSub, Int.reduceMul, Int.reduceDiv, Int.reduceMod, Nat.reduceLT, Nat.reduceLeDiff, Nat.reduceMul, Nat.reduceSub, Int.reduceToNat, go_sem, Nat.le_refl, Int.toNat_natCast, Int.toNat_zero, Int.toNat_one, str_eq, sz_bA, tl_bA, Tryd.results60, he, hz]
    have hb := BL_bt (i := k) (by omega)
    have hbr := bt_rng rs k
    have hbb := bt_rng BL k
    have hne : ¬ bt BL k = bt rs k := by omega
    have hne' : ¬ bt rs k = bt BL k := by omega
    have hzB : BL.size = 4 := rfl
    refine p_loop (ι := Unit) (fun _ => ⟨[(10, vI 0), (9, vI k), (8, vI k), (7, vS rs), (0, vS BL)], [], [], 8, 8⟩) (fun _ => 0) () ?_ ?_
    · refine ⟨?_, ?_, ?_, ?_, ?_, ?_, ?_⟩ <;> simp only [mem_cons_, mem_nil_, lkp, hold_eq, b_some, frz_self, frz1_self, frzL_self, frzO_self, frzO_box, frzO_iter, frzL_cons, frzL_nil, frz_agg, frz1_row, frz1_nil, frz1_val, frz1_sl, frz1_rr, frz1_ptr, frz1_ms, frz_val, frz_sl, frz_row, frz_ptr, frz_ms, frz_fp, frz_tup, frz_fn, PV.lt, PV.ltL, PObj.lt, decide_true, Bool.true_and, Bool.and_true, Bool.and_self, Nat.reduceLT, Nat.reduceLeDiff, Nat.reduceEqDiff, if_true, if_false, ↓reduceIte, and_true, true_and, Nat.zero_le, reduceCtorEq, eq_self, decide_eq_true_eq, ] <;> try first | omega | ((repeat' (first | exact And.intro rfl (by omega) | (refine And.intro ?_ ?_))) <;> first | rfl | omega | (congr 3; omega) | (congr 2; omega))
    · rintro ⟨⟩
      have c1 := indexByte_ok (BL.extract (k + 1) 4) (bt rs k)
      have e1 : Lib.indexByte (BL.extract (k + 1) 4).data.toList (bt rs k).toNat.toUInt8 = -1 := by
        apply indexByte_no
        have h8 := toU8_hi hl hbr.2
        generalize (bt rs k).toNat.toUInt8 = c at *
        intro hmem
        have : c ∈ ([32, 9, 10, 13] : List UInt8) := by
          have h9 := ext_list BL (k + 1) 4
          rw [h9] at hmem
          exact List.mem_of_mem_drop (List.mem_of_mem_take hmem)
        obtain ⟨j, hj⟩ := List.mem_iff_getElem?.1 this
        have := BL_ascii j c hj
        omega
      rw [e1] at c1
      have e2 : ((k : Int) + 1).toNat = k + 1 := by omega
      simp (implicitDefEqProofs := false) (disch := omega) only [go_sem, reduceCtorEq, Nat.reduceEqDiff, Nat.reduceBEq, ↓reduceIte, Nat.reduceGT, Nat.reduceAdd, Int.reduceEq, Int.reduceLT, Int.reduceLE, Int.reduceNeg, Int.reduceAdd, Int.reduceSub, Int.reduceMul, Int.reduceDiv, Int.reduceMod, Nat.reduceLT, Nat.reduceLeDiff, Nat.reduceMul, Nat.reduceSub, Int.reduceToNat, go_sem, Nat.le_refl, Int.toNat_natCast, Int.toNat_zero, Int.toNat_one, str_eq, sz_bA, tl_bA, Tryd.results60, hne, hzB, e2]
      with_reducible refine CallOk.of c1 rfl ?_
      simp (implicitDefEqProofs := false) (disch := omega) only [go_sem, reduceCtorEq, Nat.reduceEqDiff, Nat.reduceBEq, ↓reduceIte, Nat.reduceGT, Nat.reduceAdd, Int.reduceEq, Int.reduceLT, Int.reduceLE, Int.reduceNeg, Int.reduceAdd, Int.reduceSub, Int.reduceMul, Int.reduceDiv, Int.reduceMod, Nat.reduceLT, Nat.reduceLeDiff, Nat.reduceMul, Nat.reduceSub, Int.reduceToNat, go_sem, Nat.le_refl, Int.toNat_natCast, Int.toNat_zero, Int.toNat_one, str_eq, sz_bA, tl_bA, Tryd.results60, hne, hzB, e2]
theorem ixb_yes : ∀ {l : List UInt8} {c : UInt8}, c ∈ l → 0 ≤ Lib.indexByte l c
  | b :: l, c, h => by
    rw [Lib.indexByte]
    by_cases hb : b = c
    · simp [hb]
    · have := ixb_yes (l := l) (c := c) (by simpa [Ne.symm hb] using h)
      simp only [beq_iff_eq, hb, if_false]
      split <;> omega
theorem isb_mem {b : UInt8} : isb b = true ↔ b ∈ ([32, 9, 10, 13] : List UInt8) := by
  rw [← BL_has]; simp
theorem indexAny_sh (l : List UInt8) (h8 : l.length ≤ 8) : Ok Tryd.prog 41 [vS (bA l), vS BL] (vI (Lib.indexAny l [32, 9, 10, 13])) := by
  have c0 := should_ok l.length
  rw [decide_eq_false (show ¬ ((8 : Int) < (l.length : Int)) by omega)] at c0
  have hz : (bA l).size = l.length := rfl
  have hB : (#[32, 9, 10, 13] : Array UInt8).size = 4 := rfl
  refine Ok.of_pwp (by kernel_rfl) Tryd.func41 rfl (by kernel_rfl) (by kernel_rfl) ?_
  simp (implicitDefEqProofs := false) (disch := omega) only [go_sem, reduceCtorEq, Nat.reduceEqDiff, Nat.reduceBEq, ↓reduceIte, Nat.reduceGT, Nat.reduceAdd, Int.reduceEq, Int.reduceLT, Int.reduceLE, Int.reduceNeg, Int.reduceAdd, Int.reduceSub, Int.reduceMul, Int.reduceDiv, Int.reduceMod, Nat.reduceLT, Nat.reduceLeDiff, Nat.reduceMul, Nat.reduceSub, Int.reduceToNat, go_sem, Nat.le_refl, Int.toNat_natCast, Int.toNat_zero, Int.toNat_one, str_eq, sz_bA, tl_bA, hB, Tryd.results41]
  with_reducible refine CallOk.of c0 rfl ?_
  simp (implicitDefEqProofs := false) (disch := omega) only [go_sem, reduceCtorEq, Nat.reduceEqDiff, Nat.reduceBEq, ↓reduceIte, Nat.reduceGT, Nat.reduceAdd, Int.reduceEq, Int.reduceLT, Int.reduceLE, Int.reduceNeg, Int.reduceAdd, Int.reduceSub, Int.reduceMul, Int.reduceDiv, Int.reduceMod, Nat.reduceLT, Nat.reduceLeDiff, Nat.reduceMul, Nat.reduceSub, Int.reduceToNat, go_sem, Nat.le_refl, Int.toNat_natCast, Int.toNat_zero, Int.toNat_one, str_eq, sz_bA, tl_bA, hB, Tryd.results41]
  refine p_loop (ι := { i : Nat // i ≤ l.length ∧ Lib.NoAny l [32, 9, 10, 13] i }) (fun i => ⟨[(45, .ptr 10 0), (1, vS BL), (0, vS (bA l))], [(10, .iter (bA l) i.1)], [], 11, 0⟩) (fun i => l.length - i.1) ⟨0, Nat.zero_le _, Lib.NoAny.zero _ _⟩ ?_ ?_
  · refine ⟨?_, ?_, ?_, ?_, ?_, ?_, ?_⟩ <;> simp only [mem_cons_, mem_nil_, lkp, hold_eq, b_some, frz_self, frz1_self, frzL_self, frzO_self, frzO_box, frzO_iter, frzL_cons, frzL_nil, frz_agg, frz1_row, frz1_nil, frz1_val, frz1_sl, frz1_rr, frz1_ptr, frz1_ms, frz_val, frz_sl, frz_row, frz_ptr, frz_ms, frz_fp, frz_tup, frz_fn, PV.lt, PV.ltL, PObj.lt, decide_true, Bool.true_and, Bool.and_true, Bool.and_self, Nat.reduceLT, Nat.reduceLeDiff, Nat.reduceEqDiff, if_true, if_false, ↓reduceIte, and_true, true_and, Nat.zero_le, reduceCtorEq, eq_self, decide_eq_true_eq, ] <;> try first | omega | ((repeat' (first | exact And.intro rfl (by omega) | (refine And.intro ?_ ?_))) <;> first | rfl | omega | (congr 3; omega) | (congr 2; omega))
  · rintro ⟨i, h1, h2⟩
    simp only
    by_cases hl : i < l.length
    · obtain ⟨b, hb⟩ : ∃ b, l[i]? = some b := ⟨_, List.getElem?_eq_getElem hl⟩
      have eb := bA_bt hb
      have hbr := bt_rng (bA l) i
      by_cases hlo : bt (bA l) i < 128
      · have ed := dec_lo (s := bA l) (i := i) hl hlo
        have c1 := ixr_lo (bt (bA l) i) hbr.1 hlo
        have eu : (bt (bA l) i).toNat.toUInt8 = b := by rw [eb, Int.toNat_natCast]; simp
        rw [eu] at c1
        have ec : (((bt (bA l) i).toNat : Nat) : Int) = bt (bA l) i := by omega
        by_cases hm : b ∈ ([32, 9, 10, 13] : List UInt8)
        · have hv := ixb_yes hm
          have hh := Lib.indexAny_hit (chars := [32, 9, 10, 13]) h2 hb (by simpa using hm)
          rw [hh]
          simp (implicitDefEqProofs := false) (disch := omega) only [go_sem, reduceCtorEq, Nat.reduceEqDiff, Nat.reduceBEq, ↓reduceIte, Nat.reduceGT, Nat.reduceAdd, Int.reduceEq, Int.reduceLT, Int.reduceLE, Int.reduceNeg, Int.reduceAdd, Int.reduceSub, Int.reduceMul, Int.reduceDiv, Int.reduceMod, Nat.reduceLT, Nat.reduceLeDiff, Nat.reduceMul, Nat.reduceSub, Int.reduceToNat, go_sem, Nat.le_refl, Int.toNat_natCast, Int.toNat_zero, Int.toNat_one, str_eq, sz_bA, tl_bA, hB, Tryd.results41, ed, ec]
          with_reducible refine CallOk.of c1 rfl ?_
          simp (implicitDefEqProofs := false) (disch := omega) only [go_sem, reduceCtorEq, Nat.reduceEqDiff, Nat.reduceBEq, ↓reduceIte, Nat.reduceGT, Nat.reduceAdd, Int.reduceEq, Int.reduceLT, Int.reduceLE, Int.reduceNeg, Int.reduceAdd, Int.reduceSub, Int.reduceMul, Int.reduceDiv, Int.reduceMod, Nat.reduceLT, Nat.reduceLeDiff, Nat.reduceMul, Nat.reduceSub, Int.reduceToNat, go_sem, Nat.le_refl, Int.toNat_natCast, Int.toNat_zero, Int.toNat_one, str_eq, sz_bA, tl_bA, hB, Tryd.results41, ed, ec]
        · have hv := indexByte_no hm
          rw [hv] at c1
          simp (implicitDefEqProofs := false) (disch := omega) only [go_sem, reduceCtorEq, Nat.reduceEqDiff, Nat.reduceBEq, ↓reduceIte, Nat.reduceGT, Nat.reduceAdd, Int.reduceEq, Int.reduceLT, Int.reduceLE, Int.reduceNeg, Int.reduceAdd, Int.reduceSub, Int.reduceMul, Int.reduceDiv, Int.reduceMod, Nat.reduceLT, Nat.reduceLeDiff, Nat.reduceMul, Nat.reduceSub, Int.reduceToNat, go_sem, Nat.le_refl, Int.toNat_natCast, Int.toNat_zero, Int.toNat_one, str_eq, sz_bA, tl_bA, hB, Tryd.results41, ed, ec]
          with_reducible refine CallOk.of c1 rfl ?_
          simp (implicitDefEqProofs := false) (disch := omega) only [go_sem, reduceCtorEq, Nat.reduceEqDiff, Nat.reduceBEq, ↓reduceIte, Nat.reduceGT, Nat.reduceAdd, Int.reduceEq, Int.reduceLT, Int.reduceLE, Int.reduceNeg, Int.reduceAdd, Int.reduceSub, Int.reduceMul, Int.reduceDiv, Int.reduceMod, Nat.reduceLT, Nat.reduceLeDiff, Nat.reduceMul, Nat.reduceSub, Int.reduceToNat, go_sem, Nat.le_refl, Int.toNat_natCast, Int.toNat_zero, Int.toNat_one, str_eq, sz_bA, tl_bA, hB, Tryd.results41, ed, ec]
          refine ⟨⟨i + 1, hl, h2.succ hb (by simpa using hm)⟩, by simp only; omega, ?_⟩
          refine ⟨?_, ?_, ?_, ?_, ?_, ?_, ?_⟩ <;> simp only [mem_cons_, mem_nil_, lkp, hold_eq, b_some, frz_self, frz1_self, frzL_self, frzO_self, frzO_box, frzO_iter, frzL_cons, frzL_nil, frz_agg, frz1_row, frz1_nil, frz1_val, frz1_sl, frz1_rr, frz1_ptr, frz1_ms, frz_val, frz_sl, frz_row, frz_ptr, frz_ms, frz_fp, frz_tup, frz_fn, PV.lt, PV.ltL, PObj.lt, decide_true, Bool.true_and, Bool.and_true, Bool.and_self, Nat.reduceLT, Nat.reduceLeDiff, Nat.reduceEqDiff, if_true, if_false, ↓reduceIte, and_true, true_and, Nat.zero_le, reduceCtorEq, eq_self, decide_eq_true_eq, ] <;> try first | omega | ((repeat' (first | exact And.intro rfl (by omega) | (refine And.intro ?_ ?_))) <;> first | rfl | omega | (congr 3; omega) | (congr 2; omega))
      · have hw := dec_wide (s := bA l) (i := i) hl (by omega)
        generalize ed2 : Utf8.decode (bA l) i = d at *
        obtain ⟨r, wd⟩ := d
        obtain ⟨w1, w2, w3, w4, w5⟩ := hw
        simp only at w1 w2 w3 w4 w5
        rw [sz_bA] at w4
        have c1 := ixr_hi r (by omega) w2
        simp (implicitDefEqProofs := false) (disch := omega) only [go_sem, reduceCtorEq, Nat.reduceEqDiff, Nat.reduceBEq, ↓reduceIte, Nat.reduceGT, Nat.reduceAdd, Int.reduceEq, Int.reduceLT, Int.reduceLE, Int.reduceNeg, Int.reduceAdd, Int.reduceSub, Int.reduceMul, Int.reduceDiv, Int.reduceMod, Nat.reduceLT, Nat.reduceLeDiff, Nat.reduceMul, Nat.reduceSub, Int.reduceToNat, go_sem, Nat.le_refl, Int.toNat_natCast, Int.toNat_zero, Int.toNat_one, str_eq, sz_bA, tl_bA, hB, Tryd.results41, ed2]
        with_reducible refine CallOk.of c1 rfl ?_
        simp (implicitDefEqProofs := false) (disch := omega) only [go_sem, reduceCtorEq, Nat.reduceEqDiff, Nat.reduceBEq, ↓reduceIte, Nat.reduceGT, Nat.reduceAdd, Int.reduceEq, Int.reduceLT, Int.reduceLE, Int.reduceNeg, Int.reduceAdd, Int.reduceSub, Int.reduceMul, Int.reduceDiv, Int.reduceMod, Nat.reduceLT, Nat.reduceLeDiff, Nat.reduceMul, Nat.reduceSub, Int.reduceToNat, go_sem, Nat.le_refl, Int.toNat_natCast, Int.toNat_zero, Int.toNat_one, str_eq, sz_bA, tl_bA, hB, Tryd.results41, ed2]
        refine ⟨⟨i + wd, w4, fun j b hj hb => ?_⟩, by simp only; omega, ?_⟩
        · by_cases hji : j < i
          · exact h2 j b hji hb
          · have h9 := w5 (j - i) (by omega)
            rw [show i + (j - i) = j by omega, bA_bt hb] at h9
            rw [BL_has]
            apply Bool.eq_false_iff.2
            intro hc
            have := isb_mem.1 hc
            obtain ⟨q, hq⟩ := List.mem_iff_getElem?.1 this
            have := BL_ascii q b hq
            omega
        · refine ⟨?_, ?_, ?_, ?_, ?_, ?_, ?_⟩ <;> simp only [mem_cons_, mem_nil_, lkp, hold_eq, b_some, frz_self, frz1_self, frzL_self, frzO_self, frzO_box, frzO_iter, frzL_cons, frzL_nil, frz_agg, frz1_row, frz1_nil, frz1_val, frz1_sl, frz1_rr, frz1_ptr, frz1_ms, frz_val, frz_sl, frz_row, frz_ptr, frz_ms, frz_fp, frz_tup, frz_fn, PV.lt, PV.ltL, PObj.lt, decide_true, Bool.true_and, Bool.and_true, Bool.and_self, Nat.reduceLT, Nat.reduceLeDiff, Nat.reduceEqDiff, if_true, if_false, ↓reduceIte, and_true, true_and, Nat.zero_le, reduceCtorEq, eq_self, decide_eq_true_eq, ] <;> try first | omega | ((repeat' (first | exact And.intro rfl (by omega) | (refine And.intro ?_ ?_))) <;> first | rfl | omega | (congr 3; omega) | (congr 2; omega))
    · have hi : i = l.length := by omega
      subst hi
      rw [Lib.indexAny_none h2]
      simp (implicitDefEqProofs := false) (disch := omega) only [go_sem, reduceCtorEq, Nat.reduceEqDiff, Nat.reduceBEq, ↓reduceIte, Nat.reduceGT, Nat.reduceAdd, Int.reduceEq, Int.reduceLT, Int.reduceLE, Int.reduceNeg, Int.reduceAdd, Int.reduceSub, Int.reduceMul, Int.reduceDiv, Int.reduceMod, Nat.reduceLT, Nat.reduceLeDiff, Nat.reduceMul, Nat.reduceSub, Int.reduceToNat, go_sem, Nat.le_refl, Int.toNat_natCast, Int.toNat_zero, Int.toNat_one, str_eq, sz_bA, tl_bA, hB, Tryd.results41]
theorem indexAny_ok (l : List UInt8) (h : l.length ≤ 1000000) : Ok Tryd.prog 41 [vS (bA l), vS BL] (vI (ixA l)) := by
  rw [← indexAny_bl]
  by_cases h8 : l.length ≤ 8
  · exact indexAny_sh l h8
  · refine Ok.of_plain (l := [.string (bA l), .string BL]) (by kernel_rfl) fun w hk => ?_
    refine (Tryd.strings_IndexAny_long (fun w => (zero_of_info (n := 256) (by kernel_rfl)).1 w) (bA l) BL w (by decide) (by rw [sz_bA]; omega) (by rw [sz_bA]; omega) (by decide) BL_ascii).mono ?_
    rintro e w' ⟨rfl, rfl⟩
    exact ⟨_, rfl, fun S => .frz (.val rfl), ((Below.refl _ _).alloc (Nat.le_refl _) _).alloc (by simp) _⟩
end Go.Proofs.YtegehnojbfedlaaDoor
