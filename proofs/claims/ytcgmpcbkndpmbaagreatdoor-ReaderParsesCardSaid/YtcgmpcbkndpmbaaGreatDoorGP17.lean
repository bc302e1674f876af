/-
  Contracts and plain laws on the way to the statement; each says its own conditions.
-/
import Derived.Test.YtcgmpcbkndpmbaaGreatDoorGP15
import Derived.Test.YtcgmpcbkndpmbaaGreatDoorGP10
import Derived.Test.YtcgmpcbkndpmbaaGreatDoorGP7
import Derived.Lib.ItoaLen
import Derived.Test.YtcgmpcbkndpmbaaGreatDoorGP8
import Derived.Test.YtcgmpcbkndpmbaaGreatDoorGP11
import Derived.Test.YtcgmpcbkndpmbaaGreatDoorGP13
import Derived.Test.YtcgmpcbkndpmbaaGreatDoorGP16
import Derived.Test.YtcgmpcbkndpmbaaGreatDoorGP9
section
open Go Go.Proofs Go.Pw Go.RowKit
namespace Go.Proofs.YtcgmpcbkndpmbaaGreatDoor
set_option maxRecDepth 4000
set_option linter.unusedVariables false
set_option linter.unusedSimpArgs false
attribute [local go_sem] An.R An.cells Nat.le_refl Tk.cells Tryz.results18 encV_len signS_eq str_eq str_oneM
def tab_rp7 : List Row := [⟨#[false, false, false, false, false, false, false, false], [0, 1, 3], 8⟩, ⟨#[true, false, false, false, false, false, false, false], [1, 3, 5], 7⟩, ⟨#[false, true, false, false, false, false, false, false], [0, 2, 3], 7⟩, ⟨#[false, false, false, true, false, false, false, false], [0, 1, 4], 7⟩, ⟨#[true, true, false, false, false, false, false, false], [2, 3, 5], 6⟩, ⟨#[true, false, false, true, false, false, false, false], [1, 4, 5], 6⟩, ⟨#[true, false, false, false, false, true, false, false], [1, 3], 6⟩, ⟨#[false, true, true, false, false, false, false, false], [0, 3], 6⟩, ⟨#[false, true, false, true, false, false, false, false], [0, 2, 4], 6⟩, ⟨#[false, false, false, true, true, false, false, false], [0, 1], 6⟩, ⟨#[true, true, true, false, false, false, false, false], [3, 5], 5⟩, ⟨#[true, true, false, true, false, false, false, false], [2, 4, 5], 5⟩, ⟨#[true, true, false, false, false, true, false, false], [2, 3], 5⟩, ⟨#[true, false, false, true, true, false, false, false], [1, 5], 5⟩, ⟨#[true, false, false, true, false, true, false, false], [1, 4], 5⟩, ⟨#[false, true, true, true, false, false, false, false], [0, 4], 5⟩, ⟨#[false, true, false, true, true, false, false, false], [0, 2], 5⟩, ⟨#[true, true, true, true, false, false, false, false], [4, 5], 4⟩, ⟨#[true, true, true, false, false, true, false, false], [3, 6], 4⟩, ⟨#[true, true, false, true, true, false, false, false], [2, 5], 4⟩, ⟨#[true, true, false, true, false, true, false, false], [2, 4], 4⟩, ⟨#[true, false, false, true, true, true, false, false], [1], 4⟩, ⟨#[false, true, true, true, true, false, false, false], [0], 4⟩, ⟨#[true, true, true, true, true, false, false, false], [5], 3⟩, ⟨#[true, true, true, true, false, true, false, false], [4, 6], 3⟩, ⟨#[true, true, true, false, false, true, true, false], [3], 3⟩, ⟨#[true, true, false, true, true, true, false, false], [2], 3⟩, ⟨#[true, true, true, true, true, true, false, false], [6], 2⟩, ⟨#[true, true, true, true, false, true, true, false], [4], 2⟩, ⟨#[true, true, true, true, true, true, true, false], [7], 1⟩, ⟨#[true, true, true, true, true, true, true, true], [], 0⟩]
def rp7_J (p : Nat) (e : Int) : List Bool -> Unit -> PS
 | [b0, b1, b2, b3, b4, b5, b6, b7], d => ⟨(cd b0 (28, .agg [vI 0, vB false, vI 0, vS ByteArray.empty, vNil, vNil]) (cd b1 (29, .ptr 15 6) (cd b2 (30, vI p) (cd b3 (31, .ptr 15 7) (cd b4 (32, vI e) (cd b6 (5, vI p) (cd b7 (6, vI e) [(4, .ptr 0 0), (7, .ptr 15 0)]))))))), [(15, .box 88 [vI 0, vB false, vI 0, vS ByteArray.empty, .sl [], .sl [], vI p, vI e]), (0, .box 28 [vI 0, vB false, vI 0, vS ByteArray.empty, vNil, vNil])], [], 16, 0⟩
 | _, _ => ⟨[], [], [], 0, 0⟩
def tab_rp12 : List Row := [⟨#[false, false, false, false, false, false], [0, 1], 6⟩, ⟨#[true, false, false, false, false, false], [1, 3], 5⟩, ⟨#[false, true, false, false, false, false], [0, 2], 5⟩, ⟨#[true, true, false, false, false, false], [2, 3], 4⟩, ⟨#[true, false, false, true, false, false], [1], 4⟩, ⟨#[false, true, true, false, false, false], [0], 4⟩, ⟨#[true, true, true, false, false, false], [3], 3⟩, ⟨#[true, true, false, true, false, false], [2], 3⟩, ⟨#[true, true, true, true, false, false], [4], 2⟩, ⟨#[true, true, true, true, true, false], [5], 1⟩, ⟨#[true, true, true, true, true, true], [], 0⟩]
def rp12_J (t : Tk) : List Bool -> Unit -> PS
 | [b0, b1, b2, b3, b4, b5], d => ⟨(cd b0 (49, .agg [vI 0, vB false, vI 0, vS ByteArray.empty, vNil, vNil]) (cd b1 (50, .ptr 28 3) (cd b2 (51, vI t.at_) (cd b4 (5, vI t.at_) (cd b5 (6, vI 1) [(4, .ptr 0 0), (8, .ptr 28 0)]))))), [(28, .box 46 t.cells), (0, .box 28 [vI 0, vB false, vI 0, vS ByteArray.empty, vNil, vNil])], [], 29, 0⟩
 | _, _ => ⟨[], [], [], 0, 0⟩
theorem bad_cells (e : Int) (p : Nat) (he : e ≠ 0) : (An.bad e p).cells = [vI 0, vB false, vI 0, vS ByteArray.empty, .sl [], .sl [], vI p, vI e] := by
 unfold An.cells An.bad
 simp only [if_neg he]
 simp [vZero, V.kind, V.b, V.n, V.s, V.items, V.keys, encV_nil, encT_nil]
set_option maxHeartbeats 32000000 in
theorem rparse_ok6 (s : ByteArray) (hs : s.size <= 8000) (d : Int) (hd : -9223372036854775808 <= d /\ d <= 9223372036854775807) : Ok Tryz.prog 18 [vS s, vI d] (parseR (parseA s d)) := by
 refine Ok.of_pwpB (by kernel_rfl) Tryz.func18 rfl (by kernel_rfl) (by kernel_rfl) (bar := bar2 7 100 (bar2 12 100 noBar)) ?_
 generalize hF : parseA s d = F
 unfold parseA at hF
 have hb : ∀ e p, e ≠ 0 -> parseR (.bad e p) = .tup [.agg [vI 0, vB false, vI 0, vS ByteArray.empty, .sl [], .sl []], vI p, vI e] := fun e p he => by
  unfold parseR An.bad
  simp only [if_neg he]
  simp [vZero, cellsV, V.kind, V.b, V.n, V.s, V.items, V.keys, encV_nil, encT_nil]
 by_cases h0 : d < 0
 ·rw [if_pos (.inl h0)] at hF
  rw [<- hF, hb _ _ (by decide)]
  simp (implicitDefEqProofs := false) (disch := omega) only [go_sem, simprocAttr, cellsV, decide_eq_true h0]
  try rfl
 by_cases h64 : 64 < d
 ·rw [if_pos (.inr h64)] at hF
  rw [<- hF, hb _ _ (by decide)]
  simp (implicitDefEqProofs := false) (disch := omega) only [go_sem, simprocAttr, cellsV, decide_eq_false h0, decide_eq_true h64]
  try rfl
 rw [if_neg (by omega), if_neg (by omega)] at hF
 obtain ⟨k, rfl⟩ : ∃ k : Nat, d = k := ⟨d.toNat, by omega⟩
 rw [Int.toNat_natCast] at hF
 have cv := rvalue_ok s hs k (by omega) k 0 (by omega) (by omega) 0 (Nat.zero_le _)
 have ao := rV_ok s k 0 (Nat.zero_le _)
 have pu := rV_pure s k 0
 generalize rV s k 0 = x at *
 by_cases e1 : x.code = 0
 rotate_left
 ·rw [if_pos e1] at hF
  rw [pu.1 e1] at cv
  rw [<- hF, hb _ _ e1]
  have hc := bad_cells x.code x.place e1
  generalize x.code = e at *
  generalize x.place = p at *
  unfold An.R at cv
  rw [hc] at cv
  simp (implicitDefEqProofs := false) (disch := omega) only [go_sem, simprocAttr, cellsV, decide_eq_false h0, decide_eq_false h64]
  with_reducible refine CallOk.of cv rfl ?_
  simp (implicitDefEqProofs := false) (disch := omega) only [go_sem, simprocAttr, cellsV, decide_eq_false e1]
  refine p_tab2 (by decide) ?_
  refine p_tableJ (by decide) tab_rp7 (by kernel_rfl) (Unit) (rp7_J p e) (fun _ _ => True) () [false, false, false, false, false, false, false, false] [true, true, true, true, true, true, true, true] rfl rfl trivial ?_ ?_ ?_
  ·simp only [rp7_J]
   constructor <;> simp only [go_sem, simprocAttr, decide_eq_true_eq] <;> try ((repeat' apply And.intro) <;> first | rfl | omega | (congr 3; omega) | (congr 2; omega))
  ·rintro ⟨⟩ hd
   simp only [rp7_J] at hd ⊢
   simp (implicitDefEqProofs := false) (disch := omega) only [go_sem, simprocAttr, cellsV]
   try rfl
  intro get arr hget
  obtain ⟨g0, g1, g2, g3, g4, g5, g6, g7⟩ : get 0 = _ /\ get 1 = _ /\ get 2 = _ /\ get 3 = _ /\ get 4 = _ /\ get 5 = _ /\ get 6 = _ /\ get 7 = _ := ⟨hget 0, hget 1, hget 2, hget 3, hget 4, hget 5, hget 6, hget 7⟩
  simp only [List.getElem?_cons_zero, List.getElem?_cons_succ] at g0 g1 g2 g3 g4 g5 g6 g7
  clear hget
  simp only [tab_rp7, allE, allL, and_true, List.set_cons_zero, List.set_cons_succ]
  repeat' apply And.intro
  all_goals
   rintro ⟨⟩ hd
   simp only [g0, g1, g2, g3, g4, g5, g6, g7, b_some, rp7_J] at hd ⊢
   clear g0 g1 g2 g3 g4 g5 g6 g7
   refine .inl ?_
   simp (implicitDefEqProofs := false) (disch := omega) only [go_sem, simprocAttr, cellsV]
   first | refine ⟨(), trivial, ?_⟩ | refine ⟨(), ?_⟩ | skip
   constructor <;> simp only [go_sem, simprocAttr, decide_eq_true_eq] <;> try ((repeat' apply And.intro) <;> first | rfl | omega | (congr 3; omega) | (congr 2; omega))
 rw [if_neg (fun h => h e1)] at hF
 have ao1 := ao e1
 have t3 := tk_ok s x.at_ ao1.2.1
 have c3 := rnext_at s x.at_ ao1.2.1 hs
 simp (implicitDefEqProofs := false) (disch := omega) only [go_sem, simprocAttr, cellsV, decide_eq_false h0, decide_eq_false h64]
 with_reducible refine CallOk.of cv rfl ?_
 simp (implicitDefEqProofs := false) (disch := omega) only [go_sem, simprocAttr, cellsV, e1]
 with_reducible refine CallOk.of c3 rfl ?_
 by_cases n3 : nE s x.at_ = 0
 rotate_left
 ·rw [if_pos n3] at hF
  rw [<- hF, hb _ _ n3]
  simp (implicitDefEqProofs := false) (disch := omega) only [go_sem, simprocAttr, cellsV, decide_eq_false n3]
  try rfl
 rw [if_neg (fun h => h n3)] at hF
 by_cases k3 : (nT s x.at_).kind = 0
 ·rw [if_neg (fun h => h k3)] at hF
  subst hF
  simp (implicitDefEqProofs := false) (disch := omega) only [go_sem, simprocAttr, cellsV, n3, k3]
  try rfl
 ·rw [if_pos k3] at hF
  rw [<- hF, hb _ _ (by decide)]
  generalize nT s x.at_ = t at *
  simp (implicitDefEqProofs := false) (disch := omega) only [go_sem, simprocAttr, cellsV, n3, decide_eq_false k3]
  refine p_tab2 (by decide) ?_
  refine p_tableJ (by decide) tab_rp12 (by kernel_rfl) (Unit) (rp12_J t) (fun _ _ => True) () [false, false, false, false, false, false] [true, true, true, true, true, true] rfl rfl trivial ?_ ?_ ?_
  ·simp only [rp12_J]
   constructor <;> simp only [go_sem, simprocAttr, decide_eq_true_eq, Tk.cells] <;> try ((repeat' apply And.intro) <;> first | rfl | omega | (congr 3; omega) | (congr 2; omega))
  ·rintro ⟨⟩ hd
   simp only [rp12_J] at hd ⊢
   simp (implicitDefEqProofs := false) (disch := omega) only [go_sem, simprocAttr, cellsV]
   try rfl
  intro get arr hget
  obtain ⟨g0, g1, g2, g3, g4, g5⟩ : get 0 = _ /\ get 1 = _ /\ get 2 = _ /\ get 3 = _ /\ get 4 = _ /\ get 5 = _ := ⟨hget 0, hget 1, hget 2, hget 3, hget 4, hget 5⟩
  simp only [List.getElem?_cons_zero, List.getElem?_cons_succ] at g0 g1 g2 g3 g4 g5
  clear hget
  simp only [tab_rp12, allE, allL, and_true, List.set_cons_zero, List.set_cons_succ]
  repeat' apply And.intro
  all_goals
   rintro ⟨⟩ hd
   simp only [g0, g1, g2, g3, g4, g5, b_some, rp12_J] at hd ⊢
   clear g0 g1 g2 g3 g4 g5
   refine .inl ?_
   simp (implicitDefEqProofs := false) (disch := omega) only [go_sem, simprocAttr, cellsV]
   first | refine ⟨(), trivial, ?_⟩ | refine ⟨(), ?_⟩ | skip
   constructor <;> simp only [go_sem, simprocAttr, decide_eq_true_eq, Tk.cells] <;> try ((repeat' apply And.intro) <;> first | rfl | omega | (congr 3; omega) | (congr 2; omega))
end Go.Proofs.YtcgmpcbkndpmbaaGreatDoor

end
section
open Go Go.Proofs Go.Pw
namespace Go.Proofs.YtcgmpcbkndpmbaaGreatDoor
set_option maxRecDepth 4000
set_option linter.unusedVariables false
set_option linter.unusedSimpArgs false
def padD : Nat -> Nat -> List UInt8
 | _, 0 => []
 | n, k + 1 => padD (n / 10) k ++ [UInt8.ofNat (48 + n % 10)]
theorem padD_front : ∀ (k n : Nat), padD n (k + 1) = UInt8.ofNat (48 + n / 10 ^ k % 10) :: padD n k
 | 0, n => by simp [padD]
 | k + 1, n => by
  rw [padD, padD_front k (n / 10), padD, List.cons_append, Nat.div_div_eq_div_mul, Nat.pow_succ, Nat.mul_comm 10]
theorem padD_len : ∀ (k n : Nat), (padD n k).length = k
 | 0, _ => rfl
 | k + 1, n => by simp [padD, padD_len k]
theorem decD_pad (n : Nat) : Lib.decDigits n = padD n (Lib.nDigits n) := by
 induction n using Nat.strongRecOn with
 | _ n ih =>
  by_cases h : n < 10
  ·rw [Lib.decDigits, dif_pos h, Lib.nDigits_small h]
   simp [padD, Nat.mod_eq_of_lt h]
  ·rw [Lib.decDigits, dif_neg h, Lib.nDigits_big h, padD, ih (n / 10) (by omega)]
theorem nD_gt : ∀ (t n : Nat), 0 < n -> (t < Lib.nDigits n ↔ 10 ^ t <= n)
 | 0, n, h => by
  have := Lib.nDigits_pos n
  simp; omega
 | t + 1, n, h => by
  by_cases hn : n < 10
  ·rw [Lib.nDigits_small hn, Nat.pow_succ]
   have : 0 < 10 ^ t := Nat.pow_pos (by decide)
   omega
  ·rw [Lib.nDigits_big hn, Nat.pow_succ, <- Nat.le_div_iff_mul_le (by decide), <- nD_gt t (n / 10) (by omega)]
   omega
theorem sOf_pos {n : Int} (h : 0 <= n) : sOf n = ⟨(Lib.decDigits n.natAbs).toArray⟩ := by
 unfold sOf Lib.itoa
 rw [if_neg (by omega), show n.toNat = n.natAbs by omega]
theorem sOf_neg {n : Int} (h : n < 0) : (⟨#[45]⟩ : ByteArray) ++ ⟨(Lib.decDigits n.natAbs).toArray⟩ = sOf n := by
 unfold sOf Lib.itoa
 rw [if_pos h]
 apply ByteArray.ext
 simp
end Go.Proofs.YtcgmpcbkndpmbaaGreatDoor

end
section
open Go Go.Proofs Go.Pw
namespace Go.Proofs.YtcgmpcbkndpmbaaGreatDoor
set_option maxRecDepth 4000
set_option linter.unusedVariables false
set_option linter.unusedSimpArgs false
def dS (n : Nat) : ByteArray := ⟨(Lib.decDigits n).toArray⟩
theorem bt_arr (l : List UInt8) (i : Nat) : bt ⟨l.toArray⟩ i = ((l.getD i 0).toNat : Int) := rfl
theorem numV_app (l m : List UInt8) : ∀ i, i <= l.length -> numV ⟨(l ++ m).toArray⟩ i = numV ⟨l.toArray⟩ i
 | 0, _ => rfl
 | i + 1, h => by
  rw [numV, numV, numV_app l m i (by omega), bt_arr, bt_arr, List.getD_eq_getElem?_getD, List.getElem?_append_left (by omega), <- List.getD_eq_getElem?_getD]
theorem dD_len (n : Nat) : (Lib.decDigits n).length = Lib.nDigits n := by rw [decD_pad, padD_len]
theorem dS_size (n : Nat) : (dS n).size = Lib.nDigits n := dD_len n
theorem dig_nat {d : Nat} (h : d < 10) : (UInt8.ofNat (48 + d)).toNat = 48 + d := by
 rw [UInt8.toNat_ofNat']
 omega
theorem numV_dec (n : Nat) : numV (dS n) (Lib.nDigits n) = n := by
 induction n using Nat.strongRecOn with
 | _ n ih =>
  by_cases h : n < 10
  ·have e : dS n = ⟨#[UInt8.ofNat (48 + n)]⟩ := by unfold dS; rw [Lib.decDigits, dif_pos h]
   rw [Lib.nDigits_small h, e]
   show 0 * 10 + (((UInt8.ofNat (48 + n)).toNat : Int) - 48) = n
   rw [dig_nat h]; omega
  ·have e : dS n = ⟨(Lib.decDigits (n / 10) ++ [UInt8.ofNat (48 + n % 10)]).toArray⟩ := by
    unfold dS; rw [Lib.decDigits, dif_neg h]
   rw [Lib.nDigits_big h, e, numV, numV_app _ _ _ (by rw [dD_len]; exact Nat.le_refl _), bt_arr]
   have := ih (n / 10) (by omega)
   unfold dS at this
   rw [this, List.getD_eq_getElem?_getD, List.getElem?_append_right (by rw [dD_len]; exact Nat.le_refl _), dD_len, Nat.sub_self]
   show (n / 10 : Nat) * (10 : Int) + (((UInt8.ofNat (48 + n % 10)).toNat : Int) - 48) = n
   rw [dig_nat (Nat.mod_lt _ (by decide))]; omega
theorem padD_get : ∀ (k n j : Nat), j < k -> ((padD n k).getD j 0).toNat = 48 + n / 10 ^ (k - 1 - j) % 10
 | 0, _, _, h => absurd h (by omega)
 | k + 1, n, j, h => by
  rw [padD_front]
  cases j with
  | zero =>
   rw [List.getD_cons_zero, dig_nat (Nat.mod_lt _ (by decide))]; rfl
  | succ j =>
   rw [List.getD_cons_succ, padD_get k n j (by omega), show k + 1 - 1 - (j + 1) = k - 1 - j by omega]
theorem dS_bt {n j : Nat} (h : j < Lib.nDigits n) : bt (dS n) j = ((48 + n / 10 ^ (Lib.nDigits n - 1 - j) % 10 : Nat) : Int) := by
 unfold dS
 rw [bt_arr, decD_pad, padD_get _ _ _ h]
theorem dS_all (n : Nat) : allD (dS n) 0 := by
 intro j hj _
 rw [dS_size] at hj
 rw [dS_bt hj]
 have := Nat.mod_lt (n / 10 ^ (Lib.nDigits n - 1 - j)) (show 0 < 10 by decide)
 unfold isD
 omega
theorem dS_lead (n : Nat) : ¬ (bt (dS n) 0 = 48 /\ 1 < (dS n).size) := by
 rintro ⟨h1, h2⟩
 rw [dS_size] at h2
 have h0 := dS_bt (n := n) (j := 0) (by omega)
 have h1' : bt (dS n) ((0 : Nat) : Int) = 48 := h1
 rw [h1'] at h0
 by_cases hn : n = 0
 ·subst hn; rw [Lib.nDigits_small (by decide)] at h2; omega
 ·obtain ⟨t, ht⟩ : ∃ t, Lib.nDigits n = t + 1 := ⟨Lib.nDigits n - 1, by omega⟩
  rw [ht] at h0
  have h3 := (nD_gt t n (by omega)).1 (by omega)
  have h4 : ¬ 10 ^ (t + 1) <= n := fun k => by have := (nD_gt (t + 1) n (by omega)).2 k; omega
  have h5 : n / 10 ^ t < 10 := by
   rw [Nat.div_lt_iff_lt_mul (Nat.pow_pos (by decide)), Nat.mul_comm, <- Nat.pow_succ]; omega
  have h6 := (Nat.le_div_iff_mul_le (Nat.pow_pos (by decide : 0 < 10) : 0 < 10 ^ t) (x := 1) (y := n)).2 (by omega)
  rw [show t + 1 - 1 - 0 = t by omega, Nat.mod_eq_of_lt h5] at h0
  omega
theorem dS_first (n : Nat) : bt (dS n) 0 ≠ 45 := by
 have h0 := Lib.nDigits_pos n
 have := dS_all n 0 (by rw [dS_size]; omega) (Nat.le_refl _)
 have e : bt (dS n) ((0 : Nat) : Int) = bt (dS n) 0 := rfl
 unfold isD at this
 omega
theorem sOf_dig (n : Int) : digS (sOf n) = dS n.natAbs /\ (bt (sOf n) 0 = 45 ↔ n < 0) := by
 by_cases h : n < 0
 ·have e := sOf_neg h
  have hb : bt (sOf n) 0 = 45 := by
   rw [<- e]
   show bt ((⟨#[45]⟩ : ByteArray) ++ dS n.natAbs) 0 = 45
   unfold bt
   simp
  refine ⟨?_, iff_of_true hb h⟩
  unfold digS
  rw [if_pos hb, <- e]
  apply ByteArray.ext
  apply Array.toList_inj.1
  rw [ext_list]
  simp [dS, ByteArray.size]
 ·have e := sOf_pos (n := n) (by omega)
  have hb : bt (sOf n) 0 ≠ 45 := by rw [e]; exact dS_first _
  refine ⟨?_, iff_of_false hb h⟩
  unfold digS
  rw [if_neg hb, e]
  rfl
theorem sOf_form (n : Int) : formP (sOf n) := by
 rw [form_dig, (sOf_dig n).1]
 exact ⟨by rw [dS_size]; exact Lib.nDigits_pos _, dS_lead _, dS_all _⟩
theorem sOf_z (n : Int) : zOf (sOf n) = n := by
 unfold zOf
 rw [(sOf_dig n).1, dS_size, numV_dec]
 split
 ·rename_i h
  have := (sOf_dig n).2.1 h
  omega
 ·rename_i h
  have := mt (sOf_dig n).2.2 h
  omega
end Go.Proofs.YtcgmpcbkndpmbaaGreatDoor

end
section
open Go Go.Proofs Go.Pw Go.RowKit
namespace Go.Proofs.YtcgmpcbkndpmbaaGreatDoor
set_option maxRecDepth 4000
set_option linter.unusedVariables false
set_option linter.unusedSimpArgs false
def Sfx (s : ByteArray) (i : Nat) (l : List UInt8) : Prop := s.data.toList.drop i = l /\ i <= s.size
theorem size_list (s : ByteArray) : s.data.toList.length = s.size := Array.length_toList
theorem Sfx.all (s : ByteArray) : Sfx s 0 s.data.toList := ⟨rfl, Nat.zero_le _⟩
section
variable {s : ByteArray} {i : Nat} {l : List UInt8} {c : UInt8}
theorem Sfx.len (h : Sfx s i l) : i + l.length = s.size := by
 have := congrArg List.length h.1
 rw [List.length_drop, size_list] at this
 have := h.2
 omega
theorem Sfx.app {a : List UInt8} (h : Sfx s i (a ++ l)) : Sfx s (i + a.length) l := by
 have hl := h.len
 rw [List.length_append] at hl
 refine ⟨?_, by omega⟩
 rw [<- List.drop_drop, h.1, List.drop_left]
theorem Sfx.next (h : Sfx s i (c :: l)) : Sfx s (i + 1) l := Sfx.app (a := [c]) h
theorem Sfx.lt (h : Sfx s i (c :: l)) : i < s.size := by have := h.len; rw [List.length_cons] at this; omega
theorem Sfx.getk (h : Sfx s i l) (k : Nat) : s.data.toList.getD (i + k) 0 = l.getD k 0 := by
 rw [List.getD_eq_getElem?_getD, List.getD_eq_getElem?_getD, <- h.1, List.getElem?_drop]
theorem Sfx.get (h : Sfx s i (c :: l)) : s.data.toList.getD i 0 = c := h.getk 0
theorem Sfx.has (h : Sfx s i (c :: l)) (w : List UInt8) : hasF s ⟨w.toArray⟩ i = w.contains c := by
 rw [hasF_mem, h.get, decide_eq_true h.lt, Bool.true_and]
theorem Sfx.has0 (h : Sfx s i []) (w : ByteArray) : hasF s w i = false := by
 cases e : hasF s w i with
 | false => rfl
 | true => have := hasF_lt e; have := h.len; simp at this; omega
theorem Sfx.ext {a : List UInt8} (h : Sfx s i (a ++ l)) : s.extract i (i + a.length) = ⟨a.toArray⟩ := by
 apply ByteArray.ext
 apply Array.ext'
 rw [ByteArray.data_extract, Array.toList_extract, List.extract_eq_take_drop, Nat.add_sub_cancel_left, h.1, List.take_left]
def stp (w : List UInt8) : List UInt8 -> Prop
 | [] => True
 | c :: _ => w.contains c = false
theorem Sfx.hasN (h : Sfx s i l) {w : List UInt8} (hs : stp w l) : hasF s ⟨w.toArray⟩ i = false := by
 cases l with
 | nil => exact h.has0 _
 | cons c r => rw [h.has]; exact hs
theorem Sfx.pass {w : List UInt8} (hs : stp w l) : ∀ {bl : List UInt8} {i : Nat}, Sfx s i (bl ++ l) -> (∀ c ∈ bl, w.contains c = true) -> passF s ⟨w.toArray⟩ i = i + bl.length
 | [], i, h, hb => passF_f (h.hasN hs)
 | b :: r, i, h, hb => by
  rw [passF_t (by rw [Sfx.has (c := b) (l := r ++ l) h]; exact hb b (by simp)), Sfx.pass hs (bl := r) (Sfx.next h) (fun c hc => hb c (by simp [hc])), List.length_cons]
  omega
end
abbrev blL : List UInt8 := [32, 9, 10, 13]
abbrev mkL : List UInt8 := [123, 125, 91, 93, 58, 44]
abbrev nuL : List UInt8 := [45, 48, 49, 50, 51, 52, 53, 54, 55, 56, 57]
abbrev dgL : List UInt8 := [48, 49, 50, 51, 52, 53, 54, 55, 56, 57]
def Bl (bl : List UInt8) : Prop := ∀ c ∈ bl, blL.contains c = true
theorem Bl.nil : Bl [] := fun c h => by cases h
theorem Bl.app {a b : List UInt8} (h : Bl a) (k : Bl b) : Bl (a ++ b) := fun c hc => by
 rcases List.mem_append.1 hc with hc | hc
 ·exact h c hc
 ·exact k c hc
section
variable {s : ByteArray} {i : Nat} {l bl : List UInt8} {c : UInt8}
theorem nx_end (h : Sfx s i bl) (hb : Bl bl) : nextF s i = (0, 0, ⟨0, ByteArray.empty, 0, s.size, s.size⟩, s.size) := by
 have hp : passF s blS i = s.size := by
  have h' : Sfx s i (bl ++ []) := by rw [List.append_nil]; exact h
  rw [<- h.len]
  exact Sfx.pass (w := blL) (l := []) trivial h' hb
 unfold nextF
 rw [hp, if_pos rfl]
theorem nx_mark (h : Sfx s i (bl ++ c :: l)) (hb : Bl bl) (hc : mkL.contains c = true) : nextF s i = (0, 0, ⟨1, ⟨#[c]⟩, 0, i + bl.length, i + bl.length + 1⟩, i + bl.length + 1) := by
 have hn : ∀ c : Fin 256, mkL.contains c.1.toUInt8 = true -> blL.contains c.1.toUInt8 = false := by decide +kernel
 have hp : passF s blS i = i + bl.length := Sfx.pass (w := blL) (l := c :: l) (show blL.contains c = false by
  have := hn ⟨c.toNat, UInt8.toNat_lt _⟩
  simp only [show c.toNat.toUInt8 = c from UInt8.ofNat_toNat] at this
  exact this hc) h hb
 have h2 := h.app
 unfold nextF
 rw [hp, if_neg (by have := h2.lt; omega), if_pos (show hasF s ⟨mkL.toArray⟩ _ = true by rw [h2.has]; exact hc)]
 have := Sfx.ext (a := [c]) h2
 simp only [List.length_cons, List.length_nil] at this
 rw [this]
 rfl
theorem nx_text (h : Sfx s i (bl ++ 34 :: l)) (hb : Bl bl) {t : ByteArray} {q : Nat} (ht : txtT s (i + bl.length) = (0, t, q)) : nextF s i = (0, 0, ⟨2, t, 0, i + bl.length, q⟩, q) := by
 have hp : passF s blS i = i + bl.length := Sfx.pass (w := blL) (l := 34 :: l) (show blL.contains 34 = false by decide) h hb
 have h2 := h.app
 unfold nextF
 rw [hp, if_neg (by have := h2.lt; omega), if_neg (show ¬ hasF s ⟨mkL.toArray⟩ _ = true by rw [h2.has]; decide), if_pos (show hasF s ⟨[34].toArray⟩ _ = true by rw [h2.has]; decide), ht]
 rfl
theorem nx_num (h : Sfx s i (bl ++ c :: l)) (hb : Bl bl) (hc : nuL.contains c = true) {n : Int} {q : Nat} (ht : numF s (i + bl.length) = (0, n, q)) : nextF s i = (0, 0, ⟨3, ByteArray.empty, n, i + bl.length, q⟩, q) := by
 have hn : ∀ c : Fin 256, nuL.contains c.1.toUInt8 = true -> blL.contains c.1.toUInt8 = false /\ mkL.contains c.1.toUInt8 = false /\ [34].contains c.1.toUInt8 = false := by decide +kernel
 have hn' := hn ⟨c.toNat, UInt8.toNat_lt _⟩
 simp only [show c.toNat.toUInt8 = c from UInt8.ofNat_toNat] at hn'
 replace hn' := hn' hc
 have hp : passF s blS i = i + bl.length := Sfx.pass (w := blL) (l := c :: l) hn'.1 h hb
 have h2 := h.app
 unfold nextF
 rw [hp, if_neg (by have := h2.lt; omega), if_neg (show ¬ hasF s ⟨mkL.toArray⟩ _ = true by rw [h2.has, hn'.2.1]; decide), if_neg (show ¬ hasF s ⟨[34].toArray⟩ _ = true by rw [h2.has, hn'.2.2]; decide), if_pos (show hasF s ⟨nuL.toArray⟩ _ = true by rw [h2.has]; exact hc), ht]
 rfl
end
section
variable {s : ByteArray} {i : Nat} {l bl : List UInt8}
theorem numF_at {t : ByteArray} (h : Sfx s i (t.data.toList ++ l)) (hf : formP t) (hz : fits (zOf t)) (hl : stp (dgL ++ [46, 101, 69]) l) : numF s i = (0, zOf t, i + t.size) := by
 obtain ⟨f1, f2, f3⟩ := hf
 have hsl := size_list t
 have hs := h.app
 rw [hsl] at hs
 have hlen := h.len
 rw [List.length_append, hsl] at hlen
 have bk : ∀ k, k < t.size -> bt s ((i + k : Nat) : Int) = bt t (k : Nat) := fun k hk => by
  unfold Go.Pw.bt
  rw [Int.toNat_natCast, Int.toNat_natCast, h.getk]
  rw [List.getD_eq_getElem?_getD, List.getD_eq_getElem?_getD, List.getElem?_append_left (by omega)]
 have st1 : stp dgL l := by
  cases l with
  | nil => trivial
  | cons c r => simp only [stp, List.contains_append, Bool.or_eq_false_iff] at hl ⊢; exact hl.1
 have st2 : ∀ w : List UInt8, (∀ c ∈ w, ([46, 101, 69] : List UInt8).contains c = true) -> stp w l := fun w hw => by
  cases l with
  | nil => trivial
  | cons c r =>
   simp only [stp, List.contains_append, Bool.or_eq_false_iff] at hl ⊢
   cases e : w.contains c with
   | false => rfl
   | true => rw [hw c (by simpa using e)] at hl; exact absurd hl.2 (by decide)
 have hA : oneP s mnS i = i + fromF t := by
  unfold oneP fromF
  rw [<- isB_mn]
  unfold isB
  rw [decide_eq_true (show i < s.size by omega), Bool.true_and, show (i : Int) = ((i + 0 : Nat) : Int) from rfl, bk 0 (by omega)]
  by_cases e : bt t (0 : Nat) = 45
  ·rw [if_pos (decide_eq_true e), if_pos ⟨by omega, e⟩]
  ·rw [if_neg (fun h => e (of_decide_eq_true h)), if_neg (fun h => e h.2)]; rfl
 have hI : numI s (i + fromF t) = (true, i + t.size) := by
  unfold numI
  rw [<- isB_zr]
  unfold isB
  rw [decide_eq_true (show i + fromF t < s.size by omega), Bool.true_and, bk _ f1]
  by_cases e : bt t (fromF t : Nat) = 48
  ·rw [if_pos (decide_eq_true e)]
   have : ¬ fromF t + 1 < t.size := fun h => f2 ⟨e, h⟩
   congr 1
   omega
  ·rw [if_neg (fun h => e (of_decide_eq_true h))]
   have hd : Sfx s (i + fromF t) (t.data.toList.drop (fromF t) ++ l) := by
    refine ⟨?_, by omega⟩
    rw [<- List.drop_drop, h.1, List.drop_append_of_le_length (by omega)]
   have hp := Sfx.pass (w := dgL) st1 hd (fun c hc => by
    obtain ⟨j, hj, rfl⟩ := List.mem_iff_getElem.1 hc
    rw [List.length_drop] at hj
    have := f3 (fromF t + j) (by omega) (by omega)
    have hb : bt t ((fromF t + j : Nat) : Int) = ((t.data.toList.drop (fromF t))[j]).toNat := by
     unfold Go.Pw.bt
     rw [Int.toNat_natCast, List.getElem_drop, List.getD_eq_getElem?_getD, List.getElem?_eq_getElem (by omega)]
     rfl
    rw [hb] at this
    generalize (t.data.toList.drop (fromF t))[j] = c at *
    have f : ∀ c : Fin 256, dgL.contains c.1.toUInt8 = decide (48 <= (c.1 : Int) /\ (c.1 : Int) <= 57) := by decide +kernel
    have h2 := f ⟨c.toNat, UInt8.toNat_lt _⟩
    simp only [show c.toNat.toUInt8 = c from UInt8.ofNat_toNat] at h2
    rw [h2]
    exact decide_eq_true this)
   rw [show (⟨dgL.toArray⟩ : ByteArray) = dgS from rfl] at hp
   rw [hp, List.length_drop, hsl, decide_eq_false (by omega)]
   congr 1
   omega
 unfold numF
 rw [hA, hI]
 unfold numY
 rw [if_pos rfl]
 have hD : numD s (i + t.size) = (true, i + t.size) := by
  unfold numD
  rw [if_neg (show ¬ hasF s ⟨[46].toArray⟩ _ = true by rw [hs.hasN (st2 [46] (by decide))]; decide)]
 have hE : numE s (i + t.size) = (true, i + t.size) := by
  unfold numE
  rw [if_neg (show ¬ hasF s ⟨[101, 69].toArray⟩ _ = true by rw [hs.hasN (st2 [101, 69] (by decide))]; decide)]
 unfold numX
 simp only [hD, hE, if_true]
 unfold numT
 have hx := Sfx.ext h
 rw [hsl] at hx
 have hx2 : s.extract i (i + t.size) = t := hx
 rw [hx2, if_pos ⟨pC_0 ⟨f1, f2, f3⟩ hz, rfl⟩, pV_0 (pC_0 ⟨f1, f2, f3⟩ hz)]
end
end Go.Proofs.YtcgmpcbkndpmbaaGreatDoor

end
section
open Go Go.Proofs Go.Pw Go.RowKit
namespace Go.Proofs.YtcgmpcbkndpmbaaGreatDoor
set_option maxRecDepth 4000
set_option linter.unusedVariables false
set_option linter.unusedSimpArgs false
def Tok1 (s : ByteArray) (i : Nat) (t : Tk) (q : Nat) : Prop := nextF s i = (0, 0, t, q)
def mkT (c : UInt8) (a : Nat) : Tk := ⟨1, ⟨#[c]⟩, 0, a, a + 1⟩
section
variable {s : ByteArray} {i q a : Nat} {t : Tk} {c : UInt8}
theorem Tok1.te (h : Tok1 s i t q) : nE s i = 0 := by unfold nE; rw [h]
theorem Tok1.tt (h : Tok1 s i t q) : nT s i = t := by unfold nT; rw [h]
theorem Tok1.tq (h : Tok1 s i t q) : nQ s i = q := by unfold nQ; rw [h]
theorem sign_mk (c d : UInt8) (a : Nat) : (mkT c a).sign d = decide (c = d) := by
 unfold Tk.sign mkT
 simp
theorem rV_leaf {k : Nat} {v : V} (h : Tok1 s i t q) (hv : rLeaf t = some v) : rV s k i = .good v q := by
 cases k <;> (rw [rV]; unfold rVh; rw [if_neg (by rw [h.te]; decide), h.tt, h.tq, hv])
theorem rLeaf_mk (c : UInt8) (a : Nat) : rLeaf (mkT c a) = none := by
 unfold rLeaf mkT
 simp
theorem rV_arr {k : Nat} (h : Tok1 s i (mkT 91 a) q) : rV s (k + 1) i = rArr s (rV s k) q := by
 rw [rV]; unfold rVh
 rw [if_neg (by rw [h.te]; decide), h.tt, rLeaf_mk]
 simp only
 rw [if_neg (by rw [sign_mk, sign_mk]; decide), if_pos (by rw [sign_mk]; decide), h.tq]
theorem rV_obj {k : Nat} (h : Tok1 s i (mkT 123 a) q) : rV s (k + 1) i = rObj s (rV s k) q := by
 rw [rV]; unfold rVh
 rw [if_neg (by rw [h.te]; decide), h.tt, rLeaf_mk]
 simp only
 rw [if_neg (by rw [sign_mk, sign_mk]; decide), if_neg (by rw [sign_mk]; decide), h.tq]
variable {f : Nat -> An}
theorem rArr_nil (h : Tok1 s i (mkT 93 a) q) : rArr s f i = .good (.mk 4 false 0 ByteArray.empty [] []) q := by
 unfold rArr
 rw [if_neg (by rw [h.te]; decide), h.tt, if_pos (by rw [sign_mk]; decide), h.tq]
theorem rObj_some (h : Tok1 s i t q) (ht : t.sign 125 = false) : rObj s f i = rMems s f (s.size + 1) i [] [] := by
 unfold rObj
 rw [if_neg (by rw [h.te]; decide), h.tt, if_neg (by rw [ht]; decide)]
theorem rMems_key {n q1 q2 a1 a2 : Nat} {ks : List ByteArray} {l : List V} {k : ByteArray} (h1 : Tok1 s i ⟨2, k, 0, a1, q1⟩ q1) (hk : k ∉ ks) (h2 : Tok1 s q1 (mkT 58 a2) q2) :
  rMems s f (n + 1) i ks l = if (f q2).code ≠ 0 then .bad (f q2).code (f q2).place else if nE s (f q2).at_ ≠ 0 then .bad (nE s (f q2).at_) (nP s (f q2).at_) else
   if (nT s (f q2).at_).sign 125 = true then .good (objV (ks ++ [k]) (l ++ [(f q2).v])) (nQ s (f q2).at_) else
   if (nT s (f q2).at_).sign 44 = true then rMems s f n (nQ s (f q2).at_) (ks ++ [k]) (l ++ [(f q2).v]) else .bad 1 (nT s (f q2).at_).at_ := by
 rw [rMems, if_neg (by rw [h1.te]; decide), h1.tt, h1.tq]
 rw [if_neg (fun h => h rfl), if_neg (fun h => hk (any_mem.1 h)), if_neg (by rw [h2.te]; decide), h2.tt, h2.tq, if_neg (by rw [sign_mk]; decide)]
theorem rMems_last {n q1 q2 q3 a1 a2 : Nat} {ks : List ByteArray} {l : List V} {k : ByteArray} {v : V} (h1 : Tok1 s i ⟨2, k, 0, a1, q1⟩ q1) (hk : k ∉ ks) (h2 : Tok1 s q1 (mkT 58 a2) q2) (hf : f q2 = .good v q3) (h3 : Tok1 s q3 (mkT 125 a) q) : rMems s f (n + 1) i ks l = .good (objV (ks ++ [k]) (l ++ [v])) q := by
 rw [rMems_key h1 hk h2, hf, if_neg (show ¬ (An.good v q3).code ≠ 0 from fun h => h rfl)]
 show (if nE s q3 ≠ 0 then _ else if (nT s q3).sign 125 = true then An.good _ (nQ s q3) else _) = _
 rw [if_neg (by rw [h3.te]; decide), h3.tt, if_pos (by rw [sign_mk]; decide), h3.tq]
 rfl
theorem rMems_more {n q1 q2 q3 a1 a2 : Nat} {ks : List ByteArray} {l : List V} {k : ByteArray} {v : V} (h1 : Tok1 s i ⟨2, k, 0, a1, q1⟩ q1) (hk : k ∉ ks) (h2 : Tok1 s q1 (mkT 58 a2) q2) (hf : f q2 = .good v q3) (h3 : Tok1 s q3 (mkT 44 a) q) : rMems s f (n + 1) i ks l = rMems s f n q (ks ++ [k]) (l ++ [v]) := by
 rw [rMems_key h1 hk h2, hf, if_neg (show ¬ (An.good v q3).code ≠ 0 from fun h => h rfl)]
 show (if nE s q3 ≠ 0 then _ else if (nT s q3).sign 125 = true then _ else if (nT s q3).sign 44 = true then rMems s f n (nQ s q3) _ _ else _) = _
 rw [if_neg (by rw [h3.te]; decide), h3.tt, if_neg (by rw [sign_mk]; decide), if_pos (by rw [sign_mk]; decide), h3.tq]
 rfl
theorem tok_mark {l bl : List UInt8} (h : Sfx s i (bl ++ c :: l)) (hb : Bl bl) (hc : mkL.contains c = true) : Tok1 s i (mkT c (i + bl.length)) (i + bl.length + 1) := nx_mark h hb hc
end
abbrev exS : ByteArray := ⟨#[123, 34, 98, 34, 58, 32, 49, 44, 32, 34, 97, 34, 58, 32, 91, 93, 125]⟩
abbrev exV : V := .mk 5 false 0 ByteArray.empty [.mk 4 false 0 ByteArray.empty [] [], .mk 2 false 1 ByteArray.empty [] []] [⟨#[97]⟩, ⟨#[98]⟩]
theorem Bl.one : Bl [32] := fun c h => by rw [List.mem_singleton] at h; subst h; decide
theorem exV_obj : objV [⟨#[98]⟩, ⟨#[97]⟩] [.mk 2 false 1 ByteArray.empty [] [], .mk 4 false 0 ByteArray.empty [] []] = exV := by
 unfold objV
 have : putAll [] [] [⟨#[98]⟩, ⟨#[97]⟩] [.mk 2 false 1 ByteArray.empty [] [], .mk 4 false 0 ByteArray.empty [] []] = some ([⟨#[97]⟩, ⟨#[98]⟩], [.mk 4 false 0 ByteArray.empty [] [], .mk 2 false 1 ByteArray.empty [] []]) := by
  have p1 : posT [] ⟨#[98]⟩ = 0 := by decide +kernel
  have p2 : posT [⟨#[98]⟩] ⟨#[97]⟩ = 0 := by decide +kernel
  rw [putAll, if_neg (by decide +kernel), p1]
  show putAll [⟨#[98]⟩] [.mk 2 false 1 ByteArray.empty [] []] [⟨#[97]⟩] [.mk 4 false 0 ByteArray.empty [] []] = _
  rw [putAll, if_neg (by decide +kernel), p2, putAll.eq_2 _ _ _ _ (fun _ _ _ _ h => by cases h)]
  rfl
 rw [this]
theorem sOf_1' : sOf 1 = ⟨#[49]⟩ := by
 rw [sOf_pos (by decide), decD_pad, show (1 : Int).natAbs = 1 from rfl, Lib.nDigits_small (by decide)]
 rfl
theorem ex_num : numF exS 6 = (0, 1, 7) := by
 have h : Sfx exS 6 ((⟨#[49]⟩ : ByteArray).data.toList ++ [44, 32, 34, 97, 34, 58, 32, 91, 93, 125]) := ⟨rfl, by decide⟩
 have := numF_at h (by rw [<- sOf_1']; exact sOf_form 1) (by rw [<- sOf_1', sOf_z]; unfold fits; decide) (by unfold stp; decide)
 rw [this, <- sOf_1', sOf_z, sOf_1']
 rfl
theorem ex_val : rV exS 2 0 = .good exV 17 := by
 have t0 : Tok1 exS 0 (mkT 123 0) 1 := tok_mark (bl := []) (l := [34, 98, 34, 58, 32, 49, 44, 32, 34, 97, 34, 58, 32, 91, 93, 125]) ⟨rfl, by decide⟩ Bl.nil (by decide)
 have t1 : Tok1 exS 1 ⟨2, ⟨#[98]⟩, 0, 1, 4⟩ 4 := nx_text (bl := []) (l := [98, 34, 58, 32, 49, 44, 32, 34, 97, 34, 58, 32, 91, 93, 125]) ⟨rfl, by decide⟩ Bl.nil (by decide +kernel)
 have t4 : Tok1 exS 4 (mkT 58 4) 5 := tok_mark (bl := []) (l := [32, 49, 44, 32, 34, 97, 34, 58, 32, 91, 93, 125]) ⟨rfl, by decide⟩ Bl.nil (by decide)
 have t5 : Tok1 exS 5 ⟨3, ByteArray.empty, 1, 6, 7⟩ 7 := nx_num (bl := [32]) (c := 49) (l := [44, 32, 34, 97, 34, 58, 32, 91, 93, 125]) ⟨rfl, by decide⟩ Bl.one (by decide) ex_num
 have t7 : Tok1 exS 7 (mkT 44 7) 8 := tok_mark (bl := []) (l := [32, 34, 97, 34, 58, 32, 91, 93, 125]) ⟨rfl, by decide⟩ Bl.nil (by decide)
 have t8 : Tok1 exS 8 ⟨2, ⟨#[97]⟩, 0, 9, 12⟩ 12 := nx_text (bl := [32]) (l := [97, 34, 58, 32, 91, 93, 125]) ⟨rfl, by decide⟩ Bl.one (by decide +kernel)
 have t12 : Tok1 exS 12 (mkT 58 12) 13 := tok_mark (bl := []) (l := [32, 91, 93, 125]) ⟨rfl, by decide⟩ Bl.nil (by decide)
 have t13 : Tok1 exS 13 (mkT 91 14) 15 := tok_mark (bl := [32]) (l := [93, 125]) ⟨rfl, by decide⟩ Bl.one (by decide)
 have t15 : Tok1 exS 15 (mkT 93 15) 16 := tok_mark (bl := []) (l := [125]) ⟨rfl, by decide⟩ Bl.nil (by decide)
 have t16 : Tok1 exS 16 (mkT 125 16) 17 := tok_mark (bl := []) (l := []) ⟨rfl, by decide⟩ Bl.nil (by decide)
 have v5 : rV exS 1 5 = .good (.mk 2 false 1 ByteArray.empty [] []) 7 := rV_leaf t5 rfl
 have v13 : rV exS 1 13 = .good (.mk 4 false 0 ByteArray.empty [] []) 16 := by rw [rV_arr t13, rArr_nil t15]
 rw [rV_obj t0, rObj_some t1 rfl, rMems_more t1 (by simp) t4 v5 t7, show exS.size = 16 + 1 from rfl, rMems_last t8 (by intro h; rw [List.nil_append, List.mem_singleton] at h; exact absurd h (by decide)) t12 v13 t16]
 show An.good (objV [⟨#[98]⟩, ⟨#[97]⟩] [.mk 2 false 1 ByteArray.empty [] [], .mk 4 false 0 ByteArray.empty [] []]) 17 = _
 rw [exV_obj]
theorem ex_end : Tok1 exS 17 ⟨0, ByteArray.empty, 0, 17, 17⟩ 17 := nx_end (bl := []) (s := exS) ⟨rfl, by decide⟩ Bl.nil
end Go.Proofs.YtcgmpcbkndpmbaaGreatDoor

end
section
open Go Go.Proofs Go.Pw Go.RowKit
namespace Go.Proofs.YtcgmpcbkndpmbaaGreatDoor
set_option maxRecDepth 4000
set_option linter.unusedVariables false
set_option linter.unusedSimpArgs false
attribute [local go_sem] Bool.not_false Bool.not_true Int.toNat_natCast Int.toNat_one Int.toNat_zero Nat.le_refl Tryz.results19 Tryz.results7 Tryz.results8 str_eq
theorem parseR_eq (A : An) : ∃ p : Int, parseR A = .tup [.agg (cellsV A.v), vI p, vI A.code] := ⟨_, rfl⟩
set_option maxHeartbeats 4000000 in
theorem fits_ok (s : ByteArray) (hs : s.size <= 140737488351232) (d : Int) (hd : -9223372036854775808 <= d /\ d <= 9223372036854775807) : Ok Tryz.prog 19 [vS s, vI d] (vB (decide ((parseA s d).code = 0))) := by
 have c := parse_ok6 s hs d hd
 generalize parseA s d = A at *
 obtain ⟨p, hp⟩ := parseR_eq A
 rw [hp] at c
 generalize A.code = e at *
 simp only [cellsV] at c
 refine Ok.of_pwp (by kernel_rfl) Tryz.func19 rfl (by kernel_rfl) (by kernel_rfl) ?_
 simp (implicitDefEqProofs := false) (disch := omega) only [go_sem, simprocAttr, cellsV, decide_true, beq_self_eq_true]
 with_reducible refine CallOk.of c rfl ?_
 simp (implicitDefEqProofs := false) (disch := omega) only [go_sem, simprocAttr, cellsV, decide_true, beq_self_eq_true]
theorem ex_parse : parseA exS 2 = .good exV 0 := by
 unfold parseA
 rw [if_neg (by decide), if_neg (by decide), show Int.toNat 2 = 2 from rfl, ex_val]
 rw [if_neg (show ¬ (An.good exV 17).code ≠ 0 from fun h => h rfl)]
 show (if nE exS 17 ≠ 0 then _ else if (nT exS 17).kind ≠ 0 then _ else An.good exV 0) = _
 rw [if_neg (by rw [ex_end.te]; decide), ex_end.tt, if_neg (by decide)]
set_option maxHeartbeats 4000000 in
theorem awake6_ok : Ok Tryz.prog 8 [] (vB true) := by
 have c := parse_ok6 exS (by decide) 2 (by decide)
 rw [ex_parse] at c
 have e : parseR (.good exV 0) = .tup [.agg (cellsV exV), vI 0, vI 0] := rfl
 rw [e] at c
 simp only [vZero, encT, encV_cons, encV_nil, encT_nil, List.map_cons, List.map_nil, V.kind_mk, V.b_mk, V.n_mk, V.s_mk, V.items_mk, V.keys_mk, cellsV] at c
 refine Ok.of_pwp (by kernel_rfl) Tryz.func8 rfl (by kernel_rfl) (by kernel_rfl) ?_
 simp (implicitDefEqProofs := false) (disch := omega) only [go_sem, simprocAttr, cellsV, decide_true, beq_self_eq_true, encV_nil, encT_nil, List.getD_cons_zero, List.getD_cons_succ]
 with_reducible refine CallOk.of c rfl ?_
 simp (implicitDefEqProofs := false) (disch := omega) only [go_sem, simprocAttr, cellsV, decide_true, beq_self_eq_true, encV_nil, encT_nil, List.getD_cons_zero, List.getD_cons_succ]
theorem parseA_sz (s : ByteArray) (d : Int) (hs : s.size <= 20000) : szV (parseA s d).v <= 100001 := by
 have z : szV vZero <= 100001 := by decide
 unfold parseA
 split
 ·exact z
 split
 ·exact z
 split
 ·exact z
 rename_i h
 have := rV_ok s d.toNat 0 (Nat.zero_le _) (by omega)
 split
 ·exact z
 split
 ·exact z
 ·show szV (rV s d.toNat 0).v <= 100001
  omega
theorem parseA_good (s : ByteArray) (d : Int) (h0 : (parseA s d).code = 0) : GD (parseA s d).v := by
 unfold parseA at h0 ⊢
 split at h0
 ·exact absurd h0 (show ¬ (8 : Int) = 0 by decide)
 rename_i h1
 rw [if_neg h1]
 split at h0
 ·exact absurd h0 (show ¬ (7 : Int) = 0 by decide)
 rename_i h2
 rw [if_neg h2]
 split at h0
 ·rename_i h; exact absurd h0 h
 rename_i h3
 rw [if_neg h3]
 have := rV_good s (numF_fit s) d.toNat 0 (by omega)
 split at h0
 ·rename_i h; exact absurd h0 h
 rename_i h4
 rw [if_neg h4]
 split at h0
 ·exact absurd h0 (show ¬ (1 : Int) = 0 by decide)
 rename_i h5
 rw [if_neg h5]
 exact this
set_option maxHeartbeats 16000000 in
theorem parses_ok (s : ByteArray) (d : Int) (hs : s.size <= 140737488351232) (hd : -9223372036854775808 <= d /\ d <= 9223372036854775807) : Ok Tryz.prog 7 [vS s, vI d] (vB true) := by
 refine Ok.of_pwp (by kernel_rfl) Tryz.func7 rfl (by kernel_rfl) (by kernel_rfl) ?_
 simp (implicitDefEqProofs := false) (disch := omega) only [go_sem, simprocAttr, cellsV, decide_true, beq_self_eq_true, encV_nil, encT_nil]
 with_reducible refine CallOk.of awake6_ok rfl ?_
 by_cases h1 : s.size <= 500
 rotate_left
 ·simp (implicitDefEqProofs := false) (disch := omega) only [go_sem, simprocAttr, cellsV, decide_true, beq_self_eq_true, encV_nil, encT_nil, decide_eq_true (show (500 : Int) < (s.size : Int) by omega)]
  with_reducible refine CallOk.of awake6_ok rfl ?_
  simp (implicitDefEqProofs := false) (disch := omega) only [go_sem, simprocAttr, cellsV, decide_true, beq_self_eq_true, encV_nil, encT_nil]
 have c1 := parse_ok6 s hs d hd
 have c2 := rparse_ok6 s (by omega) d hd
 have c3 := fits_ok s hs d hd
 have hz := parseA_sz s d (by omega)
 have hg := parseA_good s d
 generalize parseA s d = A at *
 obtain ⟨p, hp⟩ := parseR_eq A
 rw [hp] at c1 c2
 have c4 := ref_ok A.v (by omega)
 have c5 := same_ok A.v (by omega) A.v (by omega)
 have c6 := good_ok A.v (by omega)
 rw [sameV_T rfl] at c5
 simp only [cellsV] at c1 c2 c4 c5 c6
 simp (implicitDefEqProofs := false) (disch := omega) only [go_sem, simprocAttr, cellsV, decide_true, beq_self_eq_true, encV_nil, encT_nil, decide_eq_false (show ¬ (500 : Int) < (s.size : Int) by omega)]
 with_reducible refine CallOk.of c1 rfl ?_
 simp (implicitDefEqProofs := false) (disch := omega) only [go_sem, simprocAttr, cellsV, decide_true, beq_self_eq_true, encV_nil, encT_nil]
 with_reducible refine CallOk.of c2 rfl ?_
 by_cases h0 : A.code = 0
 ·rw [(hg h0).1] at c6
  rw [h0] at c3 ⊢
  simp (implicitDefEqProofs := false) (disch := omega) only [go_sem, simprocAttr, cellsV, decide_true, beq_self_eq_true, encV_nil, encT_nil]
  with_reducible refine CallOk.of c4 rfl ?_
  simp (implicitDefEqProofs := false) (disch := omega) only [go_sem, simprocAttr, cellsV, decide_true, beq_self_eq_true, encV_nil, encT_nil]
  with_reducible refine CallOk.of c5 rfl ?_
  simp (implicitDefEqProofs := false) (disch := omega) only [go_sem, simprocAttr, cellsV, decide_true, beq_self_eq_true, encV_nil, encT_nil]
  with_reducible refine CallOk.of c3 rfl ?_
  simp (implicitDefEqProofs := false) (disch := omega) only [go_sem, simprocAttr, cellsV, decide_true, beq_self_eq_true, encV_nil, encT_nil]
  with_reducible refine CallOk.of c6 rfl ?_
  simp (implicitDefEqProofs := false) (disch := omega) only [go_sem, simprocAttr, cellsV, decide_true, beq_self_eq_true, encV_nil, encT_nil]
 ·rw [decide_eq_false h0] at c3
  generalize A.code = e at *
  simp (implicitDefEqProofs := false) (disch := omega) only [go_sem, simprocAttr, cellsV, decide_true, beq_self_eq_true, encV_nil, encT_nil]
  with_reducible refine CallOk.of c4 rfl ?_
  simp (implicitDefEqProofs := false) (disch := omega) only [go_sem, simprocAttr, cellsV, decide_true, beq_self_eq_true, encV_nil, encT_nil]
  with_reducible refine CallOk.of c5 rfl ?_
  simp (implicitDefEqProofs := false) (disch := omega) only [go_sem, simprocAttr, cellsV, decide_true, beq_self_eq_true, encV_nil, encT_nil]
  with_reducible refine CallOk.of c3 rfl ?_
  simp (implicitDefEqProofs := false) (disch := omega) only [go_sem, simprocAttr, cellsV, decide_true, beq_self_eq_true, encV_nil, encT_nil, decide_eq_false h0]
end Go.Proofs.YtcgmpcbkndpmbaaGreatDoor

end
