/-
  Contracts and plain laws on the way to the statement; each says its own conditions.
-/
import Derived.Test.YtcgmpcbkndpmbaaGreatDoorGP10
import Derived.Test.YtcgmpcbkndpmbaaGreatDoorGP8
import Derived.Test.YtcgmpcbkndpmbaaGreatDoorGP12
import Derived.Test.YtcgmpcbkndpmbaaGreatDoorGP14
import Derived.Test.YtcgmpcbkndpmbaaGreatDoorGP13
section
open Go Go.Proofs Go.Pw Go.RowKit
namespace Go.Proofs.YtcgmpcbkndpmbaaGreatDoor
set_option maxRecDepth 4000
set_option linter.unusedVariables false
set_option linter.unusedSimpArgs false
set_option maxHeartbeats 32000000 in
theorem rd_deep (s : ByteArray) (D m : Int) (hm : D <= m) (i : Nat) (t : Tk) (place code : Int) : VOk 49 s D m ⟨t, i, place, code⟩ (fin s (.bad 6 t.at_)) := by
 have cf := rd_fail s D ⟨t, i, place, code⟩ t.at_ 6
 refine OkI.of_pwpF (by kernel_rfl) Tryz.func49 rfl (by kernel_rfl) (by kernel_rfl) (bar := bar2 21 100 noBar) ?_
 simp (implicitDefEqProofs := false) (disch := omega) only [go_sem, simprocAttr, Nat.le_refl, Tk.cells, str_eq, str_one, Tryz.results49, decide_eq_true hm, dropH, inL]
 refine CallOk.ofI (cf.at (st := ⟨[], _, _, _, _⟩) 0 1 (by decide) (by simp) (by simp) rfl (fun _ _ => rfl) (by rfl) (by rfl)) rfl rfl rfl rfl ?_
 rintro r1 st' ⟨_, _, rfl, nt9, q9, rfl⟩
 simp only at q9
 simp (implicitDefEqProofs := false) (disch := omega) only [go_sem, simprocAttr, Nat.le_refl, Tk.cells, str_eq, str_one, Tryz.results49, dropH, inL]
 refine ⟨⟨[], rdH s D ⟨t, i, t.at_, 6⟩, [], 2, 0⟩, ⟨(vZero, false, ⟨t, i, t.at_, 6⟩), ?_, rfl, rfl, rfl, rfl⟩, ?_⟩
 ·exact vp_bad (by decide) rfl rfl vZero_sz
 constructor <;> simp only [go_sem, simprocAttr, decide_eq_true_eq, vZero, cellsV] <;> try ((repeat' apply And.intro) <;> first | rfl | omega | (congr 3; omega) | (congr 2; omega))
end Go.Proofs.YtcgmpcbkndpmbaaGreatDoor

end
section
open Go Go.Proofs Go.Pw Go.RowKit
namespace Go.Proofs.YtcgmpcbkndpmbaaGreatDoor
set_option maxRecDepth 4000
set_option linter.unusedVariables false
set_option linter.unusedSimpArgs false
theorem rd_all (s : ByteArray) (hs : s.size <= 20000) (D : Int) (hD0 : 0 <= D) (hD : D < 9223372036854775808) : ∀ (k : Nat) (m : Int), 0 <= m -> m + k = D -> ∀ p, p <= s.size -> nE s p = 0 -> ∀ pl co, VOk 29 s D m ⟨nT s p, nQ s p, pl, co⟩ (fin s (rV s k p))
 | 0, m, h0, hk, p, hp, h1, pl, co => by
  rw [rV]
  exact rd_value s hs D m p hp h1 _ _ rfl rfl pl co _ (fun _ => rd_deep s D m (by omega) _ _ pl co)
 | k + 1, m, h0, hk, p, hp, h1, pl, co => by
  have ih := rd_all s hs D hD0 hD k (m + 1) (by omega) (by omega)
  rw [rV]
  refine rd_value s hs D m p hp h1 _ _ rfl rfl pl co _ (fun h => ?_)
  by_cases h91 : (nT s p).sign 91 = true
  ·rw [if_pos h91]
   have h123 : (nT s p).sign 123 = false := by
    cases h2 : (nT s p).sign 123 with
    | false => rfl
    | true => exact absurd ((sign_text h91).symm.trans (sign_text h2)) (by decide)
   exact rd_arr s hs D m (by omega) h0 hD p hp h1 _ _ rfl rfl pl co h123 (rV s k) (fun q hq hn => ih q hq hn) (rV_ok s k) (fun q => rV_err) (rArr_ok (rV_ok s k) hp h1 (sign_kind h91))
  ·rw [if_neg h91]
   have h123 : (nT s p).sign 123 = true := h.resolve_left h91
   exact rd_obj s hs D m (by omega) h0 hD p hp h1 _ _ rfl rfl pl co h123 (rV s k) (fun q hq hn => ih q hq hn) (rV_ok s k) (fun q => rV_err) (rObj_ok (rV_ok s k) hp h1 (sign_kind h123))
end Go.Proofs.YtcgmpcbkndpmbaaGreatDoor

end
section
open Go Go.Proofs Go.Pw Go.RowKit
namespace Go.Proofs.YtcgmpcbkndpmbaaGreatDoor
set_option maxRecDepth 4000
set_option linter.unusedVariables false
set_option linter.unusedSimpArgs false
def An.cells (A : An) : List PV := [vI A.v.kind, vB A.v.b, vI A.v.n, vS A.v.s, .sl (encV A.v.items), .sl (encT A.v.keys), vI (if A.code = 0 then A.at_ else A.place), vI A.code]
def An.R (A : An) : PV := .agg A.cells
def signS (t : Tk) : ByteArray := if t.kind = 1 then t.text else ByteArray.empty
theorem signS_eq (t : Tk) (c : UInt8) : decide (signS t = ⟨#[c]⟩) = t.sign c := by
 unfold signS Tk.sign
 by_cases h : t.kind = 1
 ·rw [if_pos h, decide_eq_true h, Bool.true_and]
 ·rw [if_neg h, decide_eq_false h, Bool.false_and]
  apply decide_eq_false
  intro e
  have := congrArg ByteArray.size e
  rw [ByteArray.size_empty] at this
  exact absurd this (show ¬ (0 : Nat) = 1 by decide)
set_option maxHeartbeats 4000000 in
theorem rwrong_ok (p : Nat) (e : Int) (he : e ≠ 0) : Ok Tryz.prog 61 [vI p, vI e] (An.bad e p).R := by
 refine Ok.of_pwp (by kernel_rfl) Tryz.func61 rfl (by kernel_rfl) (by kernel_rfl) ?_
 have hr : (An.bad e p).R = .agg [vI 0, vB false, vI 0, vS ByteArray.empty, .sl [], .sl [], vI p, vI e] := by
  unfold An.R An.cells An.bad
  simp only [if_neg he]
  simp [vZero, V.kind, V.b, V.n, V.s, V.items, V.keys, encV_nil, encT_nil]
 rw [hr]
 simp (implicitDefEqProofs := false) (disch := omega) only [go_sem, simprocAttr, Nat.le_refl, Tk.cells, str_eq, Tryz.results61]
set_option maxHeartbeats 4000000 in
theorem rsign_ok (t : Tk) : Ok Tryz.prog 62 [.agg t.cells] (vS (signS t)) := by
 refine Ok.of_pwp (by kernel_rfl) Tryz.func62 rfl (by kernel_rfl) (by kernel_rfl) ?_
 unfold signS
 by_cases h : t.kind = 1
 ·rw [if_pos h]
  simp (implicitDefEqProofs := false) (disch := omega) only [go_sem, simprocAttr, Nat.le_refl, Tk.cells, str_eq, h, Tryz.results62]
 ·rw [if_neg h]
  simp (implicitDefEqProofs := false) (disch := omega) only [go_sem, simprocAttr, Nat.le_refl, Tk.cells, str_eq, decide_eq_false h, Tryz.results62] <;> rfl
end Go.Proofs.YtcgmpcbkndpmbaaGreatDoor

end
section
open Go Go.Proofs Go.Pw Go.RowKit
namespace Go.Proofs.YtcgmpcbkndpmbaaGreatDoor
set_option maxRecDepth 4000
set_option linter.unusedVariables false
set_option linter.unusedSimpArgs false
attribute [local go_sem] An.R An.cells Nat.le_refl Tk.cells Tryz.results63 encV_len signS_eq str_eq
theorem str_oneM (t : ByteArray) (c : UInt8) : (t.data.toList = [c]) = (t = ⟨#[c]⟩) := str_eq t ⟨#[c]⟩
theorem rnext_at (s : ByteArray) (i : Nat) (hi : i <= s.size) (hs : s.size <= 8000) : Ok Tryz.prog 17 [vS s, vI i] (.tup [.agg (nT s i).cells, vI (nP s i), vI (nE s i)]) := rnext_ok s i hi (by omega) (by omega)
abbrev Z8 : List PV := [vI 0, vB false, vI 0, vS ByteArray.empty, vNil, vNil, vI 0, vI 0]
set_option maxHeartbeats 16000000 in
theorem rarray_ok (s : ByteArray) (hs : s.size <= 8000) (D m : Int) (f : Nat -> An) (hv : ∀ q, q <= s.size -> Ok Tryz.prog 41 [vS s, vI q, vI m, vI D] (f q).R) (hfo : ∀ q, q <= s.size -> AnOk s q (f q)) (hfb : ∀ q, (f q).code ≠ 0 -> f q = .bad (f q).code (f q).place) (i : Nat) (hi : i <= s.size) :
  Ok Tryz.prog 63 [vS s, vI i, vI m, vI D] (rArr s f i).R := by
 have t1 := tk_ok s i hi
 have c1 := rnext_at s i hi hs
 have c2 := rsign_ok (nT s i)
 refine Ok.of_pwp (by kernel_rfl) Tryz.func63 rfl (by kernel_rfl) (by kernel_rfl) ?_
 generalize hF : rArr s f i = F
 unfold rArr at hF
 simp (implicitDefEqProofs := false) (disch := omega) only [go_sem, simprocAttr, str_oneM]
 with_reducible refine CallOk.of c1 rfl ?_
 by_cases n1 : nE s i = 0
 rotate_left
 ·rw [if_pos n1] at hF
  subst hF
  simp (implicitDefEqProofs := false) (disch := omega) only [go_sem, simprocAttr, str_oneM, decide_eq_false n1]
  with_reducible refine CallOk.of (rwrong_ok (nP s i) (nE s i) n1) rfl ?_
  simp (implicitDefEqProofs := false) (disch := omega) only [go_sem, simprocAttr, str_oneM]
 rw [if_neg (show ¬ nE s i ≠ 0 by rw [n1]; decide)] at hF
 simp (implicitDefEqProofs := false) (disch := omega) only [go_sem, simprocAttr, str_oneM, n1]
 with_reducible refine CallOk.of c2 rfl ?_
 cases n2 : (nT s i).sign 93 with
 | true =>
  rw [if_pos n2] at hF
  subst hF
  have st1 := t1.stop n1
  simp (implicitDefEqProofs := false) (disch := omega) only [go_sem, simprocAttr, str_oneM, n2, st1]
  rfl
 | false =>
 rw [if_neg (by rw [n2]; decide)] at hF
 simp (implicitDefEqProofs := false) (disch := omega) only [go_sem, simprocAttr, str_oneM, n2]
 refine p_loop (ι := { d : Nat × List V × Nat × Tk // d.1 <= s.size /\ d.2.1.length <= d.1 /\ szVs d.2.1 <= 5 * d.1 /\ ∃ n, s.size < d.1 + n /\ rItems s f n d.1 d.2.1 = F }) (fun d => ⟨[(10, .ptr 11 0), (9, .ptr 2 0), (8, .ptr 0 0), (0, vS s), (1, vI d.1.1), (2, vI m), (3, vI D)], [(11, .box 46 d.1.2.2.2.cells), (2, .box 28 [vI 4, vB false, vI 0, vS ByteArray.empty, rowV d.1.2.2.1 d.1.2.1, vNil]), (0, .box 88 Z8)], tokV d.1.2.2.1 28 d.1.2.1, 12, d.1.2.2.1 + 1⟩) (fun d => s.size + 1 - d.1.1) ⟨(i, [], 0, nT s i), hi, by simp, by simp [szVs_nil], ⟨s.size + 1, by simp only; omega, hF⟩⟩ ?_ ?_
 ·simp only [rowV, tokV, Tk.cells]
  constructor <;> simp only [go_sem, simprocAttr, decide_eq_true_eq, Int.natCast_zero] <;> try ((repeat' apply And.intro) <;> first | rfl | omega | (congr 3; omega) | (congr 2; omega))
 ·rintro ⟨⟨q, l, k, tk⟩, g1, g2, g3, n, g4, g5⟩
  simp only at g1 g2 g3 g4 g5 ⊢
  obtain ⟨n, rfl⟩ : ∃ n', n = n' + 1 := ⟨n - 1, by omega⟩
  rw [rItems] at g5
  have cv := hv q g1
  have ao := hfo q g1
  by_cases e1 : (f q).code = 0
  rotate_left
  ·rw [if_pos e1] at g5
   subst g5
   rw [hfb q e1] at cv
   cases l <;> simp only [rowV, tokV] <;> (simp (implicitDefEqProofs := false) (disch := omega) only [go_sem, simprocAttr, str_oneM]) <;> (with_reducible refine CallOk.of cv rfl ?_) <;> (simp (implicitDefEqProofs := false) (disch := omega) only [go_sem, simprocAttr, str_oneM, show (decide ((An.bad (f q).code (f q).place).code = 0)) = false from decide_eq_false e1])
  have ao1 := ao e1
  have t3 := tk_ok s (f q).at_ ao1.2.1
  have c3 := rnext_at s (f q).at_ ao1.2.1 hs
  have c4 := rsign_ok (nT s (f q).at_)
  rw [if_neg (fun h => h e1)] at g5
  generalize f q = x at *
  cases l with
  | nil =>
   simp only [rowV, tokV]
   simp (implicitDefEqProofs := false) (disch := omega) only [go_sem, simprocAttr, str_oneM]
   with_reducible refine CallOk.of cv rfl ?_
   simp (implicitDefEqProofs := false) (disch := omega) only [go_sem, simprocAttr, str_oneM, e1]
   with_reducible refine CallOk.of c3 rfl ?_
   by_cases n3 : nE s x.at_ = 0
   rotate_left
   ·rw [if_pos n3] at g5
    subst g5
    simp (implicitDefEqProofs := false) (disch := omega) only [go_sem, simprocAttr, str_oneM, decide_eq_false n3]
    with_reducible refine CallOk.of (rwrong_ok (nP s x.at_) (nE s x.at_) n3) rfl ?_
    simp (implicitDefEqProofs := false) (disch := omega) only [go_sem, simprocAttr, str_oneM]
   rw [if_neg (show ¬ nE s x.at_ ≠ 0 by rw [n3]; decide)] at g5
   have st3 := t3.stop n3
   simp (implicitDefEqProofs := false) (disch := omega) only [go_sem, simprocAttr, str_oneM, n3]
   with_reducible refine CallOk.of c4 rfl ?_
   cases n4 : (nT s x.at_).sign 93 with
   | true =>
    rw [if_pos n4] at g5
    subst g5
    simp (implicitDefEqProofs := false) (disch := omega) only [go_sem, simprocAttr, str_oneM, n4, st3]
    simp only [An.good, V.kind_mk, V.b_mk, V.n_mk, V.s_mk, V.items_mk, V.keys_mk, encT_nil, encV_map, List.map_append, List.map_cons, List.map_nil, List.cons_append, List.nil_append, if_true, cellsV]
   | false =>
   rw [if_neg (by rw [n4]; decide)] at g5
   simp (implicitDefEqProofs := false) (disch := omega) only [go_sem, simprocAttr, str_oneM, n4]
   with_reducible refine CallOk.of c4 rfl ?_
   cases n5 : (nT s x.at_).sign 44 with
   | false =>
    rw [if_neg (by rw [n5]; decide)] at g5
    subst g5
    simp (implicitDefEqProofs := false) (disch := omega) only [go_sem, simprocAttr, str_oneM, n5]
    with_reducible refine CallOk.of (rwrong_ok (nT s x.at_).at_ 1 (by decide)) rfl ?_
    simp (implicitDefEqProofs := false) (disch := omega) only [go_sem, simprocAttr, str_oneM]
   | true =>
   rw [if_pos n5] at g5
   have lt3 := t3.lt n3 (by rw [sign_kind n5]; decide)
   have le3 := t3.le
   simp (implicitDefEqProofs := false) (disch := omega) only [go_sem, simprocAttr, str_oneM, n5, st3]
   refine ⟨⟨(nQ s x.at_, [x.v], k + 1 + 7 + 3 + 5, nT s x.at_), le3, by simp only [List.length_singleton]; omega, ?_, ⟨n, by simp only; omega, by simpa using g5⟩⟩, by simp only; omega, ?_⟩
   ·simp only [szVs_cons, szVs_nil]; omega
   simp only [rowV, tokV]
   constructor <;> simp only [go_sem, simprocAttr, decide_eq_true_eq, st3, Int.natCast_add, Tk.cells, encV_map, List.map_append, List.map_cons, List.map_nil, List.cons_append, List.nil_append, List.length_cons, List.length_append, List.length_nil, cellsV, ite_self] <;> try ((repeat' apply And.intro) <;> first | rfl | omega | (congr 3; omega) | (congr 2; omega))
  | cons x0 r0 =>
   have hql : r0.length <= 1000000 := by simp only [List.length_cons] at g2; omega
   simp only [rowV, tokV]
   simp (implicitDefEqProofs := false) (disch := omega) only [go_sem, simprocAttr, str_oneM]
   with_reducible refine CallOk.of cv rfl ?_
   simp (implicitDefEqProofs := false) (disch := omega) only [go_sem, simprocAttr, str_oneM, e1]
   with_reducible refine CallOk.of c3 rfl ?_
   by_cases n3 : nE s x.at_ = 0
   rotate_left
   ·rw [if_pos n3] at g5
    subst g5
    simp (implicitDefEqProofs := false) (disch := omega) only [go_sem, simprocAttr, str_oneM, decide_eq_false n3]
    with_reducible refine CallOk.of (rwrong_ok (nP s x.at_) (nE s x.at_) n3) rfl ?_
    simp (implicitDefEqProofs := false) (disch := omega) only [go_sem, simprocAttr, str_oneM]
   rw [if_neg (show ¬ nE s x.at_ ≠ 0 by rw [n3]; decide)] at g5
   have st3 := t3.stop n3
   simp (implicitDefEqProofs := false) (disch := omega) only [go_sem, simprocAttr, str_oneM, n3]
   with_reducible refine CallOk.of c4 rfl ?_
   cases n4 : (nT s x.at_).sign 93 with
   | true =>
    rw [if_pos n4] at g5
    subst g5
    simp (implicitDefEqProofs := false) (disch := omega) only [go_sem, simprocAttr, str_oneM, n4, st3]
    simp only [An.good, V.kind_mk, V.b_mk, V.n_mk, V.s_mk, V.items_mk, V.keys_mk, encT_nil, encV_map, List.map_append, List.map_cons, List.map_nil, List.cons_append, List.nil_append, if_true, cellsV]
   | false =>
   rw [if_neg (by rw [n4]; decide)] at g5
   simp (implicitDefEqProofs := false) (disch := omega) only [go_sem, simprocAttr, str_oneM, n4]
   with_reducible refine CallOk.of c4 rfl ?_
   cases n5 : (nT s x.at_).sign 44 with
   | false =>
    rw [if_neg (by rw [n5]; decide)] at g5
    subst g5
    simp (implicitDefEqProofs := false) (disch := omega) only [go_sem, simprocAttr, str_oneM, n5]
    with_reducible refine CallOk.of (rwrong_ok (nT s x.at_).at_ 1 (by decide)) rfl ?_
    simp (implicitDefEqProofs := false) (disch := omega) only [go_sem, simprocAttr, str_oneM]
   | true =>
   rw [if_pos n5] at g5
   have lt3 := t3.lt n3 (by rw [sign_kind n5]; decide)
   have le3 := t3.le
   simp (implicitDefEqProofs := false) (disch := omega) only [go_sem, simprocAttr, str_oneM, n5, st3]
   refine ⟨⟨(nQ s x.at_, x0 :: (r0 ++ [x.v]), k, nT s x.at_), le3, by simp only [List.length_cons, List.length_append, List.length_nil] at g2 ⊢; omega, ?_, ⟨n, by simp only; omega, by simpa using g5⟩⟩, by simp only; omega, ?_⟩
   ·simp only [szVs_cons, szVs_app, szVs_nil] at g3 ⊢; omega
   simp only [rowV, tokV]
   constructor <;> simp only [go_sem, simprocAttr, decide_eq_true_eq, st3, Int.natCast_add, Tk.cells, encV_map, List.map_append, List.map_cons, List.map_nil, List.cons_append, List.nil_append, List.length_cons, List.length_append, List.length_nil, cellsV, ite_self] <;> try ((repeat' apply And.intro) <;> first | rfl | omega | (congr 3; omega) | (congr 2; omega))
end Go.Proofs.YtcgmpcbkndpmbaaGreatDoor

end
section
open Go Go.Proofs Go.Pw Go.RowKit
namespace Go.Proofs.YtcgmpcbkndpmbaaGreatDoor
set_option maxRecDepth 4000
set_option linter.unusedVariables false
set_option linter.unusedSimpArgs false
attribute [local go_sem] An.R An.cells Nat.le_refl Tk.cells Tryz.results64 encV_len signS_eq str_eq str_oneM
def obS (s : ByteArray) (D m : Int) (q : Nat) (ks : List ByteArray) (l : List V) : PS := ⟨[(10, .ptr 11 0), (9, .ptr 2 0), (8, .ptr 0 0), (0, vS s), (2, vI m), (3, vI D)], [(11, .box 46 (nT s q).cells), (2, .box 28 (cellsV (objV ks l))), (0, .box 88 Z8)], [], 12, 0⟩
theorem szT_snoc (ks : List ByteArray) (k : ByteArray) : szT (ks ++ [k]) = szT ks + (1 + k.size) := by rw [szT_appA, szT, szT]; rfl
theorem szVs_snoc (l : List V) (v : V) : szVs (l ++ [v]) = szVs l + szV v := by rw [szVs_app, szVs_cons, szVs_nil]; omega
set_option maxHeartbeats 32000000 in
theorem robject_ok (s : ByteArray) (hs : s.size <= 8000) (D m : Int) (f : Nat -> An) (hv : ∀ q, q <= s.size -> Ok Tryz.prog 41 [vS s, vI q, vI m, vI D] (f q).R) (hfo : ∀ q, q <= s.size -> AnOk s q (f q)) (hfp : ∀ q, (f q).pure) (i : Nat) (hi : i <= s.size) :
  Ok Tryz.prog 64 [vS s, vI i, vI m, vI D] (rObj s f i).R := by
 have t1 := tk_ok s i hi
 have c1 := rnext_at s i hi hs
 have c2 := rsign_ok (nT s i)
 refine Ok.of_pwp (by kernel_rfl) Tryz.func64 rfl (by kernel_rfl) (by kernel_rfl) ?_
 generalize hF : rObj s f i = F
 unfold rObj at hF
 simp (implicitDefEqProofs := false) (disch := omega) only [go_sem, simprocAttr, cellsV]
 with_reducible refine CallOk.of c1 rfl ?_
 by_cases n1 : nE s i = 0
 rotate_left
 ·rw [if_pos n1] at hF
  subst hF
  simp (implicitDefEqProofs := false) (disch := omega) only [go_sem, simprocAttr, cellsV, decide_eq_false n1]
  with_reducible refine CallOk.of (rwrong_ok (nP s i) (nE s i) n1) rfl ?_
  simp (implicitDefEqProofs := false) (disch := omega) only [go_sem, simprocAttr, cellsV]
 rw [if_neg (show ¬ nE s i ≠ 0 by rw [n1]; decide)] at hF
 simp (implicitDefEqProofs := false) (disch := omega) only [go_sem, simprocAttr, cellsV, n1]
 with_reducible refine CallOk.of c2 rfl ?_
 cases n2 : (nT s i).sign 125 with
 | true =>
  rw [if_pos n2] at hF
  subst hF
  have st1 := t1.stop n1
  simp (implicitDefEqProofs := false) (disch := omega) only [go_sem, simprocAttr, cellsV, n2, st1]
  rfl
 | false =>
 rw [if_neg (by rw [n2]; decide)] at hF
 simp (implicitDefEqProofs := false) (disch := omega) only [go_sem, simprocAttr, cellsV, n2]
 refine p_loop (ι := { d : Nat × List ByteArray × List V // d.1 <= s.size /\ nE s d.1 = 0 /\ szT d.2.1 + szVs d.2.2 <= 5 * d.1 /\ (∃ K I, OrdI d.2.1 d.2.2 K I) /\ ∃ n, s.size < d.1 + n /\ rMems s f n d.1 d.2.1 d.2.2 = F }) (fun d => obS s D m d.1.1 d.1.2.1 d.1.2.2) (fun d => s.size + 1 - d.1.1) ⟨(i, [], []), hi, n1, by simp [szT, szVs_nil], ⟨[], [], OrdI.nil⟩, ⟨s.size + 1, by simp only; omega, hF⟩⟩ ?_ ?_
 ·simp only [obS, OrdI.nil.val, Tk.cells, cellsV, V.kind_mk, V.b_mk, V.n_mk, V.s_mk, V.items_mk, V.keys_mk, encV_nil, encT_nil]
  constructor <;> simp only [go_sem, simprocAttr, decide_eq_true_eq, Int.natCast_zero] <;> try ((repeat' apply And.intro) <;> first | rfl | omega | (congr 3; omega) | (congr 2; omega))
 ·rintro ⟨⟨q, ks, l⟩, g1, g0, g3, ⟨K, I, ho⟩, n, g4, g5⟩
  simp only at g1 g0 g3 ho g4 g5 ⊢
  obtain ⟨n, rfl⟩ : ∃ n', n = n' + 1 := ⟨n - 1, by omega⟩
  rw [rMems, if_neg (fun h => h g0)] at g5
  have tq := tk_ok s q g1
  have stq := tq.stop g0
  have hw := objV_sz ks l
  have hwk : (objV ks l).keys = K := by rw [ho.val]; rfl
  have hwi : (objV ks l).items = I := by rw [ho.val]; rfl
  simp only [obS]
  by_cases k2 : (nT s q).kind = 2
  rotate_left
  ·rw [if_pos k2] at g5
   subst g5
   simp (implicitDefEqProofs := false) (disch := omega) only [go_sem, simprocAttr, cellsV, decide_eq_false k2]
   with_reducible refine CallOk.of (rwrong_ok (nT s q).at_ 1 (by decide)) rfl ?_
   simp (implicitDefEqProofs := false) (disch := omega) only [go_sem, simprocAttr, cellsV]
  rw [if_neg (fun h => h k2)] at g5
  have cf := find_ok (objV ks l) (nT s q).text (by omega)
  have cp := fun x => put_ok (objV ks l) (nT s q).text x (by omega) (by rw [hwk, hwi, ho.len]; exact Nat.le_refl _)
  have hfd := ho.find (nT s q).text
  rw [hwk] at cf
  simp only [cellsV] at cf cp
  simp (implicitDefEqProofs := false) (disch := omega) only [go_sem, simprocAttr, cellsV, k2]
  with_reducible refine CallOk.of cf rfl ?_
  cases k3 : ks.any fun k => decide (k = (nT s q).text) with
  | true =>
   rw [if_pos k3] at g5
   subst g5
   rw [k3] at hfd
   simp (implicitDefEqProofs := false) (disch := omega) only [go_sem, simprocAttr, cellsV, hfd]
   with_reducible refine CallOk.of (rwrong_ok (nT s q).at_ 5 (by decide)) rfl ?_
   simp (implicitDefEqProofs := false) (disch := omega) only [go_sem, simprocAttr, cellsV]
  | false =>
  rw [if_neg (by rw [k3]; decide)] at g5
  rw [k3] at hfd
  have hnk : (nT s q).text ∉ ks := fun h => by rw [any_mem.2 h] at k3; cases k3
  have q1le := tq.le
  have t2 := tk_ok s (nQ s q) q1le
  have c3 := rnext_at s (nQ s q) q1le hs
  have c4 := rsign_ok (nT s (nQ s q))
  simp (implicitDefEqProofs := false) (disch := omega) only [go_sem, simprocAttr, cellsV, hfd, stq]
  with_reducible refine CallOk.of c3 rfl ?_
  by_cases n3 : nE s (nQ s q) = 0
  rotate_left
  ·rw [if_pos n3] at g5
   subst g5
   simp (implicitDefEqProofs := false) (disch := omega) only [go_sem, simprocAttr, cellsV, decide_eq_false n3]
   with_reducible refine CallOk.of (rwrong_ok (nP s (nQ s q)) (nE s (nQ s q)) n3) rfl ?_
   simp (implicitDefEqProofs := false) (disch := omega) only [go_sem, simprocAttr, cellsV]
  rw [if_neg (fun h => h n3)] at g5
  have st2 := t2.stop n3
  simp (implicitDefEqProofs := false) (disch := omega) only [go_sem, simprocAttr, cellsV, n3]
  with_reducible refine CallOk.of c4 rfl ?_
  cases n4 : (nT s (nQ s q)).sign 58 with
  | false =>
   rw [if_pos n4] at g5
   subst g5
   simp (implicitDefEqProofs := false) (disch := omega) only [go_sem, simprocAttr, cellsV, n4]
   with_reducible refine CallOk.of (rwrong_ok (nT s (nQ s q)).at_ 1 (by decide)) rfl ?_
   simp (implicitDefEqProofs := false) (disch := omega) only [go_sem, simprocAttr, cellsV]
  | true =>
  rw [if_neg (by rw [n4]; decide)] at g5
  have q2le := t2.le
  have cv := hv (nQ s (nQ s q)) q2le
  have ao := hfo (nQ s (nQ s q)) q2le
  have pu := hfp (nQ s (nQ s q))
  have lt1 := tq.lt g0 (by rw [k2]; decide)
  have lt2 := t2.lt n3 (by rw [sign_kind n4]; decide)
  have z1 := tq.size
  generalize nQ s (nQ s q) = q2 at *
  generalize f q2 = x at *
  simp (implicitDefEqProofs := false) (disch := omega) only [go_sem, simprocAttr, cellsV, n4, st2]
  by_cases e1 : x.code = 0
  rotate_left
  ·rw [if_pos e1] at g5
   rw [pu.1 e1] at cv
   subst g5
   with_reducible refine CallOk.of cv rfl ?_
   simp (implicitDefEqProofs := false) (disch := omega) only [go_sem, simprocAttr, cellsV, show (decide ((An.bad x.code x.place).code = 0)) = false from decide_eq_false e1]
  rw [if_neg (fun h => h e1)] at g5
  have ao1 := ao e1
  have t3 := tk_ok s x.at_ ao1.2.1
  have c5 := rnext_at s x.at_ ao1.2.1 hs
  have c6 := rsign_ok (nT s x.at_)
  have cpx := cp x.v
  have hpf : putF (objV ks l) (nT s q).text x.v = .tup [.agg (cellsV (objV (ks ++ [(nT s q).text]) (l ++ [x.v]))), vB true] := by
   unfold putF
   rw [hwk, if_neg (by rw [ho.found hnk]; decide), hwi, (ho.step hnk x.v).val]
  rw [hpf] at cpx
  simp only [cellsV] at cpx
  with_reducible refine CallOk.of cv rfl ?_
  simp (implicitDefEqProofs := false) (disch := omega) only [go_sem, simprocAttr, cellsV, e1]
  with_reducible refine CallOk.of cpx rfl ?_
  simp (implicitDefEqProofs := false) (disch := omega) only [go_sem, simprocAttr, cellsV]
  with_reducible refine CallOk.of c5 rfl ?_
  by_cases n5 : nE s x.at_ = 0
  rotate_left
  ·rw [if_pos n5] at g5
   subst g5
   simp (implicitDefEqProofs := false) (disch := omega) only [go_sem, simprocAttr, cellsV, decide_eq_false n5]
   with_reducible refine CallOk.of (rwrong_ok (nP s x.at_) (nE s x.at_) n5) rfl ?_
   simp (implicitDefEqProofs := false) (disch := omega) only [go_sem, simprocAttr, cellsV]
  rw [if_neg (fun h => h n5)] at g5
  have st3 := t3.stop n5
  simp (implicitDefEqProofs := false) (disch := omega) only [go_sem, simprocAttr, cellsV, n5]
  with_reducible refine CallOk.of c6 rfl ?_
  cases n6 : (nT s x.at_).sign 125 with
  | true =>
   rw [if_pos n6] at g5
   subst g5
   simp (implicitDefEqProofs := false) (disch := omega) only [go_sem, simprocAttr, cellsV, n6, st3]
   rfl
  | false =>
  rw [if_neg (by rw [n6]; decide)] at g5
  simp (implicitDefEqProofs := false) (disch := omega) only [go_sem, simprocAttr, cellsV, n6]
  with_reducible refine CallOk.of c6 rfl ?_
  cases n7 : (nT s x.at_).sign 44 with
  | false =>
   rw [if_neg (by rw [n7]; decide)] at g5
   subst g5
   simp (implicitDefEqProofs := false) (disch := omega) only [go_sem, simprocAttr, cellsV, n7]
   with_reducible refine CallOk.of (rwrong_ok (nT s x.at_).at_ 1 (by decide)) rfl ?_
   simp (implicitDefEqProofs := false) (disch := omega) only [go_sem, simprocAttr, cellsV]
  | true =>
  rw [if_pos n7] at g5
  have lt3 := t3.lt n5 (by rw [sign_kind n7]; decide)
  have le3 := t3.le
  have c7 := rnext_at s (nQ s x.at_) le3 hs
  simp (implicitDefEqProofs := false) (disch := omega) only [go_sem, simprocAttr, cellsV, n7, st3]
  with_reducible refine CallOk.of c7 rfl ?_
  by_cases n8 : nE s (nQ s x.at_) = 0
  rotate_left
  ·obtain ⟨n, rfl⟩ : ∃ n', n = n' + 1 := ⟨n - 1, by omega⟩
   rw [rMems, if_pos n8] at g5
   subst g5
   simp (implicitDefEqProofs := false) (disch := omega) only [go_sem, simprocAttr, cellsV, decide_eq_false n8]
   with_reducible refine CallOk.of (rwrong_ok (nP s (nQ s x.at_)) (nE s (nQ s x.at_)) n8) rfl ?_
   simp (implicitDefEqProofs := false) (disch := omega) only [go_sem, simprocAttr, cellsV]
  simp (implicitDefEqProofs := false) (disch := omega) only [go_sem, simprocAttr, cellsV, n8]
  refine ⟨⟨(nQ s x.at_, ks ++ [(nT s q).text], l ++ [x.v]), le3, n8, by simp only [szT_snoc, szVs_snoc]; omega, ⟨_, _, ho.step hnk x.v⟩, ⟨n, by simp only; omega, g5⟩⟩, by simp only; omega, ?_⟩
  simp only [obS]
  constructor <;> simp only [go_sem, simprocAttr, decide_eq_true_eq, Tk.cells, cellsV] <;> try ((repeat' apply And.intro) <;> first | rfl | omega | (congr 3; omega) | (congr 2; omega))
end Go.Proofs.YtcgmpcbkndpmbaaGreatDoor

end
section
open Go Go.Proofs Go.Pw Go.RowKit
namespace Go.Proofs.YtcgmpcbkndpmbaaGreatDoor
set_option maxRecDepth 4000
set_option linter.unusedVariables false
set_option linter.unusedSimpArgs false
attribute [local go_sem] An.R An.cells Nat.le_refl Tk.cells Tryz.results41 encV_len signS_eq str_eq str_oneM
theorem An.R_good (v : V) (q : Nat) : (An.good v q).R = .agg [vI v.kind, vB v.b, vI v.n, vS v.s, .sl (encV v.items), .sl (encT v.keys), vI q, vI 0] := rfl
set_option maxHeartbeats 32000000 in
theorem rvalue_step (s : ByteArray) (hs : s.size <= 8000) (D m : Int) (hD : 0 <= D /\ D <= 64) (hm : 0 <= m /\ m <= D) (i : Nat) (hi : i <= s.size) (g : An)
  (hdeep : D <= m -> g = .bad 6 (nT s i).at_)
  (harr : m < D -> nE s i = 0 -> (nT s i).sign 91 = true -> Ok Tryz.prog 63 [vS s, vI (nQ s i), vI (m + 1), vI D] g.R)
  (hobj : m < D -> nE s i = 0 -> (nT s i).sign 91 = false -> (nT s i).sign 123 = true -> Ok Tryz.prog 64 [vS s, vI (nQ s i), vI (m + 1), vI D] g.R) :
  Ok Tryz.prog 41 [vS s, vI i, vI m, vI D] (rVh s i g).R := by
 have t1 := tk_ok s i hi
 have c1 := rnext_at s i hi hs
 have c2 := rsign_ok (nT s i)
 refine Ok.of_pwp (by kernel_rfl) Tryz.func41 rfl (by kernel_rfl) (by kernel_rfl) ?_
 generalize hF : rVh s i g = F
 unfold rVh at hF
 simp (implicitDefEqProofs := false) (disch := omega) only [go_sem, simprocAttr, cellsV]
 with_reducible refine CallOk.of c1 rfl ?_
 by_cases n1 : nE s i = 0
 rotate_left
 ·rw [if_pos n1] at hF
  subst hF
  simp (implicitDefEqProofs := false) (disch := omega) only [go_sem, simprocAttr, cellsV, decide_eq_false n1]
  with_reducible refine CallOk.of (rwrong_ok (nP s i) (nE s i) n1) rfl ?_
  simp (implicitDefEqProofs := false) (disch := omega) only [go_sem, simprocAttr, cellsV]
 rw [if_neg (fun h => h n1)] at hF
 have st1 := t1.stop n1
 have leaf : ∀ v, rLeaf (nT s i) = some v -> F = .good v (nQ s i) := fun v h => by rw [h] at hF; exact hF.symm
 by_cases k2 : (nT s i).kind = 2
 ·have hl := leaf (.mk 3 false 0 (nT s i).text [] []) (by unfold rLeaf; rw [if_pos k2])
  rw [hl, An.R_good]
  simp (implicitDefEqProofs := false) (disch := omega) only [go_sem, simprocAttr, cellsV, n1, k2, st1]
  simp only [V.kind_mk, V.b_mk, V.n_mk, V.s_mk, V.items_mk, V.keys_mk, encV_nil, encT_nil]
 by_cases k3 : (nT s i).kind = 3
 ·have hl := leaf (.mk 2 false (nT s i).int ByteArray.empty [] []) (by unfold rLeaf; rw [if_neg k2, if_pos k3])
  rw [hl, An.R_good]
  simp (implicitDefEqProofs := false) (disch := omega) only [go_sem, simprocAttr, cellsV, n1, k3, st1]
  simp only [V.kind_mk, V.b_mk, V.n_mk, V.s_mk, V.items_mk, V.keys_mk, encV_nil, encT_nil]
 by_cases k4 : (nT s i).kind = 4
 ·have hl := leaf (.mk 1 true 0 ByteArray.empty [] []) (by unfold rLeaf; rw [if_neg k2, if_neg k3, if_pos (.inl k4), decide_eq_true k4])
  rw [hl, An.R_good]
  simp (implicitDefEqProofs := false) (disch := omega) only [go_sem, simprocAttr, cellsV, n1, k4, st1]
  simp only [V.kind_mk, V.b_mk, V.n_mk, V.s_mk, V.items_mk, V.keys_mk, encV_nil, encT_nil]
 by_cases k5 : (nT s i).kind = 5
 ·have hl := leaf (.mk 1 false 0 ByteArray.empty [] []) (by unfold rLeaf; rw [if_neg k2, if_neg k3, if_pos (.inr k5), decide_eq_false k4])
  rw [hl, An.R_good]
  simp (implicitDefEqProofs := false) (disch := omega) only [go_sem, simprocAttr, cellsV, n1, k5, st1]
  simp only [V.kind_mk, V.b_mk, V.n_mk, V.s_mk, V.items_mk, V.keys_mk, encV_nil, encT_nil]
 by_cases k6 : (nT s i).kind = 6
 ·have hl := leaf vZero (by unfold rLeaf; rw [if_neg k2, if_neg k3, if_neg (by omega), if_pos k6])
  rw [hl, An.R_good]
  simp (implicitDefEqProofs := false) (disch := omega) only [go_sem, simprocAttr, cellsV, n1, k6, st1]
  simp only [vZero, V.kind_mk, V.b_mk, V.n_mk, V.s_mk, V.items_mk, V.keys_mk, encV_nil, encT_nil]
 have hn : rLeaf (nT s i) = none := by unfold rLeaf; rw [if_neg k2, if_neg k3, if_neg (by omega), if_neg k6]
 rw [hn] at hF
 simp only at hF
 have d2 := decide_eq_false k2
 have d3 := decide_eq_false k3
 have d4 := decide_eq_false k4
 have d5 := decide_eq_false k5
 have d6 := decide_eq_false k6
 have go : ∀ (b91 b123 : Bool), (nT s i).sign 91 = b91 -> (nT s i).sign 123 = b123 -> (b91 = true ∨ b123 = true) -> F = g := fun b91 b123 h1 h2 h3 => by
  rw [if_neg (fun h => by rw [h1, h2] at h; rcases h3 with h3 | h3 <;> simp [h3] at h)] at hF
  exact hF.symm
 simp (implicitDefEqProofs := false) (disch := omega) only [go_sem, simprocAttr, cellsV, n1, d2, d3, d4, d5, d6]
 with_reducible refine CallOk.of c2 rfl ?_
 cases h91 : (nT s i).sign 91 with
 | true =>
  obtain rfl := go true _ h91 rfl (.inl rfl)
  by_cases hd : D <= m
  ·rw [hdeep hd]
   simp (implicitDefEqProofs := false) (disch := omega) only [go_sem, simprocAttr, cellsV, h91, decide_eq_true hd]
   with_reducible refine CallOk.of (rwrong_ok (nT s i).at_ 6 (by decide)) rfl ?_
   simp (implicitDefEqProofs := false) (disch := omega) only [go_sem, simprocAttr, cellsV]
  ·have ca := harr (by omega) n1 h91
   simp (implicitDefEqProofs := false) (disch := omega) only [go_sem, simprocAttr, cellsV, h91, decide_eq_false hd]
   with_reducible refine CallOk.of c2 rfl ?_
   simp (implicitDefEqProofs := false) (disch := omega) only [go_sem, simprocAttr, cellsV, h91, st1]
   with_reducible refine CallOk.of ca rfl ?_
   simp (implicitDefEqProofs := false) (disch := omega) only [go_sem, simprocAttr, cellsV]
 | false =>
  simp (implicitDefEqProofs := false) (disch := omega) only [go_sem, simprocAttr, cellsV, h91]
  with_reducible refine CallOk.of c2 rfl ?_
  cases h123 : (nT s i).sign 123 with
  | false =>
   rw [if_pos ⟨h91, h123⟩] at hF
   subst hF
   simp (implicitDefEqProofs := false) (disch := omega) only [go_sem, simprocAttr, cellsV, h123]
   with_reducible refine CallOk.of (rwrong_ok (nT s i).at_ 1 (by decide)) rfl ?_
   simp (implicitDefEqProofs := false) (disch := omega) only [go_sem, simprocAttr, cellsV]
  | true =>
   obtain rfl := go false true h91 h123 (.inr rfl)
   by_cases hd : D <= m
   ·rw [hdeep hd]
    simp (implicitDefEqProofs := false) (disch := omega) only [go_sem, simprocAttr, cellsV, h123, decide_eq_true hd]
    with_reducible refine CallOk.of (rwrong_ok (nT s i).at_ 6 (by decide)) rfl ?_
    simp (implicitDefEqProofs := false) (disch := omega) only [go_sem, simprocAttr, cellsV]
   ·have co := hobj (by omega) n1 h91 h123
    simp (implicitDefEqProofs := false) (disch := omega) only [go_sem, simprocAttr, cellsV, h123, decide_eq_false hd]
    with_reducible refine CallOk.of c2 rfl ?_
    simp (implicitDefEqProofs := false) (disch := omega) only [go_sem, simprocAttr, cellsV, h91, st1]
    with_reducible refine CallOk.of co rfl ?_
    simp (implicitDefEqProofs := false) (disch := omega) only [go_sem, simprocAttr, cellsV]
theorem rvalue_ok (s : ByteArray) (hs : s.size <= 8000) (D : Int) (hD : 0 <= D /\ D <= 64) : ∀ (k : Nat) (m : Int), 0 <= m -> m + k = D -> ∀ i, i <= s.size -> Ok Tryz.prog 41 [vS s, vI i, vI m, vI D] (rV s k i).R
 | 0, m, h0, hk, i, hi => by
  rw [rV]
  exact rvalue_step s hs D m hD (by omega) i hi _ (fun _ => rfl) (fun h => by omega) (fun h => by omega)
 | k + 1, m, h0, hk, i, hi => by
  have ih := rvalue_ok s hs D hD k (m + 1) (by omega) (by omega)
  have t1 := tk_ok s i hi
  rw [rV]
  refine rvalue_step s hs D m hD (by omega) i hi _ (fun h => by omega) (fun _ _ h => ?_) (fun _ _ h h2 => ?_)
  ·rw [if_pos h]
   exact rarray_ok s hs D (m + 1) (rV s k) ih (rV_ok s k) (fun q => (rV_pure s k q).1) _ t1.le
  ·rw [if_neg (by rw [h]; decide)]
   exact robject_ok s hs D (m + 1) (rV s k) ih (rV_ok s k) (rV_pure s k) _ t1.le
def parseA (s : ByteArray) (d : Int) : An :=
 if d < 0 ∨ 64 < d then .bad 8 0 else
 if 16384 < s.size then .bad 7 0 else
 if (rV s d.toNat 0).code ≠ 0 then .bad (rV s d.toNat 0).code (rV s d.toNat 0).place else
 if nE s (rV s d.toNat 0).at_ ≠ 0 then .bad (nE s (rV s d.toNat 0).at_) (nP s (rV s d.toNat 0).at_) else
 if (nT s (rV s d.toNat 0).at_).kind ≠ 0 then .bad 1 (nT s (rV s d.toNat 0).at_).at_ else .good (rV s d.toNat 0).v 0
def parseR (A : An) : PV := .tup [.agg (cellsV A.v), vI (if A.code = 0 then 0 else A.place), vI A.code]
end Go.Proofs.YtcgmpcbkndpmbaaGreatDoor

end
