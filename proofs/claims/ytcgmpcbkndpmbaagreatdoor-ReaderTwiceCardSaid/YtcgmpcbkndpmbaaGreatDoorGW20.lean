import Derived.Test.YtcgmpcbkndpmbaaGreatDoorGW18
import Derived.Test.YtcgmpcbkndpmbaaGreatDoorGW12
import Derived.Test.YtcgmpcbkndpmbaaGreatDoorGW6
/-
 Chapter 6: the laws Twice and Ends.
-/
open Go Go.Proofs Go.Pw Go.RowKit
namespace Go.Proofs.YtcgmpcbkndpmbaaGreatDoor
set_option maxRecDepth 4000
set_option linter.unusedVariables false
set_option linter.unusedSimpArgs false
attribute [local go_sem] Bool.not_false Bool.not_true Int.toNat_natCast Int.toNat_one Int.toNat_zero List.length_cons List.length_nil List.size_toArray Nat.le_refl Tryz.results5 encC_len str_eq
theorem sOf_2' : sOf 2 = ⟨#[50]⟩ := by
 rw [sOf_pos (by decide), decD_pad, show (2 : Int).natAbs = 2 from rfl, Lib.nDigits_small (by decide)]
 rfl
theorem rdv_1 : RdV (.mk 2 false 1 ByteArray.empty [] []) [49] := by
 have := rdv_num (n := 1) Bl.nil (by unfold fits; decide)
 rw [sOf_1'] at this
 exact this
theorem rdv_2 : RdV (.mk 2 false 2 ByteArray.empty [] []) [50] := by
 have := rdv_num (n := 2) Bl.nil (by unfold fits; decide)
 rw [sOf_2'] at this
 exact this
def tw1 (a b : ByteArray) : ByteArray := ⟨#[123]⟩ ++ a ++ ⟨#[58, 49, 44]⟩ ++ b ++ ⟨#[58, 50, 125]⟩
def tw2 (a b : ByteArray) : ByteArray := ⟨#[123]⟩ ++ a ++ ⟨#[58, 123]⟩ ++ b ++ ⟨#[58, 50, 125, 125]⟩
theorem dl_mk (l : List UInt8) : dl ⟨l.toArray⟩ = l := by simp [dl]
theorem tB_len (N : Int) (s : ByteArray) : (quL (tpL N (scan s 0).1)).length = (tB N s).size := by
 have := size_list (tB N s)
 rw [<- this]
 rfl
theorem twice_1 {key : ByteArray} (hk : isT key = true) (hz : key.size <= 60) (n m : Int) : parseA (tw1 (tB n key) (tB m key)) 5 = .bad 5 ((tB n key).size + 4) := by
 obtain ⟨a1, a2⟩ := pts_text hk n
 obtain ⟨b1, b2⟩ := pts_text hk m
 have z1 := tB_size n key
 have z2 := tB_size m key
 have zl := tB_len n key
 have hs : (tw1 (tB n key) (tB m key)).size <= 16384 := by
  have e1 : (⟨#[123]⟩ : ByteArray).size = 1 := rfl
  have e2 : (⟨#[58, 49, 44]⟩ : ByteArray).size = 3 := rfl
  have e3 : (⟨#[58, 50, 125]⟩ : ByteArray).size = 3 := rfl
  unfold tw1
  simp only [ByteArray.size_append, e1, e2, e3]
  omega
 have h0 : Sfx (tw1 (tB n key) (tB m key)) 0 ([] ++ 123 :: (quL (tpL n (scan key 0).1) ++ (58 :: 49 :: 44 :: (quL (tpL m (scan key 0).1) ++ [58, 50, 125])))) := by
  have h := Sfx.all (tw1 (tB n key) (tB m key))
  have e : (tw1 (tB n key) (tB m key)).data.toList = 123 :: (quL (tpL n (scan key 0).1) ++ (58 :: 49 :: 44 :: (quL (tpL m (scan key 0).1) ++ [58, 50, 125]))) := by
   show dl _ = _
   unfold tw1
   simp only [dl_app, dl_tB, dl_mk]
   simp
  rw [e] at h
  exact h
 generalize tw1 (tB n key) (tB m key) = S at *
 have t0 := tok_mark h0 Bl.nil (c := 123) (by decide)
 have h1 := h0.next
 have t1 := tok_text a2 (bl := []) h1 Bl.nil
 have h2 := h1.app
 rw [a1] at t1
 have t2 := tok_mark (bl := []) h2 Bl.nil (c := 58) (by decide)
 have h3 := h2.next
 have v1 := (rdv_1 S _ (44 :: (quL (tpL m (scan key 0).1) ++ [58, 50, 125])) 4 h3 (by show stL.contains 44 = false; decide)).1 (by decide)
 have h4 := Sfx.next h3
 have t3 := tok_mark (bl := []) h4 Bl.nil (c := 44) (by decide)
 have h5 := h4.next
 have t4 := tok_text b2 (bl := []) h5 Bl.nil
 rw [b1] at t4
 refine parseA_bad (by decide) hs (d := 5) ?_ (by decide)
 have hsz : ∃ j, S.size = j + 1 := ⟨S.size - 1, by have := h0.lt; omega⟩
 obtain ⟨j, hj⟩ := hsz
 rw [rV_obj (k := 4) t0]
 refine (rObj_some t1 rfl).trans ?_
 refine (rMems_more t1 (by simp) t2 v1 t3).trans ?_
 rw [hj]
 refine (rMems_twice t4 (by simp)).trans ?_
 congr 1
 simp only [List.length_nil]
 omega
theorem twice_2 {key : ByteArray} (hk : isT key = true) (hz : key.size <= 60) (n m : Int) : ∃ v : V, parseA (tw2 (tB n key) (tB m key)) 5 = .good v 0 /\ v.keys = [key] /\ (tw2 (tB n key) (tB m key)).size <= 16384 := by
 obtain ⟨a1, a2⟩ := pts_text hk n
 obtain ⟨b1, b2⟩ := pts_text hk m
 have z1 := tB_size n key
 have z2 := tB_size m key
 have hs : (tw2 (tB n key) (tB m key)).size <= 16384 := by
  have e1 : (⟨#[123]⟩ : ByteArray).size = 1 := rfl
  have e2 : (⟨#[58, 123]⟩ : ByteArray).size = 2 := rfl
  have e3 : (⟨#[58, 50, 125, 125]⟩ : ByteArray).size = 4 := rfl
  unfold tw2
  simp only [ByteArray.size_append, e1, e2, e3]
  omega
 have one : ∀ x : V, objV [key] [x] = .mk 5 false 0 ByteArray.empty [x] [key] := fun x => by
  have := objV_rot (keys := [key]) (items := [x]) 0 (by simp [SortT]) rfl
  simpa [rotL] using this
 have o1 : MemOk ⟨[], tpL m (scan key 0).1, [], .mk 2 false 2 ByteArray.empty [] [], [50], []⟩ := ⟨Bl.nil, b2, Bl.nil, rdv_2, Bl.nil⟩
 have r1 := rdv_obj (L := [⟨[], tpL m (scan key 0).1, [], .mk 2 false 2 ByteArray.empty [] [], [50], []⟩]) (bl := []) (g := []) (v := .mk 5 false 0 ByteArray.empty [.mk 2 false 2 ByteArray.empty [] []] [key]) Bl.nil Bl.nil (fun x hx => by rw [List.mem_singleton] at hx; subst hx; exact o1) (by simp) (by simp only [List.map_cons, List.map_nil, Mem.key, b1, one]) rfl
 have o2 : MemOk ⟨[], tpL n (scan key 0).1, [], _, _, []⟩ := ⟨Bl.nil, a2, Bl.nil, r1, Bl.nil⟩
 have r2 := rdv_obj (L := [⟨[], tpL n (scan key 0).1, [], _, _, []⟩]) (bl := []) (g := []) (v := .mk 5 false 0 ByteArray.empty [.mk 5 false 0 ByteArray.empty [.mk 2 false 2 ByteArray.empty [] []] [key]] [key]) Bl.nil Bl.nil (fun x hx => by rw [List.mem_singleton] at hx; subst hx; exact o2) (by simp) (by simp only [List.map_cons, List.map_nil, Mem.key, a1, one]) rfl
 have hw : WrOk (.mk 5 false 0 ByteArray.empty [.mk 5 false 0 ByteArray.empty [.mk 2 false 2 ByteArray.empty [] []] [key]] [key]) (tw2 (tB n key) (tB m key)) := by
  refine ⟨_, [], ?_, Bl.nil, r2⟩
  unfold tw2
  simp only [dl_app, dl_tB, dl_mk, meL, Mem.txt]
  simp
 exact ⟨_, (parse_wr hw hs (d := 5) (by decide)).1 (by simp [dV, dVs]), rfl, hs⟩
set_option maxHeartbeats 8000000 in
theorem twice_ok (key : ByteArray) (n m : Int) (hk : key.size <= 140737488351232) (hn : 0 <= n /\ n <= 255) (hm : 0 <= m /\ m <= 255) : Ok Tryz.prog 5 [vS key, vC n, vC m] (vB true) := by
 have c0 := awake6_ok
 refine Ok.of_pwp (by kernel_rfl) Tryz.func5 rfl (by kernel_rfl) (by kernel_rfl) ?_
 simp (implicitDefEqProofs := false) (disch := omega) only [go_sem, simprocAttr, cellsV, decide_true, beq_self_eq_true, ByteArray.size_append]
 with_reducible refine CallOk.of c0 rfl ?_
 by_cases h60 : key.size <= 60
 rotate_left
 ·simp (implicitDefEqProofs := false) (disch := omega) only [go_sem, simprocAttr, cellsV, decide_true, beq_self_eq_true, ByteArray.size_append, decide_eq_true (show (60 : Int) < (key.size : Int) by omega)]
  with_reducible refine CallOk.of c0 rfl ?_
  simp (implicitDefEqProofs := false) (disch := omega) only [go_sem, simprocAttr, cellsV, decide_true, beq_self_eq_true, ByteArray.size_append]
 have cv := rvalid_ok key (by omega)
 simp (implicitDefEqProofs := false) (disch := omega) only [go_sem, simprocAttr, cellsV, decide_true, beq_self_eq_true, ByteArray.size_append, decide_eq_false (show ¬ (60 : Int) < (key.size : Int) by omega)]
 with_reducible refine CallOk.of cv rfl ?_
 by_cases ht : (scan key 0).2 = key.size
 rotate_left
 ·rw [decide_eq_false ht]
  simp (implicitDefEqProofs := false) (disch := omega) only [go_sem, simprocAttr, cellsV, decide_true, beq_self_eq_true, ByteArray.size_append]
  with_reducible refine CallOk.of c0 rfl ?_
  simp (implicitDefEqProofs := false) (disch := omega) only [go_sem, simprocAttr, cellsV, decide_true, beq_self_eq_true, ByteArray.size_append]
 rw [decide_eq_true ht]
 have hT : isT key = true := by unfold isT; rw [ht]; simp
 have ca := ltxt_ok key n (by omega) hT hn
 have cb := ltxt_ok key m (by omega) hT hm
 have p1 := twice_1 hT h60 n m
 obtain ⟨v, p2, p3, p4⟩ := twice_2 hT h60 n m
 have z1 := tB_size n key
 have z2 := tB_size m key
 have z3 : (tw1 (tB n key) (tB m key)).size <= 140737488351232 := by
  have e1 : (⟨#[123]⟩ : ByteArray).size = 1 := rfl
  have e2 : (⟨#[58, 49, 44]⟩ : ByteArray).size = 3 := rfl
  have e3 : (⟨#[58, 50, 125]⟩ : ByteArray).size = 3 := rfl
  unfold tw1
  simp only [ByteArray.size_append, e1, e2, e3]
  omega
 have c1 := parse_ok6 _ z3 5 (by decide)
 have c2 := parse_ok6 _ (Nat.le_trans p4 (by decide)) 5 (by decide)
 rw [p1] at c1
 rw [p2] at c2
 have e1 : parseR (.bad 5 ((tB n key).size + 4)) = .tup [.agg (cellsV vZero), vI ((tB n key).size + 4 : Nat), vI 5] := rfl
 have e2 : parseR (.good v 0) = .tup [.agg (cellsV v), vI 0, vI 0] := rfl
 rw [e1] at c1
 rw [e2] at c2
 unfold tw1 at c1
 unfold tw2 at c2
 simp only [cellsV, p3, Int.natCast_add] at c1 c2
 generalize tB n key = a at *
 generalize tB m key = b at *
 simp (implicitDefEqProofs := false) (disch := omega) only [go_sem, simprocAttr, cellsV, decide_true, beq_self_eq_true, ByteArray.size_append]
 with_reducible refine CallOk.of ca rfl ?_
 simp (implicitDefEqProofs := false) (disch := omega) only [go_sem, simprocAttr, cellsV, decide_true, beq_self_eq_true, ByteArray.size_append]
 with_reducible refine CallOk.of cb rfl ?_
 simp (implicitDefEqProofs := false) (disch := omega) only [go_sem, simprocAttr, cellsV, decide_true, beq_self_eq_true, ByteArray.size_append]
 with_reducible refine CallOk.of c1 rfl ?_
 simp (implicitDefEqProofs := false) (disch := omega) only [go_sem, simprocAttr, cellsV, decide_true, beq_self_eq_true, ByteArray.size_append]
 with_reducible refine CallOk.of c2 rfl ?_
 simp (implicitDefEqProofs := false) (disch := omega) only [go_sem, simprocAttr, cellsV, decide_true, beq_self_eq_true, ByteArray.size_append, encT, List.getD_cons_zero]
end Go.Proofs.YtcgmpcbkndpmbaaGreatDoor
