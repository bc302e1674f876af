import Derived.Test.YtcgmpcbkndpmbaaGreatDoorGP8
/-
 Whether anything is a value: the program's.
-/
open Go Go.Proofs Go.Pw Go.RowKit
namespace Go.Proofs.YtcgmpcbkndpmbaaGreatDoor
set_option maxRecDepth 4000
set_option linter.unusedVariables false
set_option linter.unusedSimpArgs false
attribute [local go_sem] Nat.le_refl Tryz.results20 Tryz.results42 Tryz.results43 Tryz.results45 Tryz.results46 Tryz.results66
theorem empty_lit : (⟨#[]⟩ : ByteArray) = ByteArray.empty := rfl
theorem kind_cases {k : Int} (h : 0 <= k /\ k <= 5) : k = 0 ∨ k = 1 ∨ k = 2 ∨ k = 3 ∨ k = 4 ∨ k = 5 := by omega
set_option maxHeartbeats 16000000 in
theorem bare_ok (v : V) (hr : 0 <= v.kind /\ v.kind <= 5) : Ok Tryz.prog 42 [.agg (cellsV v)] (vB (bareB v.kind v.b v.n v.s v.items.length v.keys.length)) := by
 refine Ok.of_pwp (by kernel_rfl) Tryz.func42 rfl (by kernel_rfl) (by kernel_rfl) ?_
 rcases kind_cases hr with hk | hk | hk | hk | hk | hk
 ·
  rcases Bool.eq_false_or_eq_true v.b with hb | hb
  ·have e : bareB v.kind v.b v.n v.s v.items.length v.keys.length = false := by simp [bareB, hk, hb]
   rw [e]
   simp (implicitDefEqProofs := false) (disch := omega) only [go_sem, simprocAttr, cellsV, hk, hb, empty_lit]
  by_cases hn : v.n = 0
  rotate_left
  ·have e : bareB v.kind v.b v.n v.s v.items.length v.keys.length = false := by simp [bareB, hk, hb, hn]
   rw [e]
   simp (implicitDefEqProofs := false) (disch := omega) only [go_sem, simprocAttr, cellsV, hk, hb, hn, empty_lit]
  by_cases hs : v.s = ByteArray.empty
  rotate_left
  ·have e : bareB v.kind v.b v.n v.s v.items.length v.keys.length = false := by simp [bareB, hk, hb, hn, hs]
   rw [e]
   simp (implicitDefEqProofs := false) (disch := omega) only [go_sem, simprocAttr, cellsV, hk, hb, hn, hs, empty_lit]
  by_cases hil : v.items.length = 0
  rotate_left
  ·have e : bareB v.kind v.b v.n v.s v.items.length v.keys.length = false := by simp [bareB, hk, hb, hn, hs, hil]
   rw [e]
   simp (implicitDefEqProofs := false) (disch := omega) only [go_sem, simprocAttr, cellsV, hk, hb, hn, hs, hil, empty_lit]
  by_cases hkl : v.keys.length = 0
  rotate_left
  ·have e : bareB v.kind v.b v.n v.s v.items.length v.keys.length = false := by simp [bareB, hk, hb, hn, hs, hil, hkl]
   rw [e]
   simp (implicitDefEqProofs := false) (disch := omega) only [go_sem, simprocAttr, cellsV, hk, hb, hn, hs, hil, hkl, empty_lit]
   all_goals simp [hkl]
  have e : bareB v.kind v.b v.n v.s v.items.length v.keys.length = true := by simp [bareB, hk, hb, hn, hs, hil, hkl]
  rw [e]
  simp (implicitDefEqProofs := false) (disch := omega) only [go_sem, simprocAttr, cellsV, hk, hb, hn, hs, hil, hkl, empty_lit]
  all_goals simp [hkl]
 ·
  by_cases hn : v.n = 0
  rotate_left
  ·have e : bareB v.kind v.b v.n v.s v.items.length v.keys.length = false := by simp [bareB, hk, hn]
   rw [e]
   simp (implicitDefEqProofs := false) (disch := omega) only [go_sem, simprocAttr, cellsV, hk, hn, empty_lit]
  by_cases hs : v.s = ByteArray.empty
  rotate_left
  ·have e : bareB v.kind v.b v.n v.s v.items.length v.keys.length = false := by simp [bareB, hk, hn, hs]
   rw [e]
   simp (implicitDefEqProofs := false) (disch := omega) only [go_sem, simprocAttr, cellsV, hk, hn, hs, empty_lit]
  by_cases hil : v.items.length = 0
  rotate_left
  ·have e : bareB v.kind v.b v.n v.s v.items.length v.keys.length = false := by simp [bareB, hk, hn, hs, hil]
   rw [e]
   simp (implicitDefEqProofs := false) (disch := omega) only [go_sem, simprocAttr, cellsV, hk, hn, hs, hil, empty_lit]
  by_cases hkl : v.keys.length = 0
  rotate_left
  ·have e : bareB v.kind v.b v.n v.s v.items.length v.keys.length = false := by simp [bareB, hk, hn, hs, hil, hkl]
   rw [e]
   simp (implicitDefEqProofs := false) (disch := omega) only [go_sem, simprocAttr, cellsV, hk, hn, hs, hil, hkl, empty_lit]
   all_goals simp [hkl]
  have e : bareB v.kind v.b v.n v.s v.items.length v.keys.length = true := by simp [bareB, hk, hn, hs, hil, hkl]
  rw [e]
  simp (implicitDefEqProofs := false) (disch := omega) only [go_sem, simprocAttr, cellsV, hk, hn, hs, hil, hkl, empty_lit]
  all_goals simp [hkl]
 ·
  rcases Bool.eq_false_or_eq_true v.b with hb | hb
  ·have e : bareB v.kind v.b v.n v.s v.items.length v.keys.length = false := by simp [bareB, hk, hb]
   rw [e]
   simp (implicitDefEqProofs := false) (disch := omega) only [go_sem, simprocAttr, cellsV, hk, hb, empty_lit]
  by_cases hs : v.s = ByteArray.empty
  rotate_left
  ·have e : bareB v.kind v.b v.n v.s v.items.length v.keys.length = false := by simp [bareB, hk, hb, hs]
   rw [e]
   simp (implicitDefEqProofs := false) (disch := omega) only [go_sem, simprocAttr, cellsV, hk, hb, hs, empty_lit]
  by_cases hil : v.items.length = 0
  rotate_left
  ·have e : bareB v.kind v.b v.n v.s v.items.length v.keys.length = false := by simp [bareB, hk, hb, hs, hil]
   rw [e]
   simp (implicitDefEqProofs := false) (disch := omega) only [go_sem, simprocAttr, cellsV, hk, hb, hs, hil, empty_lit]
  by_cases hkl : v.keys.length = 0
  rotate_left
  ·have e : bareB v.kind v.b v.n v.s v.items.length v.keys.length = false := by simp [bareB, hk, hb, hs, hil, hkl]
   rw [e]
   simp (implicitDefEqProofs := false) (disch := omega) only [go_sem, simprocAttr, cellsV, hk, hb, hs, hil, hkl, empty_lit]
   all_goals simp [hkl]
  have e : bareB v.kind v.b v.n v.s v.items.length v.keys.length = true := by simp [bareB, hk, hb, hs, hil, hkl]
  rw [e]
  simp (implicitDefEqProofs := false) (disch := omega) only [go_sem, simprocAttr, cellsV, hk, hb, hs, hil, hkl, empty_lit]
  all_goals simp [hkl]
 ·
  rcases Bool.eq_false_or_eq_true v.b with hb | hb
  ·have e : bareB v.kind v.b v.n v.s v.items.length v.keys.length = false := by simp [bareB, hk, hb]
   rw [e]
   simp (implicitDefEqProofs := false) (disch := omega) only [go_sem, simprocAttr, cellsV, hk, hb, empty_lit]
  by_cases hn : v.n = 0
  rotate_left
  ·have e : bareB v.kind v.b v.n v.s v.items.length v.keys.length = false := by simp [bareB, hk, hb, hn]
   rw [e]
   simp (implicitDefEqProofs := false) (disch := omega) only [go_sem, simprocAttr, cellsV, hk, hb, hn, empty_lit]
  by_cases hil : v.items.length = 0
  rotate_left
  ·have e : bareB v.kind v.b v.n v.s v.items.length v.keys.length = false := by simp [bareB, hk, hb, hn, hil]
   rw [e]
   simp (implicitDefEqProofs := false) (disch := omega) only [go_sem, simprocAttr, cellsV, hk, hb, hn, hil, empty_lit]
  by_cases hkl : v.keys.length = 0
  rotate_left
  ·have e : bareB v.kind v.b v.n v.s v.items.length v.keys.length = false := by simp [bareB, hk, hb, hn, hil, hkl]
   rw [e]
   simp (implicitDefEqProofs := false) (disch := omega) only [go_sem, simprocAttr, cellsV, hk, hb, hn, hil, hkl, empty_lit]
   all_goals simp [hkl]
  have e : bareB v.kind v.b v.n v.s v.items.length v.keys.length = true := by simp [bareB, hk, hb, hn, hil, hkl]
  rw [e]
  simp (implicitDefEqProofs := false) (disch := omega) only [go_sem, simprocAttr, cellsV, hk, hb, hn, hil, hkl, empty_lit]
  all_goals simp [hkl]
 ·
  rcases Bool.eq_false_or_eq_true v.b with hb | hb
  ·have e : bareB v.kind v.b v.n v.s v.items.length v.keys.length = false := by simp [bareB, hk, hb]
   rw [e]
   simp (implicitDefEqProofs := false) (disch := omega) only [go_sem, simprocAttr, cellsV, hk, hb, empty_lit]
  by_cases hn : v.n = 0
  rotate_left
  ·have e : bareB v.kind v.b v.n v.s v.items.length v.keys.length = false := by simp [bareB, hk, hb, hn]
   rw [e]
   simp (implicitDefEqProofs := false) (disch := omega) only [go_sem, simprocAttr, cellsV, hk, hb, hn, empty_lit]
  by_cases hs : v.s = ByteArray.empty
  rotate_left
  ·have e : bareB v.kind v.b v.n v.s v.items.length v.keys.length = false := by simp [bareB, hk, hb, hn, hs]
   rw [e]
   simp (implicitDefEqProofs := false) (disch := omega) only [go_sem, simprocAttr, cellsV, hk, hb, hn, hs, empty_lit]
  by_cases hkl : v.keys.length = 0
  rotate_left
  ·have e : bareB v.kind v.b v.n v.s v.items.length v.keys.length = false := by simp [bareB, hk, hb, hn, hs, hkl]
   rw [e]
   simp (implicitDefEqProofs := false) (disch := omega) only [go_sem, simprocAttr, cellsV, hk, hb, hn, hs, hkl, empty_lit]
   all_goals simp [hkl]
  have e : bareB v.kind v.b v.n v.s v.items.length v.keys.length = true := by simp [bareB, hk, hb, hn, hs, hkl]
  rw [e]
  simp (implicitDefEqProofs := false) (disch := omega) only [go_sem, simprocAttr, cellsV, hk, hb, hn, hs, hkl, empty_lit]
  all_goals simp [hkl]
 ·
  rcases Bool.eq_false_or_eq_true v.b with hb | hb
  ·have e : bareB v.kind v.b v.n v.s v.items.length v.keys.length = false := by simp [bareB, hk, hb]
   rw [e]
   simp (implicitDefEqProofs := false) (disch := omega) only [go_sem, simprocAttr, cellsV, hk, hb, empty_lit]
  by_cases hn : v.n = 0
  rotate_left
  ·have e : bareB v.kind v.b v.n v.s v.items.length v.keys.length = false := by simp [bareB, hk, hb, hn]
   rw [e]
   simp (implicitDefEqProofs := false) (disch := omega) only [go_sem, simprocAttr, cellsV, hk, hb, hn, empty_lit]
  by_cases hs : v.s = ByteArray.empty
  rotate_left
  ·have e : bareB v.kind v.b v.n v.s v.items.length v.keys.length = false := by simp [bareB, hk, hb, hn, hs]
   rw [e]
   simp (implicitDefEqProofs := false) (disch := omega) only [go_sem, simprocAttr, cellsV, hk, hb, hn, hs, empty_lit]
  have e : bareB v.kind v.b v.n v.s v.items.length v.keys.length = true := by simp [bareB, hk, hb, hn, hs]
  rw [e]
  simp (implicitDefEqProofs := false) (disch := omega) only [go_sem, simprocAttr, cellsV, hk, hb, hn, hs, empty_lit]
theorem sort_snoc {l : List ByteArray} {i : Nat} (h : SortT (l.take i)) (hi : i < l.length) (hl : 0 < i -> ltT (l.getD (i - 1) ByteArray.empty) (l.getD i ByteArray.empty) = true) : SortT (l.take (i + 1)) := by
 rw [take_snocG (d := ByteArray.empty) hi]
 refine List.pairwise_append.2 ⟨h, List.pairwise_singleton _ _, fun a ha b hb => ?_⟩
 rw [List.mem_singleton.1 hb]
 obtain ⟨j, hj⟩ := List.mem_iff_getElem?.1 ha
 have hj' := (List.getElem?_eq_some_iff.1 hj).1
 rw [List.length_take] at hj'
 have hji : j < i := by omega
 have hlast := hl (by omega)
 rw [List.getElem?_take, if_pos hji] at hj
 have ej : l.getD j ByteArray.empty = a := by rw [List.getD_eq_getElem?_getD, hj]; rfl
 rcases Nat.lt_or_eq_of_le (show j <= i - 1 by omega) with h1 | h1
 ·have := h.get (i := j) (j := i - 1) h1 (by rw [List.length_take]; omega)
  have g : ∀ m, m < i -> (l.take i).getD m ByteArray.empty = l.getD m ByteArray.empty := fun m hm => by
   rw [List.getD_eq_getElem?_getD, List.getD_eq_getElem?_getD, List.getElem?_take, if_pos hm]
  rw [g j hji, g (i - 1) (by omega), ej] at this
  exact ltT_trans this hlast
 ·rw [<- ej, h1]; exact hlast
theorem keys_bad {l : List ByteArray} {k : Int} {il i : Nat} (hi : i < l.length) (h : isT (l.getD i ByteArray.empty) = false ∨ (0 < i /\ ltT (l.getD (i - 1) ByteArray.empty) (l.getD i ByteArray.empty) = false)) : keyedB k il l = false := by
 unfold keyedB
 rcases h with h | ⟨h0, h⟩
 ·have : l.all isT = false := List.all_eq_false.2 ⟨_, getD_mem hi, by rw [h]; decide⟩
  rw [this]; rfl
 ·have : sortB l = false := by
   cases hs : sortB l with
   | false => rfl
   | true =>
    have := ((sortB_iff l).1 hs).get (i := i - 1) (j := i) (by omega) hi
    rw [h] at this; cases this
  rw [this, Bool.and_false]; rfl
set_option maxHeartbeats 16000000 in
theorem keyed_ok (v : V) (hv : szV v <= 1000000) : Ok Tryz.prog 43 [.agg (cellsV v)] (vB (keyedB v.kind v.items.length v.keys)) := by
 obtain ⟨hl, hl2, _, _⟩ := V.small hv
 have hfew := (V.few hv).2
 refine Ok.of_pwp (by kernel_rfl) Tryz.func43 rfl (by kernel_rfl) (by kernel_rfl) ?_
 obtain ⟨rr, hr⟩ : ∃ rr, keyedB v.kind v.items.length v.keys = rr := ⟨_, rfl⟩
 rw [hr]
 simp (implicitDefEqProofs := false) (disch := omega) only [go_sem, simprocAttr, cellsV]
 refine p_loop (ι := { i : Nat // i <= v.keys.length /\ (v.keys.take i).all isT = true /\ SortT (v.keys.take i) })
  (fun p => ⟨[(8, vI p.1), (7, vI v.keys.length), (6, .sl (encT v.keys)), (1, .ptr 0 0)], [(0, .box 33 (cellsV v))], [], 1, 0⟩) (fun p => v.keys.length - p.1) ⟨0, Nat.zero_le _, rfl, List.Pairwise.nil⟩ ?_ ?_
 ·constructor <;> simp only [go_sem, simprocAttr, decide_eq_true_eq, Int.natCast_zero] <;> try ((repeat' apply And.intro) <;> first | rfl | omega | (congr 3; omega) | (congr 2; omega))
 ·rintro ⟨i, g1, g2, g3⟩
  simp only at g1 g2 g3 ⊢
  by_cases hi : i < v.keys.length
  ·have ht := text_ok (v.keys.getD i ByteArray.empty) (hfew _ (getD_mem hi))
   cases hti : isT (v.keys.getD i ByteArray.empty) with
   | false =>
    rw [keys_bad hi (.inl hti)] at hr
    rw [<- hr]
    rw [hti] at ht
    simp (implicitDefEqProofs := false) (disch := omega) only [go_sem, simprocAttr, cellsV]
    with_reducible refine CallOk.of (ht) rfl ?_
    simp (implicitDefEqProofs := false) (disch := omega) only [go_sem, simprocAttr, cellsV]
   | true =>
    rw [hti] at ht
    have hall : (v.keys.take (i + 1)).all isT = true := by rw [take_snocG (d := ByteArray.empty) hi, List.all_append, g2, List.all_cons, hti]; rfl
    by_cases h0 : i = 0
    ·subst h0
     simp (implicitDefEqProofs := false) (disch := omega) only [go_sem, simprocAttr, cellsV]
     with_reducible refine CallOk.of (ht) rfl ?_
     simp (implicitDefEqProofs := false) (disch := omega) only [go_sem, simprocAttr, cellsV]
     refine ⟨⟨1, hi, hall, sort_snoc g3 hi (fun h => absurd h (by decide))⟩, by simp only; omega, ?_⟩
     constructor <;> simp only [go_sem, simprocAttr, decide_eq_true_eq, Int.natCast_add, Int.natCast_one] <;> try ((repeat' apply And.intro) <;> first | rfl | omega | (congr 3; omega) | (congr 2; omega))
    ·have hw : (i : Int) - 1 = ((i - 1 : Nat) : Int) := by omega
     cases hlt : ltT (v.keys.getD (i - 1) ByteArray.empty) (v.keys.getD i ByteArray.empty) with
     | false =>
      rw [keys_bad hi (.inr ⟨by omega, hlt⟩)] at hr
      rw [<- hr]
      unfold ltT at hlt
      simp (implicitDefEqProofs := false) (disch := omega) only [go_sem, simprocAttr, cellsV]
      with_reducible refine CallOk.of ht rfl ?_
      simp (implicitDefEqProofs := false) (disch := omega) only [go_sem, simprocAttr, cellsV, hw, hlt]
     | true =>
      have hsn := sort_snoc g3 hi (fun _ => hlt)
      unfold ltT at hlt
      simp (implicitDefEqProofs := false) (disch := omega) only [go_sem, simprocAttr, cellsV]
      with_reducible refine CallOk.of ht rfl ?_
      simp (implicitDefEqProofs := false) (disch := omega) only [go_sem, simprocAttr, cellsV, hw, hlt]
      refine ⟨⟨i + 1, hi, hall, hsn⟩, by simp only; omega, ?_⟩
      constructor <;> simp only [go_sem, simprocAttr, decide_eq_true_eq, Int.natCast_add, Int.natCast_one] <;> try ((repeat' apply And.intro) <;> first | rfl | omega | (congr 3; omega) | (congr 2; omega))
  ·rw [List.take_of_length_le (by omega)] at g2 g3
   unfold keyedB at hr
   rw [g2, (sortB_iff _).2 g3] at hr
   by_cases h5 : v.kind = 5
   ·by_cases he : v.keys.length = v.items.length
    ·rw [<- hr]
     simp (implicitDefEqProofs := false) (disch := omega) only [go_sem, simprocAttr, cellsV, h5, he, decide_true, Bool.or_true, Bool.and_self]
    ·rw [<- hr]
     simp (implicitDefEqProofs := false) (disch := omega) only [go_sem, simprocAttr, cellsV, h5, he]
     simp [h5, he]
     try omega
   ·rw [<- hr]
    simp (implicitDefEqProofs := false) (disch := omega) only [go_sem, simprocAttr, cellsV, h5]
    simp [h5]
def idxG (l : List V) : Int := if l.any (fun s => !goodB s) = true then (l.findIdx (fun s => !goodB s) : Int) else -1
set_option maxHeartbeats 4000000 in
theorem idxV_ok (l : List V) (hf : ∀ i, i < l.length -> Ok Tryz.prog 46 [.agg (cellsV (l.getD i default))] (vB (!goodB (l.getD i default)))) (hl : l.length <= 140737488351232) : Ok Tryz.prog 66 [.sl (encV l), .fn 46 []] (vI (idxG l)) := by
 refine Ok.of_pwp (by kernel_rfl) Tryz.func66 rfl (by kernel_rfl) (by kernel_rfl) ?_
 generalize hr : idxG l = rr
 simp (implicitDefEqProofs := false) (disch := omega) only [go_sem, simprocAttr, cellsV]
 refine p_loop (ι := { i : Nat // i <= l.length /\ (l.take i).any (fun s => !goodB s) = false }) (fun p => ⟨[(8, vI p.1), (7, vI l.length), (0, .sl (encV l)), (1, .fn 46 [])], [], [], 0, 0⟩) (fun p => l.length - p.1) ⟨0, Nat.zero_le _, rfl⟩ ?_ ?_
 ·constructor <;> simp only [go_sem, simprocAttr, decide_eq_true_eq, Int.natCast_zero] <;> try ((repeat' apply And.intro) <;> first | rfl | omega | (congr 3; omega) | (congr 2; omega))
 ·rintro ⟨i, h1, h2⟩
  simp only
  simp (implicitDefEqProofs := false) (disch := omega) only [go_sem, simprocAttr, cellsV]
  with_reducible refine ifK_split (fun hlt => ?_) (fun hge => ?_)
  ·have hi : i < l.length := by omega
   simp (implicitDefEqProofs := false) (disch := omega) only [go_sem, simprocAttr, cellsV]
   with_reducible refine CallOk.of (hf i hi) rfl ?_
   have eg : l.getD i default = l[i] := by rw [List.getD_eq_getElem?_getD, List.getElem?_eq_getElem hi]; rfl
   cases hw : (!goodB (l.getD i default)) with
   | true =>
    simp (implicitDefEqProofs := false) (disch := omega) only [go_sem, simprocAttr, cellsV]
    rw [<- hr, idxG, if_pos (List.any_eq_true.2 ⟨l[i], List.getElem_mem hi, by rw [<- eg]; exact hw⟩)]
    have : l.findIdx (fun s => !goodB s) = i := by
     rw [List.findIdx_eq hi]
     refine ⟨by rw [<- eg]; exact hw, fun j hj => ?_⟩
     have := List.any_eq_false.1 h2 (l[j]) (by rw [List.mem_take_iff_getElem]; exact ⟨j, by omega, rfl⟩)
     simpa using this
    rw [this]
   | false =>
    simp (implicitDefEqProofs := false) (disch := omega) only [go_sem, simprocAttr, cellsV]
    refine ⟨⟨i + 1, by omega, by rw [take_snocG (d := default) hi, List.any_append, h2, List.any_cons, hw]; rfl⟩, by simp only; omega, ?_⟩
    constructor <;> simp only [go_sem, simprocAttr, decide_eq_true_eq, Int.natCast_add, Int.natCast_one] <;> try ((repeat' apply And.intro) <;> first | rfl | omega | (congr 3; omega) | (congr 2; omega))
  ·rw [List.take_of_length_le (by omega)] at h2
   simp (implicitDefEqProofs := false) (disch := omega) only [go_sem, simprocAttr, cellsV]
   rw [<- hr, idxG, h2]
   rfl
theorem contV_ok (l : List V) (hf : ∀ i, i < l.length -> Ok Tryz.prog 46 [.agg (cellsV (l.getD i default))] (vB (!goodB (l.getD i default)))) (hl : l.length <= 140737488351232) : Ok Tryz.prog 45 [.sl (encV l), .fn 46 []] (vB (l.any fun s => !goodB s)) := by
 refine Ok.of_pwp (by kernel_rfl) Tryz.func45 rfl (by kernel_rfl) (by kernel_rfl) ?_
 simp (implicitDefEqProofs := false) (disch := omega) only [go_sem, simprocAttr, cellsV]
 with_reducible refine CallOk.of (idxV_ok l hf hl) rfl ?_
 cases h : l.any (fun s => !goodB s) with
 | true =>
  have e : idxG l = (l.findIdx (fun s => !goodB s) : Int) := by rw [idxG, h]; rfl
  rw [e]
  simp (implicitDefEqProofs := false) (disch := omega) only [go_sem, simprocAttr, cellsV]
  rw [decide_eq_true (by omega)]
 | false =>
  have e : idxG l = -1 := by rw [idxG, h]; rfl
  rw [e]
  simp (implicitDefEqProofs := false) (disch := omega) only [go_sem, simprocAttr, cellsV]
theorem g1_of {v : V} (h : Ok Tryz.prog 20 [.agg (cellsV v)] (vB (goodB v))) : Ok Tryz.prog 46 [.agg (cellsV v)] (vB (!goodB v)) := by
 refine Ok.of_pwp (by kernel_rfl) Tryz.func46 rfl (by kernel_rfl) (by kernel_rfl) ?_
 simp (implicitDefEqProofs := false) (disch := omega) only [go_sem, simprocAttr, cellsV]
 with_reducible refine CallOk.of (h) rfl ?_
 simp (implicitDefEqProofs := false) (disch := omega) only [go_sem, simprocAttr, cellsV]
theorem not_any (l : List V) : (!(l.any fun s => !goodB s)) = l.all goodB := by
 induction l with
 | nil => rfl
 | cons x r ih => simp only [List.any_cons, List.all_cons, Bool.not_or, Bool.not_not, ih]
set_option maxHeartbeats 16000000 in
theorem good_ok : ∀ v, szV v <= 1000000 -> Ok Tryz.prog 20 [.agg (cellsV v)] (vB (goodB v)) := by
 refine V.ind fun v ih hv => ?_
 obtain ⟨hl, hl2, hx, _⟩ := V.small hv
 have hss := (V.few hv).1
 have hit : ∀ i, i < v.items.length -> Ok Tryz.prog 46 [.agg (cellsV (v.items.getD i default))] (vB (!goodB (v.items.getD i default))) := fun i hi => g1_of (ih _ (getD_mem hi) (hx _ (getD_mem hi)))
 have hc := contV_ok v.items hit (by omega)
 have hk := keyed_ok v hv
 have ht := text_ok v.s hss
 refine Ok.of_pwp (by kernel_rfl) Tryz.func20 rfl (by kernel_rfl) (by kernel_rfl) ?_
 obtain ⟨rr, hr⟩ : ∃ rr, goodB v = rr := ⟨_, rfl⟩
 have hr0 := hr
 rw [hr]
 rw [goodB_eq] at hr
 by_cases h1 : 0 <= v.kind /\ v.kind <= 5
 rotate_left
 ·rw [decide_eq_false h1] at hr
  simp only [Bool.false_and] at hr
  rw [<- hr]
  by_cases h2 : v.kind < 0
  ·simp (implicitDefEqProofs := false) (disch := omega) only [go_sem, simprocAttr, cellsV]
  ·simp (implicitDefEqProofs := false) (disch := omega) only [go_sem, simprocAttr, cellsV]
 rw [decide_eq_true h1, Bool.true_and] at hr
 have hb := bare_ok v h1
 generalize bareB v.kind v.b v.n v.s v.items.length v.keys.length = bb at *
 cases bb with
 | false =>
  rw [Bool.false_and] at hr
  simp only [Bool.false_and] at hr
  rw [<- hr]
  simp (implicitDefEqProofs := false) (disch := omega) only [go_sem, simprocAttr, cellsV]
  with_reducible refine CallOk.of (hb) rfl ?_
  simp (implicitDefEqProofs := false) (disch := omega) only [go_sem, simprocAttr, cellsV]
 | true =>
  rw [Bool.true_and] at hr
  generalize keyedB v.kind v.items.length v.keys = kb at *
  cases kb with
  | false =>
   simp only [Bool.false_and] at hr
   rw [<- hr]
   simp (implicitDefEqProofs := false) (disch := omega) only [go_sem, simprocAttr, cellsV]
   with_reducible refine CallOk.of (hb) rfl ?_
   simp (implicitDefEqProofs := false) (disch := omega) only [go_sem, simprocAttr, cellsV]
   with_reducible refine CallOk.of (hk) rfl ?_
   simp (implicitDefEqProofs := false) (disch := omega) only [go_sem, simprocAttr, cellsV]
  | true =>
   rw [Bool.true_and] at hr
   generalize isT v.s = tb at *
   cases tb with
   | false =>
    simp only [Bool.false_and] at hr
    rw [<- hr]
    simp (implicitDefEqProofs := false) (disch := omega) only [go_sem, simprocAttr, cellsV]
    with_reducible refine CallOk.of (hb) rfl ?_
    simp (implicitDefEqProofs := false) (disch := omega) only [go_sem, simprocAttr, cellsV]
    with_reducible refine CallOk.of (hk) rfl ?_
    simp (implicitDefEqProofs := false) (disch := omega) only [go_sem, simprocAttr, cellsV]
    with_reducible refine CallOk.of (ht) rfl ?_
    simp (implicitDefEqProofs := false) (disch := omega) only [go_sem, simprocAttr, cellsV]
   | true =>
    rw [Bool.true_and] at hr
    rw [<- hr, <- not_any]
    simp (implicitDefEqProofs := false) (disch := omega) only [go_sem, simprocAttr, cellsV]
    with_reducible refine CallOk.of (hb) rfl ?_
    simp (implicitDefEqProofs := false) (disch := omega) only [go_sem, simprocAttr, cellsV]
    with_reducible refine CallOk.of (hk) rfl ?_
    simp (implicitDefEqProofs := false) (disch := omega) only [go_sem, simprocAttr, cellsV]
    with_reducible refine CallOk.of (ht) rfl ?_
    simp (implicitDefEqProofs := false) (disch := omega) only [go_sem, simprocAttr, cellsV]
    with_reducible refine CallOk.of (hc) rfl ?_
    simp (implicitDefEqProofs := false) (disch := omega) only [go_sem, simprocAttr, cellsV]
end Go.Proofs.YtcgmpcbkndpmbaaGreatDoor
