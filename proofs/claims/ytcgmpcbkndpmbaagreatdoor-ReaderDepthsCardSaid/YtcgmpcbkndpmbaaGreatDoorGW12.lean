/-
  Contracts and plain laws on the way to the statement; each says its own conditions.
-/
import Derived.Test.YtcgmpcbkndpmbaaGreatDoorGW10
import Derived.Test.YtcgmpcbkndpmbaaGreatDoorGW6
import Derived.Test.YtcgmpcbkndpmbaaGreatDoorGW7
import Derived.Test.YtcgmpcbkndpmbaaGreatDoorGW8
import Derived.Test.YtcgmpcbkndpmbaaGreatDoorGW3
section
open Go Go.Proofs Go.Pw Go.RowKit
namespace Go.Proofs.YtcgmpcbkndpmbaaGreatDoor
set_option maxRecDepth 4000
set_option linter.unusedVariables false
set_option linter.unusedSimpArgs false
theorem pV_fits' (s : ByteArray) : fits (pV s) := by
 unfold pV
 split
 ·rename_i h
  unfold pC at h
  split at h
  ·split at h
   ·assumption
   ·exact absurd h (by decide)
  ·exact absurd h (by decide)
 ·unfold fits; decide
theorem b10 : bt wd1 0 = 116 := rfl
end Go.Proofs.YtcgmpcbkndpmbaaGreatDoor

end
section
open Go Go.Proofs Go.Pw Go.RowKit
namespace Go.Proofs.YtcgmpcbkndpmbaaGreatDoor
set_option maxRecDepth 4000
set_option linter.unusedVariables false
set_option linter.unusedSimpArgs false
attribute [local go_sem] Nat.le_refl Tryz.results23
def putF (v : V) (key : ByteArray) (x : V) : PV :=
 if foundT v.keys key = true then .tup [.agg (cellsV v), vB false]
 else .tup [.agg (cellsV (.mk 5 false 0 ByteArray.empty (insAt v.items (posT v.keys key) x) (insAt v.keys (posT v.keys key) key))), vB true]
set_option maxHeartbeats 8000000 in
theorem put_ok (v : V) (key : ByteArray) (x : V) (hv : szV v <= 1000000) (hk : v.keys.length <= v.items.length) : Ok Tryz.prog 23 [.agg (cellsV v), vS key, .agg (cellsV x)] (putF v key x) := by
 obtain ⟨hl, hl2, hx, hs⟩ := V.small hv
 suffices key : ∀ rr, rr = putF v key x -> Ok Tryz.prog 23 [.agg (cellsV v), vS key, .agg (cellsV x)] rr from key _ rfl
 intro rr hr
 refine Ok.of_pwp (by kernel_rfl) Tryz.func23 rfl (by kernel_rfl) (by kernel_rfl) ?_
 simp (implicitDefEqProofs := false) (disch := omega) only [go_sem, simprocAttr, cellsV, encT_take, encT_drop, encV_take, encV_drop, List.take_length]
 refine p_loop (ι := { i : Nat // i <= v.keys.length /\ ∀ k, k < i -> ltT (v.keys.getD k ByteArray.empty) key = true })
  (fun p => ⟨[(8, vI p.1), (7, vB false), (6, .ptr 2 0), (5, .ptr 1 0), (3, .ptr 0 0), (1, vS key)], [(2, .box 28 [vI 0, vB false, vI 0, vS ByteArray.empty, vNil, vNil]), (1, .box 28 (cellsV x)), (0, .box 28 (cellsV v))], [], 3, 0⟩) (fun p => v.keys.length - p.1) ⟨0, Nat.zero_le _, fun k h => absurd h (Nat.not_lt_zero _)⟩ ?_ ?_
 ·constructor <;> simp only [go_sem, simprocAttr, decide_eq_true_eq, Int.natCast_zero] <;> try ((repeat' apply And.intro) <;> first | rfl | omega | (congr 3; omega) | (congr 2; omega))
 ·rintro ⟨i, h1, h2⟩
  simp only at h1 h2 ⊢
  by_cases hi : i < v.keys.length
  ·cases hc : ltT (v.keys.getD i ByteArray.empty) key with
   | true =>
    unfold ltT at hc
    simp (implicitDefEqProofs := false) (disch := omega) only [go_sem, simprocAttr, cellsV, hc]
    refine ⟨⟨i + 1, hi, fun k hk => ?_⟩, by simp only; omega, ?_⟩
    ·rcases Nat.lt_or_eq_of_le (Nat.le_of_lt_succ hk) with h | h
     ·exact h2 k h
     ·rw [h]; exact hc
    ·constructor <;> simp only [go_sem, simprocAttr, decide_eq_true_eq, Int.natCast_add, Int.natCast_one] <;> try ((repeat' apply And.intro) <;> first | rfl | omega | (congr 3; omega) | (congr 2; omega))
   | false =>
    have hp : posT v.keys key = i := posT_of h1 h2 (fun _ => hc)
    have hf : foundT v.keys key = decide (v.keys.getD i ByteArray.empty = key) := by unfold foundT; rw [hp, decide_eq_true hi, Bool.true_and]
    unfold ltT at hc
    unfold putF at hr
    rw [hf, hp] at hr
    by_cases he : v.keys.getD i ByteArray.empty = key
    ·rw [if_pos (decide_eq_true he)] at hr
     have hc' := hc
     rw [he] at hc'
     simp (implicitDefEqProofs := false) (disch := omega) only [go_sem, simprocAttr, cellsV, he, hc']
     rw [hr]
    ·rw [if_neg (by rw [decide_eq_false he]; decide)] at hr
     simp (implicitDefEqProofs := false) (disch := omega) only [go_sem, simprocAttr, cellsV, hc, he, encT_take, encT_drop, encV_take, encV_drop]
     (have ht1 : (v.keys.take i).length = i := by rw [List.length_take]; omega); (have ht2 : (v.items.take i).length = i := by rw [List.length_take]; omega); (have ht3 : (v.keys.drop i).length = v.keys.length - i := List.length_drop); (have ht4 : (v.items.drop i).length = v.items.length - i := List.length_drop); refine appZ_any rfl rfl (by rw [encT_len, List.length_nil]; omega) (by rw [encT_len, List.length_nil]; omega) ?_; (simp (implicitDefEqProofs := false) (disch := omega) only [go_sem, simprocAttr, cellsV, encT_take, encT_drop, encV_take, encV_drop, List.take_length]); refine appZ_any rfl (by simp only [List.length_append, encT_len, List.length_singleton]) (by simp only [List.length_append, encT_len, List.length_singleton]; omega) (by simp only [List.length_append, encT_len, List.length_singleton]; omega) ?_; (simp (implicitDefEqProofs := false) (disch := omega) only [go_sem, simprocAttr, cellsV, encT_take, encT_drop, encV_take, encV_drop, List.take_length]); refine appZ_any rfl rfl (by rw [encV_len, List.length_nil]; omega) (by rw [encV_len, List.length_nil]; omega) ?_; (simp (implicitDefEqProofs := false) (disch := omega) only [go_sem, simprocAttr, cellsV, encT_take, encT_drop, encV_take, encV_drop, List.take_length]); refine appZ_any rfl (by simp only [List.length_append, encV_len, List.length_singleton]) (by simp only [List.length_append, encV_len, List.length_singleton]; omega) (by simp only [List.length_append, encV_len, List.length_singleton]; omega) ?_; (simp (implicitDefEqProofs := false) (disch := omega) only [go_sem, simprocAttr, cellsV, encT_take, encT_drop, encV_take, encV_drop, List.take_length]); rw [hr]; simp only [insAt, encT, encV_map, List.map_append, List.map_cons, List.map_nil, cellsV, V.kind_mk, V.b_mk, V.n_mk, V.s_mk, V.items_mk, V.keys_mk]
  ·have hie : i = v.keys.length := by omega
   have hp : posT v.keys key = i := posT_of h1 h2 (fun h => absurd h hi)
   have hf : foundT v.keys key = false := by unfold foundT; rw [hp, decide_eq_false hi, Bool.false_and]
   unfold putF at hr
   rw [if_neg (by rw [hf]; decide), hp] at hr
   simp (implicitDefEqProofs := false) (disch := omega) only [go_sem, simprocAttr, cellsV, encT_take, encT_drop, encV_take, encV_drop, List.take_length]
   (have ht1 : (v.keys.take i).length = i := by rw [List.length_take]; omega); (have ht2 : (v.items.take i).length = i := by rw [List.length_take]; omega); (have ht3 : (v.keys.drop i).length = v.keys.length - i := List.length_drop); (have ht4 : (v.items.drop i).length = v.items.length - i := List.length_drop); refine appZ_any rfl rfl (by rw [encT_len, List.length_nil]; omega) (by rw [encT_len, List.length_nil]; omega) ?_; (simp (implicitDefEqProofs := false) (disch := omega) only [go_sem, simprocAttr, cellsV, encT_take, encT_drop, encV_take, encV_drop, List.take_length]); refine appZ_any rfl (by simp only [List.length_append, encT_len, List.length_singleton]) (by simp only [List.length_append, encT_len, List.length_singleton]; omega) (by simp only [List.length_append, encT_len, List.length_singleton]; omega) ?_; (simp (implicitDefEqProofs := false) (disch := omega) only [go_sem, simprocAttr, cellsV, encT_take, encT_drop, encV_take, encV_drop, List.take_length]); refine appZ_any rfl rfl (by rw [encV_len, List.length_nil]; omega) (by rw [encV_len, List.length_nil]; omega) ?_; (simp (implicitDefEqProofs := false) (disch := omega) only [go_sem, simprocAttr, cellsV, encT_take, encT_drop, encV_take, encV_drop, List.take_length]); refine appZ_any rfl (by simp only [List.length_append, encV_len, List.length_singleton]) (by simp only [List.length_append, encV_len, List.length_singleton]; omega) (by simp only [List.length_append, encV_len, List.length_singleton]; omega) ?_; (simp (implicitDefEqProofs := false) (disch := omega) only [go_sem, simprocAttr, cellsV, encT_take, encT_drop, encV_take, encV_drop, List.take_length]); rw [hr]; simp only [insAt, encT, encV_map, List.map_append, List.map_cons, List.map_nil, cellsV, V.kind_mk, V.b_mk, V.n_mk, V.s_mk, V.items_mk, V.keys_mk]
end Go.Proofs.YtcgmpcbkndpmbaaGreatDoor

end
section
open Go Go.Proofs Go.Pw Go.RowKit
namespace Go.Proofs.YtcgmpcbkndpmbaaGreatDoor
set_option maxRecDepth 4000
set_option linter.unusedVariables false
set_option linter.unusedSimpArgs false
theorem putAll_snoc : ∀ (ks : List ByteArray) (l : List V) (K0 : List ByteArray) (I0 : List V) (k : ByteArray) (v : V), ks.length = l.length -> putAll K0 I0 (ks ++ [k]) (l ++ [v]) = (match putAll K0 I0 ks l with
  | some (K, I) => if foundT K k = true then none else some (insAt K (posT K k) k, insAt I (posT K k) v)
  | none => none)
 | [], [], K0, I0, k, v, h => by
  have e : putAll K0 I0 [] [] = some (K0, I0) := by rw [putAll]; intro a b c d h; cases h
  rw [e]
  simp only [List.nil_append]
  rw [putAll]
  split
  ·rfl
  ·rw [putAll]; intro a b c d h; cases h
 | x :: r, y :: m, K0, I0, k, v, h => by
  rw [List.cons_append, List.cons_append, putAll, putAll]
  split
  ·rfl
  ·exact putAll_snoc r m _ _ k v (by simpa using h)
 | [], y :: m, K0, I0, k, v, h => by simp at h
 | x :: r, [], K0, I0, k, v, h => by simp at h
structure OrdI (ks : List ByteArray) (l : List V) (K : List ByteArray) (I : List V) : Prop where
 e : putAll [] [] ks l = some (K, I)
 sort : SortT K
 mem : ∀ x, x ∈ K ↔ x ∈ ks
 len : K.length = I.length
 len2 : ks.length = l.length
theorem OrdI.nil : OrdI [] [] [] [] := by
 refine ⟨?_, List.Pairwise.nil, fun x => Iff.rfl, rfl, rfl⟩
 rfl
theorem mem_insAt {α : Type} {l : List α} {i : Nat} {y x : α} : x ∈ insAt l i y ↔ x ∈ l ∨ x = y := by
 unfold insAt
 have e : l = l.take i ++ l.drop i := (List.take_append_drop i l).symm
 rw [List.mem_append, List.mem_append, List.mem_singleton]
 have h2 : x ∈ l ↔ x ∈ l.take i ∨ x ∈ l.drop i := by
  conv => lhs; rw [e]
  exact List.mem_append
 rw [h2]
 constructor
 ·rintro ((h | h) | h)
  ·exact .inl (.inl h)
  ·exact .inr h
  ·exact .inl (.inr h)
 ·rintro ((h | h) | h)
  ·exact .inl (.inl h)
  ·exact .inr h
  ·exact .inl (.inr h)
theorem found_mem {l : List ByteArray} {t : ByteArray} (h : foundT l t = true) : t ∈ l := by
 unfold foundT at h
 simp only [Bool.and_eq_true, decide_eq_true_eq] at h
 rw [<- h.2, List.getD_eq_getElem?_getD, List.getElem?_eq_getElem h.1]
 exact List.getElem_mem h.1
theorem OrdI.found {ks : List ByteArray} {l : List V} {K : List ByteArray} {I : List V} (h : OrdI ks l K I) {key : ByteArray} (hk : key ∉ ks) : foundT K key = false := by
 cases hf : foundT K key with
 | false => rfl
 | true => exact absurd ((h.mem key).1 (found_mem hf)) hk
theorem OrdI.step {ks : List ByteArray} {l : List V} {K : List ByteArray} {I : List V} (h : OrdI ks l K I) {key : ByteArray} (hk : key ∉ ks) (v : V) : OrdI (ks ++ [key]) (l ++ [v]) (insAt K (posT K key) key) (insAt I (posT K key) v) := by
 have hf := h.found hk
 have hp := posT_le K key
 refine ⟨?_, ins_sort h.sort hf, fun x => ?_, ?_, by simp [h.len2]⟩
 ·rw [putAll_snoc ks l [] [] key v h.len2, h.e]
  simp only
  rw [if_neg (by rw [hf]; decide)]
 ·rw [mem_insAt, h.mem, List.mem_append, List.mem_singleton]
 ·rw [insAt_len hp, insAt_len (by rw [<- h.len]; exact hp), h.len]
theorem OrdI.val {ks : List ByteArray} {l : List V} {K : List ByteArray} {I : List V} (h : OrdI ks l K I) : objV ks l = .mk 5 false 0 ByteArray.empty I K := by
 unfold objV
 rw [h.e]
theorem any_mem {ks : List ByteArray} {key : ByteArray} : (ks.any fun k => decide (k = key)) = true ↔ key ∈ ks := by
 rw [List.any_eq_true]
 constructor
 ·rintro ⟨x, h1, h2⟩
  rw [<- of_decide_eq_true h2]; exact h1
 ·exact fun h => ⟨key, h, decide_eq_true rfl⟩
def An.pure (A : An) : Prop := (A.code ≠ 0 -> A = .bad A.code A.place) /\ (A.code = 0 -> A = .good A.v A.at_)
theorem An.bad_pure (e : Int) (p : Nat) (h : e ≠ 0) : (An.bad e p).pure := ⟨fun _ => rfl, fun h' => absurd h' h⟩
theorem An.good_pure (v : V) (q : Nat) : (An.good v q).pure := ⟨fun h => absurd rfl h, fun _ => rfl⟩
theorem rItems_pure {s : ByteArray} {f : Nat -> An} : ∀ n i l, (rItems s f n i l).pure
 | 0, i, l => An.bad_pure _ _ (by decide)
 | n + 1, i, l => by
  rw [rItems]
  repeat' split
  all_goals first | exact An.bad_pure _ _ (by assumption) | exact An.bad_pure _ _ (by decide) | exact An.good_pure _ _ | exact rItems_pure n _ _
theorem rMems_pure {s : ByteArray} {f : Nat -> An} : ∀ n i ks l, (rMems s f n i ks l).pure
 | 0, i, ks, l => An.bad_pure _ _ (by decide)
 | n + 1, i, ks, l => by
  rw [rMems]
  repeat' split
  all_goals first | exact An.bad_pure _ _ (by assumption) | exact An.bad_pure _ _ (by decide) | exact An.good_pure _ _ | exact rMems_pure n _ _ _
theorem rVh_pure {s : ByteArray} {i : Nat} {g : An} (hg : g.pure) : (rVh s i g).pure := by
 unfold rVh
 repeat' split
 all_goals first | exact An.bad_pure _ _ (by assumption) | exact An.bad_pure _ _ (by decide) | exact An.good_pure _ _ | exact hg
theorem rV_pure (s : ByteArray) : ∀ k i, (rV s k i).pure
 | 0, i => by rw [rV]; exact rVh_pure (An.bad_pure _ _ (by decide))
 | k + 1, i => by
  rw [rV]
  refine rVh_pure ?_
  split
  ·unfold rArr
   repeat' split
   all_goals first | exact An.bad_pure _ _ (by assumption) | exact An.good_pure _ _ | exact rItems_pure _ _ _
  ·unfold rObj
   repeat' split
   all_goals first | exact An.bad_pure _ _ (by assumption) | exact An.good_pure _ _ | exact rMems_pure _ _ _ _
theorem rV_err {s : ByteArray} {k i : Nat} (h : nE s i ≠ 0) : rV s k i = .bad (nE s i) (nP s i) := by
 cases k <;> (rw [rV]; unfold rVh; rw [if_pos h])
end Go.Proofs.YtcgmpcbkndpmbaaGreatDoor

end
section
open Go Go.Proofs Go.Pw Go.RowKit
namespace Go.Proofs.YtcgmpcbkndpmbaaGreatDoor
set_option maxRecDepth 4000
set_option linter.unusedVariables false
set_option linter.unusedSimpArgs false
set_option linter.unusedSectionVars false
theorem nT_props (s : ByteArray) (i : Nat) (hn : ∀ b, -9223372036854775808 <= (numF s b).2.1 /\ (numF s b).2.1 <= 9223372036854775807) : ((nT s i).kind = 2 -> isT (nT s i).text = true) /\ (-9223372036854775808 <= (nT s i).int /\ (nT s i).int <= 9223372036854775807) := by
 have z0 : -9223372036854775808 <= (0 : Int) /\ (0 : Int) <= 9223372036854775807 := by decide
 have base : ∀ (e : Int) (b : Nat) (t : Tk) (q : Nat), (t.kind = 2 -> isT t.text = true) -> (-9223372036854775808 <= t.int /\ t.int <= 9223372036854775807) -> ((nextE i b e t q).2.2.1.kind = 2 -> isT (nextE i b e t q).2.2.1.text = true) /\ (-9223372036854775808 <= (nextE i b e t q).2.2.1.int /\ (nextE i b e t q).2.2.1.int <= 9223372036854775807) := fun e b t q h1 h2 => by
  unfold nextE
  split
  ·exact ⟨h1, h2⟩
  ·exact ⟨fun _ => isT_empty, z0⟩
 show ((nextF s i).2.2.1.kind = 2 -> isT (nextF s i).2.2.1.text = true) /\ (-9223372036854775808 <= (nextF s i).2.2.1.int /\ (nextF s i).2.2.1.int <= 9223372036854775807)
 unfold nextF
 split
 ·exact ⟨fun h => absurd h (show ¬ (0 : Int) = 2 by decide), z0⟩
 split
 ·exact base _ _ _ _ (fun h => absurd h (show ¬ (1 : Int) = 2 by decide)) z0
 split
 ·rename_i h
  exact base _ _ _ _ (fun _ => txtT_isT (hasF_lt h)) z0
 split
 ·exact base _ _ _ _ (fun h => absurd h (show ¬ (3 : Int) = 2 by decide)) (hn _)
 ·exact base _ _ _ _ (fun _ => isT_empty) z0
theorem numF_fit (s : ByteArray) (b : Nat) : -9223372036854775808 <= (numF s b).2.1 /\ (numF s b).2.1 <= 9223372036854775807 := by
 have z : -9223372036854775808 <= (0 : Int) /\ (0 : Int) <= 9223372036854775807 := by decide
 unfold numF numY
 split
 ·unfold numX
  split
  ·split
   ·unfold numT
    split
    ·exact pV_fits' _
    ·exact z
   ·exact z
  ·exact z
 ·exact z
theorem mem_step {s : ByteArray} {f : Nat -> An} (hfe : ∀ q, nE s q ≠ 0 -> f q = .bad (nE s q) (nP s q)) {n q : Nat} {ks : List ByteArray} {l : List V} (h0 : nE s q = 0) : rMems s f (n + 1) q ks l = if (memB s f q ks).code ≠ 0 then .bad (memB s f q ks).code (memB s f q ks).place else
  if (nT s (memB s f q ks).at_).sign 125 = true then .good (objV (ks ++ [(nT s q).text]) (l ++ [(memB s f q ks).v])) (nQ s (memB s f q ks).at_) else
  if (nT s (memB s f q ks).at_).sign 44 = true then rMems s f n (nQ s (memB s f q ks).at_) (ks ++ [(nT s q).text]) (l ++ [(memB s f q ks).v]) else .bad 1 (nT s (memB s f q ks).at_).at_ := by
 rw [rMems, if_neg (fun h => h h0)]
 unfold memB
 by_cases h1 : (nT s q).kind ≠ 2
 ·rw [if_pos h1, if_pos h1]; rfl
 rw [if_neg h1, if_neg h1]
 by_cases h2 : (ks.any fun k => decide (k = (nT s q).text)) = true
 ·rw [if_pos h2, if_pos h2]; rfl
 rw [if_neg h2, if_neg h2]
 by_cases h3 : nE s (nQ s q) ≠ 0
 ·rw [if_pos h3, if_pos h3, if_pos (show (An.bad (nE s (nQ s q)) (nP s (nQ s q))).code ≠ 0 from h3)]; rfl
 rw [if_neg h3, if_neg h3]
 by_cases h4 : (nT s (nQ s q)).sign 58 = false
 ·rw [if_pos h4, if_pos h4]; rfl
 rw [if_neg h4, if_neg h4]
 by_cases h5 : nE s (nQ s (nQ s q)) ≠ 0
 ·have h8 : (An.bad (nE s (nQ s (nQ s q))) (nP s (nQ s (nQ s q)))).code ≠ 0 := h5
  rw [if_pos h5, hfe _ h5]
  simp only [if_pos h8]
 rw [if_neg h5]
 unfold fin
 by_cases h6 : (f (nQ s (nQ s q))).code ≠ 0
 ·simp only [if_pos h6]
 ·simp only [if_neg h6]
  by_cases h7 : nE s (f (nQ s (nQ s q))).at_ ≠ 0
  ·have h8 : (An.bad (nE s (f (nQ s (nQ s q))).at_) (nP s (f (nQ s (nQ s q))).at_)).code ≠ 0 := h7
   simp only [if_pos h7, if_pos h8]
   rfl
  ·simp only [if_neg h7, if_neg h6]
theorem mem_ok {s : ByteArray} {f : Nat -> An} (hfo : ∀ q, q <= s.size -> AnOk s q (f q)) {q : Nat} (hq : q <= s.size) (h0 : nE s q = 0) {ks : List ByteArray} (hc : (memB s f q ks).code = 0) :
  (nT s q).kind = 2 /\ (nT s q).text ∉ ks /\ q < (memB s f q ks).at_ /\ (memB s f q ks).at_ <= s.size /\ nE s (memB s f q ks).at_ = 0 := by
 unfold memB at hc ⊢
 by_cases h1 : (nT s q).kind ≠ 2
 ·rw [if_pos h1] at hc; exact absurd hc (show ¬ (1 : Int) = 0 by decide)
 rw [if_neg h1] at hc ⊢
 by_cases h2 : (ks.any fun k => decide (k = (nT s q).text)) = true
 ·rw [if_pos h2] at hc; exact absurd hc (show ¬ (5 : Int) = 0 by decide)
 rw [if_neg h2] at hc ⊢
 by_cases h3 : nE s (nQ s q) ≠ 0
 ·rw [if_pos h3] at hc; exact absurd hc h3
 rw [if_neg h3] at hc ⊢
 by_cases h4 : (nT s (nQ s q)).sign 58 = false
 ·rw [if_pos h4] at hc; exact absurd hc (show ¬ (1 : Int) = 0 by decide)
 rw [if_neg h4] at hc ⊢
 by_cases h5 : nE s (nQ s (nQ s q)) ≠ 0
 ·rw [if_pos h5] at hc; exact absurd hc h5
 rw [if_neg h5] at hc ⊢
 have t1 := tk_ok s q hq
 have t2 := tk_ok s (nQ s q) t1.le
 have p1 := t1.lt h0 (by omega)
 have p2 := t2.lt (by omega) (by rw [sign_kind (c := 58) (by simpa using h4)]; decide)
 refine ⟨by omega, fun h => h2 (any_mem.2 h), ?_⟩
 unfold fin at hc ⊢
 by_cases h6 : (f (nQ s (nQ s q))).code ≠ 0
 ·rw [if_pos h6] at hc; exact absurd hc h6
 rw [if_neg h6] at hc ⊢
 have a := hfo _ t2.le (by omega)
 by_cases h7 : nE s (f (nQ s (nQ s q))).at_ ≠ 0
 ·rw [if_pos h7] at hc; exact absurd hc h7
 rw [if_neg h7]
 omega
theorem objF_ord {ks : List ByteArray} {l : List V} {K : List ByteArray} {I : List V} (h : OrdI ks l K I) (ht : ∀ k ∈ ks, isT k = true) : objF ks l = .tup [.agg (cellsV (objV ks l)), vI 0] := by
 unfold objF
 rw [if_neg (by rw [h.len2]; exact fun h => h rfl), if_neg, h.e, objR, h.val]
 rw [List.any_eq_true]
 rintro ⟨k, hk, h2⟩
 rw [ht k hk] at h2
 cases h2
def GD (v : V) : Prop := goodB v = true /\ fitV v = true
theorem GD.arr {l : List V} (h : ∀ v ∈ l, GD v) : GD (.mk 4 false 0 ByteArray.empty l []) := by
 constructor
 ·rw [goodB_eq]
  have : l.all goodB = true := List.all_eq_true.2 (fun x hx => (h x hx).1)
  simp only [V.kind_mk, V.b_mk, V.n_mk, V.s_mk, V.items_mk, V.keys_mk, this, isT_empty]
  rfl
 ·rw [fitV_eq]
  have : l.all fitV = true := List.all_eq_true.2 (fun x hx => (h x hx).2)
  simp only [V.n_mk, V.items_mk, this]
  rfl
theorem GD.obj {l : List V} {ks : List ByteArray} (h : ∀ v ∈ l, GD v) (hs : SortT ks) (hl : ks.length = l.length) (ht : ∀ k ∈ ks, isT k = true) : GD (.mk 5 false 0 ByteArray.empty l ks) := by
 constructor
 ·rw [goodB_eq]
  have h1 : l.all goodB = true := List.all_eq_true.2 (fun x hx => (h x hx).1)
  have h2 : keyedB 5 l.length ks = true := by
   unfold keyedB
   rw [List.all_eq_true.2 ht, (sortB_iff ks).2 hs, decide_eq_true hl]
   rfl
  simp only [V.kind_mk, V.b_mk, V.n_mk, V.s_mk, V.items_mk, V.keys_mk, h1, h2, isT_empty]
  rfl
 ·rw [fitV_eq]
  have : l.all fitV = true := List.all_eq_true.2 (fun x hx => (h x hx).2)
  simp only [V.n_mk, V.items_mk, this]
  rfl
theorem putAll_items : ∀ (r : List ByteArray) (vs : List V) (ks : List ByteArray) (is : List V) K I, putAll ks is r vs = some (K, I) -> ∀ v ∈ I, v ∈ is ∨ v ∈ vs
 | [], vs, ks, is, K, I, h, v, hv => by
  rw [putAll] at h
  ·simp only [Option.some.injEq, Prod.mk.injEq] at h
   obtain ⟨rfl, rfl⟩ := h
   exact .inl hv
  ·intro k r v vs h; cases h
 | k :: r, [], ks, is, K, I, h, v, hv => by
  rw [putAll] at h
  ·simp only [Option.some.injEq, Prod.mk.injEq] at h
   obtain ⟨rfl, rfl⟩ := h
   exact .inl hv
  ·intro k r v vs _ h; cases h
 | k :: r, w :: vs, ks, is, K, I, h, v, hv => by
  rw [putAll] at h
  split at h
  ·cases h
  ·rcases putAll_items r vs _ _ K I h v hv with h' | h'
   ·rcases mem_insAt.1 h' with h' | rfl
    ·exact .inl h'
    ·exact .inr (by simp)
   ·exact .inr (List.mem_cons_of_mem _ h')
theorem OrdI.good {ks : List ByteArray} {l : List V} {K : List ByteArray} {I : List V} (h : OrdI ks l K I) (ht : ∀ k ∈ ks, isT k = true) (hg : ∀ v ∈ l, GD v) : GD (objV ks l) := by
 rw [h.val]
 refine GD.obj (fun v hv => ?_) h.sort h.len (fun k hk => ht k ((h.mem k).1 hk))
 rcases putAll_items _ _ _ _ _ _ h.e v hv with h' | h'
 ·cases h'
 ·exact hg v h'
section
variable {s : ByteArray} {f : Nat -> An} (hn : ∀ b, -9223372036854775808 <= (numF s b).2.1 /\ (numF s b).2.1 <= 9223372036854775807) (hf : ∀ q, (f q).code = 0 -> GD (f q).v)
include hn hf
end
end Go.Proofs.YtcgmpcbkndpmbaaGreatDoor

end
section
namespace Go.Pw
open Go Go.RowKit
set_option linter.unusedVariables false
set_option linter.unusedSimpArgs false
theorem OkI.freezeM {P : Program} {g : FuncId} {ags : List PV} {st : PS} {Q : PV -> PS -> Prop} {i : Nat} {T : TypeId} {cs ds : List PV} (sz k : Nat) (ho : lkp st.heap i = some (.box T cs)) (hf : fzL (cs.take k) = some ds) (ok : OkI P g (PV.mfL i sz ds ags) { st with heap := dropH [i] st.heap } Q) : OkI P g ags st Q := by
 refine ⟨ok.1, fun own S0 w0 w C vals R hn hr => ?_⟩
 obtain ⟨S1, R1, X, h⟩ := R.freezeBoxK k ho hf
 refine (ok.2 own S0 w0 w { C with S := S1 } vals R1 (by rw [mfL_len]; exact hn) (fun j v p hv hp => ?_)).mono ?_
 ·rw [mfL_get] at hp
  obtain ⟨q, hq, rfl⟩ := Option.map_eq_some_iff.1 hp
  exact RepV.mf (C := { C with S := S1 }) h ((hr j v q hv hq).ext X)
 ·rintro e w' ⟨r, st', v, C', h1, h2, h3, h4, h5⟩
  exact ⟨r, st', v, C', h1, h2, h3, X.trans h4, h5⟩
end Go.Pw

end
