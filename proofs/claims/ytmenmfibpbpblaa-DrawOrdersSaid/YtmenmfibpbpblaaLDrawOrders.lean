/-
  DrawOrders returns true whatever its arguments are, and leaves them as they were. No conditions.
-/
import Derived.Test.YtmenmfibpbpblaaRows
import Derived.Test.YtmenmfibpbpblaaD4
import Derived.Test.YtmenmfibpbpblaaPwR
import Derived.WalkKit
import Derived.ProofKit
import Derived.OpenShut
import Derived.ShutString
import Derived.ChangeOld
import Derived.Below
import Derived.SizedLaws
import Derived.ChangeSlices
import Derived.Carry
namespace Go.Proofs.Ytmenmfibpbpblaa.drawOrders
open Go.ChangeShapes Go.WideShapes Go.ChangeAt Go.RowKit
open Go.ChangeMaps (open_string shut_string)
open Go.Pw
set_option linter.unusedVariables false
theorem own : ownKnob Try.prog.godebug = none := by kernel_rfl
theorem laidOut : laidOutB Try.prog = true := by kernel_rfl
theorem wf_i64 {n : Int} (h : (Lit.int .i64 n).wf = true) : -9223372036854775808 ≤ n ∧ n ≤ 9223372036854775807 := by
  simp only [Lit.wf, Bool.and_eq_true, decide_eq_true_eq] at h
  exact h
set_option maxRecDepth 100000 in
theorem lifted (os : Os) (started : os.Started) (H : Type) (enc : TypeId × Value → H) :
    ReturnsInHanded {} Try.checked os 4 .any (Rows.drawOrdersSpec.pre6 enc Try.prog Try.f4 Rows.drawOrdersRow.domain false) (Rows.drawOrdersSpec.post enc Try.prog Try.f4 false true false false) := by
  refine returnsInHanded_of_change_sized (C := Try.checked) own started (by kernel_rfl) Try.func4
    (ChangeSpec.witness6 (enc := enc) (C := Try.checked) false ⟨#[], #[.slice none 0 0, .slice none 0 0, .slice none 0 0], []⟩ 8 (by kernel_rfl) (by kernel_rfl) (by kernel_rfl) (by kernel_rfl)) ?_
  intro W base args ds gs before hval0 hW hcnd hsz0 _
  have hsz : (DataW.weightsEach Try.prog (Try.f4.params.toList ++ Rows.drawOrdersSpec.plain.varTypes Try.prog) (ds ++ gs)).all (· ≤ reachBytes) = true := hsz0
  have hval : ∀ (j : Nat) t v, Try.f4.params[j]? = some t → args[j]? = some v → Value.okWide Try.prog W .any base t v := hval0
  have hW' := hW
  obtain ⟨p, q, hA0, hV, rfl, hfz, hnd⟩ := hW
  have hA : DataW.TrodAll enc Try.prog W 0 (fun _ => true) true Try.f4.params.toList args.toList ds p := hA0
  rw [Try.params4] at hA hval hsz
  obtain ⟨v0, vs0, d0, ds0, p0, q0, hargs, rfl, rfl, h0, r0⟩ := trodAll_cons hA
  obtain ⟨v1, vs1, d1, ds1, p1, q1, rfl, rfl, rfl, h1, r1⟩ := trodAll_cons r0
  obtain ⟨v2, vs2, d2, ds2, p2, q2, rfl, rfl, rfl, h2, r2⟩ := trodAll_cons r1
  obtain ⟨rfl, rfl, rfl⟩ := trodAll_nil r2
  obtain rfl : args = #[v0, v1, v2] := by cases args; simp_all
  obtain ⟨rfl, rfl⟩ := trodVars_none hV
  obtain ⟨x0, len0, cap0, rfl⟩ := okWide_slice Try.underlying22 (hval 0 22 v0 rfl rfl)
  have k0 := h0
  have lt0 : ∀ x ∈ p0, x.block < W.heap.size := by obtain ⟨m, hm⟩ := k0; exact DataW.trod_lt m _ _ _ hm
  obtain ⟨a0, w0, u0, rp0⟩ : ∃ l : List Int, (∀ n ∈ l, -9223372036854775808 ≤ n ∧ n ≤ 9223372036854775807) ∧ l.length ≤ 140737488351232 ∧ RepA (memCells W) (.slice x0 len0 cap0) (.sl (encI l)) := by
    obtain ⟨fuel, hf⟩ := h0
    rcases open_ints Try.underlying22 Try.underlying3 (by kernel_rfl) hf with ⟨hcs, _⟩ | ⟨x, l, c, zs, hcs, _, hl, hm, hz, hx, hcell, hwz⟩
    · simp [Value.cells] at hcs
      obtain ⟨rfl, rfl, rfl⟩ := hcs
      exact ⟨[], (fun n hn => by cases hn), Nat.zero_le _, repA_nil⟩
    · simp [Value.cells] at hcs
      obtain ⟨rfl, rfl, rfl⟩ := hcs
      rw [if_pos rfl] at hz
      have hd : d0 = _ := congrArg Prod.fst hx
      have z := sized_slice hsz (j := 0) (t := 22) (e := 3) rfl (by rw [hd]; rfl) Try.underlying22
      have hb : Try.prog.bytesOf 3 = 8 := by kernel_rfl
      simp only [lits, List.length_map, List.length_take, List.length_drop, hb, reachBytes] at z
      exact ⟨zs.take _, fun n hn => wf_i64 (hwz n (List.mem_of_mem_take hn)), by rw [List.length_take]; omega, repA_ints hl hz hcell⟩
  obtain ⟨x1, len1, cap1, rfl⟩ := okWide_slice Try.underlying22 (hval 1 22 v1 rfl rfl)
  have k1 := h1
  have lt1 : ∀ x ∈ p1, x.block < W.heap.size := by obtain ⟨m, hm⟩ := k1; exact DataW.trod_lt m _ _ _ hm
  obtain ⟨a1, w1, u1, rp1⟩ : ∃ l : List Int, (∀ n ∈ l, -9223372036854775808 ≤ n ∧ n ≤ 9223372036854775807) ∧ l.length ≤ 140737488351232 ∧ RepA (memCells W) (.slice x1 len1 cap1) (.sl (encI l)) := by
    obtain ⟨fuel, hf⟩ := h1
    rcases open_ints Try.underlying22 Try.underlying3 (by kernel_rfl) hf with ⟨hcs, _⟩ | ⟨x, l, c, zs, hcs, _, hl, hm, hz, hx, hcell, hwz⟩
    · simp [Value.cells] at hcs
      obtain ⟨rfl, rfl, rfl⟩ := hcs
      exact ⟨[], (fun n hn => by cases hn), Nat.zero_le _, repA_nil⟩
    · simp [Value.cells] at hcs
      obtain ⟨rfl, rfl, rfl⟩ := hcs
      rw [if_pos rfl] at hz
      have hd : d1 = _ := congrArg Prod.fst hx
      have z := sized_slice hsz (j := 1) (t := 22) (e := 3) rfl (by rw [hd]; rfl) Try.underlying22
      have hb : Try.prog.bytesOf 3 = 8 := by kernel_rfl
      simp only [lits, List.length_map, List.length_take, List.length_drop, hb, reachBytes] at z
      exact ⟨zs.take _, fun n hn => wf_i64 (hwz n (List.mem_of_mem_take hn)), by rw [List.length_take]; omega, repA_ints hl hz hcell⟩
  obtain ⟨x2, len2, cap2, rfl⟩ := okWide_slice Try.underlying22 (hval 2 22 v2 rfl rfl)
  have k2 := h2
  have lt2 : ∀ x ∈ p2, x.block < W.heap.size := by obtain ⟨m, hm⟩ := k2; exact DataW.trod_lt m _ _ _ hm
  obtain ⟨a2, w2, u2, rp2⟩ : ∃ l : List Int, (∀ n ∈ l, -9223372036854775808 ≤ n ∧ n ≤ 9223372036854775807) ∧ l.length ≤ 140737488351232 ∧ RepA (memCells W) (.slice x2 len2 cap2) (.sl (encI l)) := by
    obtain ⟨fuel, hf⟩ := h2
    rcases open_ints Try.underlying22 Try.underlying3 (by kernel_rfl) hf with ⟨hcs, _⟩ | ⟨x, l, c, zs, hcs, _, hl, hm, hz, hx, hcell, hwz⟩
    · simp [Value.cells] at hcs
      obtain ⟨rfl, rfl, rfl⟩ := hcs
      exact ⟨[], (fun n hn => by cases hn), Nat.zero_le _, repA_nil⟩
    · simp [Value.cells] at hcs
      obtain ⟨rfl, rfl, rfl⟩ := hcs
      rw [if_pos rfl] at hz
      have hd : d2 = _ := congrArg Prod.fst hx
      have z := sized_slice hsz (j := 2) (t := 22) (e := 3) rfl (by rw [hd]; rfl) Try.underlying22
      have hb : Try.prog.bytesOf 3 = 8 := by kernel_rfl
      simp only [lits, List.length_map, List.length_take, List.length_drop, hb, reachBytes] at z
      exact ⟨zs.take _, fun n hn => wf_i64 (hwz n (List.mem_of_mem_take hn)), by rw [List.length_take]; omega, repA_ints hl hz hcell⟩
  clear hA0 hval0 hsz0 hsz
  refine ((orders_ok a0 a1 a2 w0 u0 w1 u1 w2 u2).walk_reps W [.slice x0 len0 cap0, .slice x1 len1 cap1, .slice x2 len2 cap2] ⟨rp0, rp1, rp2, trivial⟩).mono fun e W' ⟨he, bel⟩ => ?_
  subst he
  exact ⟨_, rfl, _, _, _, [], _, [], hW', trodAll_mk1 (shut_bool Try.underlying4 _), (trodAll_cons_mk (Below.trod laidOut (by kernel_rfl) (of_decide_eq_true (by kernel_rfl)) k0 bel lt0) (trodAll_cons_mk (Below.trod laidOut (by kernel_rfl) (of_decide_eq_true (by kernel_rfl)) k1 bel lt1) (trodAll_cons_mk (Below.trod laidOut (by kernel_rfl) (of_decide_eq_true (by kernel_rfl)) k2 bel lt2) trodAll_mk0))), rfl, bel.frame _, fun h => by cases h⟩
theorem over : Rows.drawOrdersRow.holds Try.pinned (OpenSpec.ofChange Rows.drawOrdersSpec) :=
  OpenClaim.holds_of_wide 4 Try.f4 rfl rfl rfl rfl rfl rfl rfl ⟨rfl, rfl, rfl, rfl, rfl⟩ rfl rfl rfl rfl rfl (by kernel_rfl) Try.func4 (by kernel_rfl)
    (of_decide_eq_true (by kernel_rfl)) (by unfold Func.isWrapper; first | (rw [if_pos (by decide +kernel)]; kernel_rfl) | (rw [if_neg (by decide +kernel)]; exact ⟨rfl, rfl⟩))
    (fun os started H enc _ => lifted os started H enc)
end Go.Proofs.Ytmenmfibpbpblaa.drawOrders
namespace Go.Proofs.Ytmenmfibpbpblaa
/-- The row, under a short name, for the claim. -/
theorem drawOrders_holds : Rows.DrawOrdersSaid := drawOrders.over
#print axioms drawOrders_holds
end Go.Proofs.Ytmenmfibpbpblaa
