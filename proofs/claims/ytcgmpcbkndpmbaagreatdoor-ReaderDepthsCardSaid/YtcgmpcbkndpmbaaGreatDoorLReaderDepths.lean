import Derived.Test.YtcgmpcbkndpmbaaGreatDoorRows
import Derived.Test.YtcgmpcbkndpmbaaGreatDoorGW18
import Derived.Test.YtcgmpcbkndpmbaaGreatDoorGW8
import Derived.Test.YtcgmpcbkndpmbaaGreatDoorTie
import Derived.Test.YtcgmpcbkndpmbaaGreatDoorCards
import Derived.Test.YtcgmpcbkndpmbaaGreatDoorGW19
import Derived.WalkKit
import Derived.ProofKit
import Derived.OpenShut
import Derived.ShutString
import Derived.ChangeOld
import Derived.Below
import Derived.SizedLaws
import Derived.ChangeSlices
import Derived.Carry
import Derived.MakeChecks
import Derived.Stop.Joined
import Derived.LaidMore
import Derived.Lay
import Derived.SevenTiedAt
/-
 ReaderDepths returns true whatever its arguments are, and leaves them ags they were. No conditions.
-/
namespace Go.Proofs.YtcgmpcbkndpmbaaGreatDoor.readerDepths
open Go.ChangeShapes Go.WideShapes Go.ChangeAt Go.RowKit
open Go.ChangeMaps (open_string shut_string)
open Go.Pw
set_option linter.unusedVariables false
theorem own : ownKnob Tryz.prog.godebug = none := by kernel_rfl
theorem laidOut : laidOutB Tryz.prog = true := by kernel_rfl
theorem wf_i64 {n : Int} (h : (Lit.int .i64 n).wf = true) : -9223372036854775808 <= n /\ n <= 9223372036854775807 := by
 simp only [Lit.wf, Bool.and_eq_true, decide_eq_true_eq] at h
 exact h
theorem wf_u8 {n : Int} (h : (Lit.int .u8 n).wf = true) : 0 <= n /\ n <= 255 := by
 simp only [Lit.wf, Bool.and_eq_true, decide_eq_true_eq] at h
 exact h
set_option maxRecDepth 100000 in
theorem lifted (os : Os) (started : os.Started) (H : Type) (enc : TypeId × Value -> H) :
  ReturnsInHanded {} Tryz.checked os 4 .any (fun w args => (Rows.readerDepthsSpec.pre enc Tryz.prog Tryz.f4 [] false w args /\ laidMetH Tryz.prog Rows.readerDepthsRow.laid w) /\ sizedMet enc Tryz.prog Tryz.f4 (OpenSpec.ofChange Rows.readerDepthsSpec) false w args)
   (Rows.readerDepthsSpec.post enc Tryz.prog Tryz.f4 false true false false) := by
 refine returnsInHanded_of_change_and (C := Tryz.checked) (X := fun w _ => laidMetH Tryz.prog Rows.readerDepthsRow.laid w) (fun _ _ _ hh h => h.of_heap hh) own started (by kernel_rfl) Tryz.func4
  (ChangeSpec.witness_shaped (enc := enc) (C := Tryz.checked) (os := os) (X := fun w _ => laidMetH Tryz.prog Rows.readerDepthsRow.laid w) false (World.laidAll Tryz.prog os Rows.readerDepthsRow.laid) #[.slice none 0 0, .slice none 0 0, .int .u8 0] 8 (World.laidAll_os _ _ _)
   (World.shaped_of_ZipB (by kernel_rfl) (by kernel_rfl)) (by kernel_rfl) (by kernel_rfl) (by kernel_rfl)
   (by rw [MakeChecks.laidMetH_plain _ _ _ (by kernel_rfl)]; exact laidMet_laidAll _ (by kernel_rfl) (by kernel_rfl))) ?_
 intro W base args ds gs before hval0 hW hcnd hsz0 hL _
 have hsz : (DataW.weightsEach Tryz.prog (Tryz.f4.params.toList ++ Rows.readerDepthsSpec.plain.varTypes Tryz.prog) (ds ++ gs)).all (· <= reachBytes) = true := hsz0
 have hval : ∀ (j : Nat) t v, Tryz.f4.params[j]? = some t -> args[j]? = some v -> Value.okWide Tryz.prog W .any base t v := hval0
 have hW' := hW
 obtain ⟨p, q, hA0, hV, rfl, hfz, hnd⟩ := hW
 have hA : DataW.TrodAll enc Tryz.prog W 0 (fun _ => true) true Tryz.f4.params.toList args.toList ds p := hA0
 rw [Tryz.params4] at hA hval hsz
 obtain ⟨v0, vs0, d0, ds0, p0, q0, hargs, rfl, rfl, h0, r0⟩ := trodAll_cons hA
 obtain ⟨v1, vs1, d1, ds1, p1, q1, rfl, rfl, rfl, h1, r1⟩ := trodAll_cons r0
 obtain ⟨v2, vs2, d2, ds2, p2, q2, rfl, rfl, rfl, h2, r2⟩ := trodAll_cons r1
 obtain ⟨rfl, rfl, rfl⟩ := trodAll_nil r2
 obtain rfl : args = #[v0, v1, v2] := by cases args; simp_all
 obtain ⟨rfl, rfl⟩ := trodVars_none hV
 obtain ⟨x0, len0, cap0, rfl⟩ := okWide_slice Tryz.underlying22 (hval 0 22 v0 rfl rfl)
 have k0 := h0
 have lt0 : ∀ x ∈ p0, x.block < W.heap.size := by obtain ⟨m, hm⟩ := k0; exact DataW.trod_lt m _ _ _ hm
 obtain ⟨a0, w0, rp0⟩ : ∃ l : List Nd, (l.length <= maxLen /\ NdsOk l) /\ RepA (memCells W) (.slice x0 len0 cap0) (.sl (encN l)) := by
  obtain ⟨fuel, hf⟩ := h0
  obtain ⟨l, hl, hr⟩ := rdNodes fuel _ _ hf
  exact ⟨l, hl, hr.arg rfl⟩
 obtain ⟨x1, len1, cap1, rfl⟩ := okWide_slice Tryz.underlying23 (hval 1 23 v1 rfl rfl)
 have k1 := h1
 have lt1 : ∀ x ∈ p1, x.block < W.heap.size := by obtain ⟨m, hm⟩ := k1; exact DataW.trod_lt m _ _ _ hm
 obtain ⟨a1, w1, rp1⟩ : ∃ l : List Int, (l.length <= maxLen /\ ∀ n ∈ l, (Lit.int .u8 n).wf = true) /\ RepA (memCells W) (.slice x1 len1 cap1) (.sl (encC l)) := by
  obtain ⟨fuel, hf⟩ := h1
  obtain ⟨l, hl, hr⟩ := rdBytes fuel _ _ hf
  exact ⟨l, hl, hr.arg rfl⟩
 obtain ⟨a2, rfl, rfl, rfl, w2⟩ := open_int Tryz.underlying5 (hval 2 5 v2 rfl rfl) h2
 clear hA0 hval0 hsz0 hsz
 refine ((depths_ok a0 a1 a2 (w0).2 (w0).1 (w1).2 (w1).1 (wf_u8 w2)).walk_reps W (known_readerDepths hL) [.slice x0 len0 cap0, .slice x1 len1 cap1, .int .u8 a2] ⟨rp0, rp1, repA_one rfl, trivial⟩).mono fun e W' ⟨he, bel⟩ => ?_
 subst he
 exact ⟨_, rfl, _, _, _, [], _, [], hW', trodAll_mk1 (shut_bool Tryz.underlying4 _), (trodAll_cons_mk (Below.trod laidOut (by kernel_rfl) (of_decide_eq_true (by kernel_rfl)) k0 bel lt0) (trodAll_cons_mk (Below.trod laidOut (by kernel_rfl) (of_decide_eq_true (by kernel_rfl)) k1 bel lt1) (trodAll_cons_mk (shut_int Tryz.underlying5 w2) trodAll_mk0))), rfl, bel.frame _, fun h => by cases h⟩
theorem over : Rows.readerDepthsRow.holds Tryz.pinned (OpenSpec.ofChange Rows.readerDepthsSpec) :=
 OpenClaim.holds_of_wide 4 Tryz.f4 rfl rfl rfl rfl rfl rfl rfl ⟨rfl, rfl, rfl, rfl, rfl⟩ rfl rfl rfl rfl rfl (by kernel_rfl) Tryz.func4 (by kernel_rfl)
  (of_decide_eq_true (by kernel_rfl)) (by unfold Func.isWrapper; first | (rw [if_pos (by decide +kernel)]; kernel_rfl) | (rw [if_neg (by decide +kernel)]; exact ⟨rfl, rfl⟩))
  (fun os started H enc _ => lifted os started H enc)
end Go.Proofs.YtcgmpcbkndpmbaaGreatDoor.readerDepths
namespace Go.Proofs.YtcgmpcbkndpmbaaGreatDoor
set_option maxRecDepth 100000 in
theorem readerDepths_holds : Rows.ReaderDepthsCardSaid :=
 Claim7.holds_tied_plain_at .later [] [.data, .data, .data, .sentinel, .sentinel] true (true, "fb3635adf27816456a7ec8cb258e115195bba685dc47af18a9f9eed4f0be7cd9") true readerDepths.over (fun _ h => by cases h) (by kernel_rfl) (fun _ h => by cases h) readerDepths_row_tie rfl ⟨rfl, rfl⟩ (by kernel_rfl) rfl
  (fun f fn hf hfn => by
   obtain rfl : f = 4 := Option.some.inj ((show Tryz.prog.funcNamed "cheval/chevallaw06.ReaderDepths" = some 4 by kernel_rfl).symm.trans hf) |>.symm
   obtain rfl : fn = Tryz.f4 := (Option.some.inj (Tryz.func4.symm.trans hfn)).symm
   exact ⟨by kernel_rfl, fun j t ht => by
    rw [Tryz.params4] at ht
    have hm : t ∈ [22, 23, 5] := by simpa using Array.mem_of_getElem? ht
    have hall : ([22, 23, 5].all fun u => !Tryz.prog.wantsStandIn u) = true := by kernel_rfl
    exact (show Tryz.prog.wantsStandIn t = false by simpa using List.all_eq_true.1 hall t hm)⟩)
  (by kernel_rfl)
#print axioms readerDepths_holds
end Go.Proofs.YtcgmpcbkndpmbaaGreatDoor
