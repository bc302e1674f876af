/-
  Contracts and plain laws on the way to the statement; each says its own conditions.
-/
import Derived.Test.YtcgmpcbkndpmbaaGreatDoorGW16
import Derived.Test.YtcgmpcbkndpmbaaGreatDoorGW17
import Derived.Test.YtcgmpcbkndpmbaaGreatDoorGW7
import Derived.Test.YtcgmpcbkndpmbaaGreatDoorGW10
import Derived.Test.YtcgmpcbkndpmbaaGreatDoorGW8
section
open Go Go.Proofs Go.Pw Go.RowKit
namespace Go.Proofs.YtcgmpcbkndpmbaaGreatDoor
set_option maxRecDepth 4000
set_option linter.unusedVariables false
set_option linter.unusedSimpArgs false
attribute [local go_sem] Bool.not_false Bool.not_true Int.toNat_natCast Int.toNat_one Int.toNat_zero Nat.le_refl Tryz.results3 Tryz.results4 encC_len str_eq
theorem dV_nV : ∀ v, dV v <= nV v := by
 refine V.ind fun v ih => ?_
 rw [dV_eq, nV_eq]
 have : ∀ l : List V, (∀ x ∈ l, dV x <= nV x) -> dVs l <= nVs l := by
  intro l
  induction l with
  | nil => intro _; rw [dVs_nil]; omega
  | cons x r ihr =>
   intro h
   have h1 := h x (List.mem_cons_self)
   have h2 := ihr (fun y hy => h y (List.mem_cons_of_mem _ hy))
   rw [dVs_cons, nVs_cons]; omega
 have := this v.items ih
 split <;> omega
theorem stp_tr {tr : List UInt8} (h : Bl tr) : stp stL tr := by
 cases tr with
 | nil => trivial
 | cons c r => exact bl_st h c (List.mem_cons_self)
theorem parse_wr {v : V} {b : ByteArray} (h : WrOk v b) (hs : b.size <= 16384) {d : Nat} (hd : d <= 64) : (dV v <= d -> parseA b d = .good v 0) /\ (d < dV v -> ∃ p, parseA b d = .bad 6 p /\ p < b.size /\ opn b p) := by
 obtain ⟨t, tr, e, h1, h2⟩ := h
 have hb : Sfx b 0 (t ++ tr) := by
  have := Sfx.all b
  rw [show b.data.toList = t ++ tr from e] at this
  exact this
 have r := h2 b 0 tr d hb (stp_tr h1)
 have hl := hb.len
 rw [List.length_append] at hl
 refine ⟨fun h => ?_, fun h => ?_⟩
 ·exact parseA_ok hd hs (r.1 h) (nx_end hb.app h1)
 ·obtain ⟨p, p1, p2, p3, p4⟩ := r.2 h
  exact ⟨p, parseA_bad hd hs p1 (by decide), by omega, p4⟩
theorem u8_wf {n : Int} (h : (Lit.int .u8 n).wf = true) : 0 <= n /\ n <= 255 := by
 simp only [Lit.wf, Bool.and_eq_true, decide_eq_true_eq] at h
 exact h
set_option maxHeartbeats 8000000 in
theorem ways_ok (l : List Nd) (w : List Int) (hN : NdsOk l) (hl : l.length <= 9223372036854775807) (hw : ∀ n ∈ w, (Lit.int .u8 n).wf = true) (hwl : w.length <= 9223372036854775807) : Ok Tryz.prog 3 [.sl (encN l), .sl (encC w)] (vB true) := by
 have c0 := awake6_ok
 refine Ok.of_pwp (by kernel_rfl) Tryz.func3 rfl (by kernel_rfl) (by kernel_rfl) ?_
 simp (implicitDefEqProofs := false) (disch := omega) only [go_sem, simprocAttr, cellsV, decide_true, beq_self_eq_true]
 with_reducible refine CallOk.of c0 rfl ?_
 by_cases h50 : w.length <= 50
 rotate_left
 ·simp (implicitDefEqProofs := false) (disch := omega) only [go_sem, simprocAttr, cellsV, decide_true, beq_self_eq_true, decide_eq_true (show (50 : Int) < (w.length : Int) by omega)]
  with_reducible refine CallOk.of c0 rfl ?_
  simp (implicitDefEqProofs := false) (disch := omega) only [go_sem, simprocAttr, cellsV, decide_true, beq_self_eq_true]
 simp (implicitDefEqProofs := false) (disch := omega) only [go_sem, simprocAttr, cellsV, decide_true, beq_self_eq_true, decide_eq_false (show ¬ (50 : Int) < (w.length : Int) by omega)]
 refine CallOk.ofI (OkI.ofQ (st := ⟨[], _, _, _, _⟩) (tree_ok l hN hl) ?_) rfl rfl rfl rfl ?_
 ·rfl
 rintro r st1 ⟨⟨v, hv, rfl⟩, rfl⟩
 have hg := hv.good
 have hz := hv.sz
 have hn := hv.size
 have hdn := dV_nV v
 have c1 := lwrite_ok w (by omega) (fun n h => u8_wf (hw n h)) v 0 hg hv.fit (by omega) (by omega)
 have hwr := wr_rd w v hg hv.fit ((0 : Nat) : Int)
 have c3 := ref_ok v (by omega)
 have c4 := same_ok v (by omega) v (by omega)
 rw [sameV_T rfl] at c4
 simp only [cellsV, Int.natCast_zero] at c1 c3 c4
 rw [Int.natCast_zero] at hwr
 generalize wA w v 0 = s at *
 simp (implicitDefEqProofs := false) (disch := omega) only [go_sem, simprocAttr, cellsV, decide_true, beq_self_eq_true]
 with_reducible refine CallOk.of c1 rfl ?_
 by_cases hs : s.size <= 16000
 rotate_left
 ·simp (implicitDefEqProofs := false) (disch := omega) only [go_sem, simprocAttr, cellsV, decide_true, beq_self_eq_true, decide_eq_true (show (16000 : Int) < (s.size : Int) by omega)]
 have c2 := parse_ok6 s (by omega) 64 (by decide)
 rw [show (64 : Int) = ((64 : Nat) : Int) from rfl, (parse_wr hwr (by omega) (Nat.le_refl 64)).1 (by omega)] at c2
 have e : parseR (.good v 0) = .tup [.agg (cellsV v), vI 0, vI 0] := rfl
 rw [e] at c2
 simp only [cellsV] at c2
 simp (implicitDefEqProofs := false) (disch := omega) only [go_sem, simprocAttr, cellsV, decide_true, beq_self_eq_true, decide_eq_false (show ¬ (16000 : Int) < (s.size : Int) by omega)]
 with_reducible refine CallOk.of c2 rfl ?_
 simp (implicitDefEqProofs := false) (disch := omega) only [go_sem, simprocAttr, cellsV, decide_true, beq_self_eq_true]
 with_reducible refine CallOk.of c3 rfl ?_
 simp (implicitDefEqProofs := false) (disch := omega) only [go_sem, simprocAttr, cellsV, decide_true, beq_self_eq_true]
 with_reducible refine CallOk.of c4 rfl ?_
 simp (implicitDefEqProofs := false) (disch := omega) only [go_sem, simprocAttr, cellsV, decide_true, beq_self_eq_true]
set_option maxHeartbeats 8000000 in
theorem depths_ok (l : List Nd) (w : List Int) (n : Int) (hN : NdsOk l) (hl : l.length <= 9223372036854775807) (hw : ∀ n ∈ w, (Lit.int .u8 n).wf = true) (hwl : w.length <= 9223372036854775807) (hd : 0 <= n /\ n <= 255) : Ok Tryz.prog 4 [.sl (encN l), .sl (encC w), .val (.int .u8 n)] (vB true) := by
 have c0 := awake6_ok
 refine Ok.of_pwp (by kernel_rfl) Tryz.func4 rfl (by kernel_rfl) (by kernel_rfl) ?_
 simp (implicitDefEqProofs := false) (disch := omega) only [go_sem, simprocAttr, cellsV, decide_true, beq_self_eq_true]
 with_reducible refine CallOk.of c0 rfl ?_
 by_cases h50 : w.length <= 50
 rotate_left
 ·simp (implicitDefEqProofs := false) (disch := omega) only [go_sem, simprocAttr, cellsV, decide_true, beq_self_eq_true, decide_eq_true (show (50 : Int) < (w.length : Int) by omega)]
  with_reducible refine CallOk.of c0 rfl ?_
  simp (implicitDefEqProofs := false) (disch := omega) only [go_sem, simprocAttr, cellsV, decide_true, beq_self_eq_true]
 simp (implicitDefEqProofs := false) (disch := omega) only [go_sem, simprocAttr, cellsV, decide_true, beq_self_eq_true, decide_eq_false (show ¬ (50 : Int) < (w.length : Int) by omega)]
 refine CallOk.ofI (OkI.ofQ (st := ⟨[], _, _, _, _⟩) (tree_ok l hN hl) ?_) rfl rfl rfl rfl ?_
 ·rfl
 rintro r st1 ⟨⟨v, hv, rfl⟩, rfl⟩
 have hg := hv.good
 have hz := hv.sz
 have hn := hv.size
 have hdn := dV_nV v
 have c1 := lwrite_ok w (by omega) (fun n h => u8_wf (hw n h)) v 0 hg hv.fit (by omega) (by omega)
 have hwr := wr_rd w v hg hv.fit ((0 : Nat) : Int)
 have c3 := ref_ok v (by omega)
 have c4 := same_ok v (by omega) v (by omega)
 have c5 := rdepth_ok v (by omega)
 rw [sameV_T rfl] at c4
 simp only [cellsV, Int.natCast_zero] at c1 c3 c4 c5
 rw [Int.natCast_zero] at hwr
 generalize wA w v 0 = s at *
 obtain ⟨E, hE⟩ : ∃ E : Nat, n.tmod 65 = E := ⟨(n.tmod 65).toNat, by rw [Int.tmod_eq_emod_of_nonneg hd.1]; omega⟩
 have hE8 : E < 65 := by rw [Int.tmod_eq_emod_of_nonneg hd.1] at hE; omega
 have w2 : IntKind.wrap .u8 (n.tmod 65) = (E : Int) := by rw [hE, IntKind.wrap_u8]; omega
 have w4 : IntKind.wrap .i64 (E : Int) = (E : Int) := by rw [IntKind.wrap_i64]; omega
 simp (implicitDefEqProofs := false) (disch := omega) only [go_sem, simprocAttr, cellsV, decide_true, beq_self_eq_true, w2, w4, hE]
 with_reducible refine CallOk.of c1 rfl ?_
 by_cases hs : s.size <= 16000
 rotate_left
 ·simp (implicitDefEqProofs := false) (disch := omega) only [go_sem, simprocAttr, cellsV, decide_true, beq_self_eq_true, decide_eq_true (show (16000 : Int) < (s.size : Int) by omega)]
 have c2 := parse_ok6 s (by omega) E (by omega)
 have hp := parse_wr hwr (d := E) (by omega) (by omega)
 simp (implicitDefEqProofs := false) (disch := omega) only [go_sem, simprocAttr, cellsV, decide_true, beq_self_eq_true, decide_eq_false (show ¬ (16000 : Int) < (s.size : Int) by omega)]
 by_cases hle : dV v <= E
 ·rw [hp.1 hle] at c2
  have e : parseR (.good v 0) = .tup [.agg (cellsV v), vI 0, vI 0] := rfl
  rw [e] at c2
  simp only [cellsV] at c2
  with_reducible refine CallOk.of c2 rfl ?_
  simp (implicitDefEqProofs := false) (disch := omega) only [go_sem, simprocAttr, cellsV, decide_true, beq_self_eq_true]
  with_reducible refine CallOk.of c5 rfl ?_
  simp (implicitDefEqProofs := false) (disch := omega) only [go_sem, simprocAttr, cellsV, decide_true, beq_self_eq_true, decide_eq_true (show (dV v : Int) <= (E : Int) by omega)]
  with_reducible refine CallOk.of c3 rfl ?_
  simp (implicitDefEqProofs := false) (disch := omega) only [go_sem, simprocAttr, cellsV, decide_true, beq_self_eq_true]
  with_reducible refine CallOk.of c4 rfl ?_
  simp (implicitDefEqProofs := false) (disch := omega) only [go_sem, simprocAttr, cellsV, decide_true, beq_self_eq_true]
 ·obtain ⟨p, p1, p2, p3⟩ := hp.2 (by omega)
  rw [p1] at c2
  have e : parseR (.bad 6 p) = .tup [.agg (cellsV vZero), vI p, vI 6] := rfl
  rw [e] at c2
  simp only [cellsV] at c2
  with_reducible refine CallOk.of c2 rfl ?_
  simp (implicitDefEqProofs := false) (disch := omega) only [go_sem, simprocAttr, cellsV, decide_true, beq_self_eq_true]
  with_reducible refine CallOk.of c5 rfl ?_
  have hb : bt s (p : Int) = 91 ∨ bt s (p : Int) = 123 := by
   unfold Go.Pw.bt
   rw [Int.toNat_natCast]
   rcases p3 with p3 | p3
   ·exact .inl (by rw [p3]; rfl)
   ·exact .inr (by rw [p3]; rfl)
  rcases hb with hb | hb
  ·simp (implicitDefEqProofs := false) (disch := omega) only [go_sem, simprocAttr, cellsV, decide_true, beq_self_eq_true, decide_eq_false (show ¬ (dV v : Int) <= (E : Int) by omega), decide_eq_true (show (p : Int) < (s.size : Int) by omega), hb]
  ·simp (implicitDefEqProofs := false) (disch := omega) only [go_sem, simprocAttr, cellsV, decide_true, beq_self_eq_true, decide_eq_false (show ¬ (dV v : Int) <= (E : Int) by omega), decide_eq_true (show (p : Int) < (s.size : Int) by omega), hb]
end Go.Proofs.YtcgmpcbkndpmbaaGreatDoor

end
section
open Go Go.Proofs Go.Pw Go.RowKit
namespace Go.Proofs.YtcgmpcbkndpmbaaGreatDoor
set_option maxRecDepth 4000
set_option linter.unusedVariables false
set_option linter.unusedSimpArgs false
theorem wf_u8_ {n : Int} (h : (Lit.int .u8 n).wf = true) : 0 <= n /\ n <= 255 := by
 simp only [Lit.wf, Bool.and_eq_true, decide_eq_true_eq] at h
 exact h
theorem wf_i64_ {n : Int} (h : (Lit.int .i64 n).wf = true) : -9223372036854775808 <= n /\ n <= 9223372036854775807 := by
 simp only [Lit.wf, Bool.and_eq_true, decide_eq_true_eq] at h
 exact h
section
variable {H : Type} {en : TypeId × Value -> H} {w : World} {base : Nat} {spare : Nat -> Bool} {held : Bool}
theorem rdTexts : Rd en Tryz.prog w base spare held 26 (fun l : List ByteArray => [.sl (encT l)]) (fun l => l.length <= maxLen /\ ∀ s ∈ l, s.size <= maxLen) :=
 Rd.slice (sz := 1) Tryz.underlying26 (by kernel_rfl) (by decide) (fun _ => rfl) (Rd.string Tryz.underlying9)
theorem rdBytes : Rd en Tryz.prog w base spare held 23 (fun l : List Int => [.sl (encC l)]) (fun l => l.length <= maxLen /\ ∀ n ∈ l, (Lit.int .u8 n).wf = true) :=
 Rd.slice (sz := 1) Tryz.underlying23 (by kernel_rfl) (by decide) (fun _ => rfl) (Rd.int Tryz.underlying5)
theorem rdNode : Rd en Tryz.prog w base spare held 54 cellsN NdOk := by
 refine Rd.map (Rd.struct5 Tryz.underlying54 rfl (by kernel_rfl) rfl rfl rfl rfl rfl (by kernel_rfl) (by kernel_rfl) (by kernel_rfl) (by kernel_rfl) (by kernel_rfl)
  (Rd.int Tryz.underlying5) (Rd.int Tryz.underlying2) (Rd.string Tryz.underlying9) rdBytes rdTexts)
  (fun a => ⟨a.1, a.2.1, a.2.2.1, a.2.2.2.1, a.2.2.2.2⟩) (fun a => rfl) (fun a h => ⟨wf_u8_ h.1, wf_i64_ h.2.1, fun d hd => wf_u8_ (h.2.2.2.1.2 d hd), h.2.2.2.1.1, h.2.2.2.2.1⟩)
theorem rdNodes : Rd en Tryz.prog w base spare held 22 (fun l : List Nd => [.sl (encN l)]) (fun l => l.length <= maxLen /\ NdsOk l) :=
 Rd.slice (sz := 5) Tryz.underlying22 (by kernel_rfl) (by decide) (fun _ => rfl) rdNode
end
end Go.Proofs.YtcgmpcbkndpmbaaGreatDoor

end
