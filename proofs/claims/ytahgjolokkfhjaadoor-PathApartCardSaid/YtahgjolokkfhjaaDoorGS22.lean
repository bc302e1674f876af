/-
  Contracts and plain laws on the way to the statement; each says its own conditions.
-/
import Derived.Test.YtahgjolokkfhjaaDoorGS15
import Derived.Test.YtahgjolokkfhjaaDoorGS21
import Derived.Test.YtahgjolokkfhjaaDoorGS11
import Derived.Test.YtahgjolokkfhjaaDoorGS20
import Derived.Test.YtahgjolokkfhjaaDoorGS10
section
/-
  The law of makers.
-/
open Go Go.Proofs Go.Pw Go.RowKit
namespace Go.Proofs.YtahgjolokkfhjaaDoor
set_option maxRecDepth 4000
set_option linter.unusedVariables false
set_option linter.unusedSimpArgs false
theorem list_ok (l : List V) (hl : l.length ≤ 1000000) : Ok Tryd.prog 31 [.sl (encV l)] (.agg (cellsV (.mk 4 false 0 ByteArray.empty l []))) := by
  have c := cloneV_ok l hl
  refine Ok.of_pwp (by kernel_rfl) Tryd.func31 rfl (by kernel_rfl) (by kernel_rfl) ?_
  simp (implicitDefEqProofs := false) (disch := omega) only [go_sem, simprocAttr, go_sem, Nat.le_refl, cellsV, encV_nil, encT_nil, Tryd.results31]
  with_reducible refine CallOk.of c rfl ?_
  simp (implicitDefEqProofs := false) (disch := omega) only [go_sem, simprocAttr, go_sem, Nat.le_refl, cellsV, encV_nil, encT_nil, Tryd.results31]
end Go.Proofs.YtahgjolokkfhjaaDoor

end
section
/-
  Chapter 4: the fixed example; the law Gets.
-/
open Go Go.Proofs Go.Pw Go.RowKit
namespace Go.Proofs.YtahgjolokkfhjaaDoor
set_option maxRecDepth 4000
set_option linter.unusedVariables false
set_option linter.unusedSimpArgs false
abbrev nV_ (n : Int) : V := .mk 2 false n ByteArray.empty [] []
abbrev lst_ : V := .mk 4 false 0 ByteArray.empty [nV_ 5, nV_ 6] []
abbrev obj_ : V := .mk 5 false 0 ByteArray.empty [lst_] [⟨#[97]⟩]
theorem sOf_1 : sOf 1 = ⟨#[49]⟩ := by
  rw [sOf_pos (by decide), decD_pad, show (1 : Int).natAbs = 1 from rfl, Lib.nDigits_small (by decide)]
  rfl
theorem ex_get : getV obj_ [⟨#[97]⟩, ⟨#[49]⟩] = some (nV_ 6) := by
  have h1 : plc obj_ ⟨#[97]⟩ = 0 := by decide +kernel
  have h2 : plc lst_ ⟨#[49]⟩ = 1 := by
    rw [plc_mk, if_neg (by decide), if_pos rfl]
    exact ixT_yes (n := 2) (i := 1) (by decide) sOf_1
  rw [getV, h1, if_neg (by decide)]
  show getV lst_ _ = _
  rw [getV, h2, if_neg (by decide)]
  rfl
theorem ex_obj : objF [⟨#[97]⟩] [lst_] = .tup [.agg (cellsV obj_), vI 0] := by
  unfold objF
  rw [if_neg (by decide), if_neg (by decide +kernel)]
  have : putAll [] [] [⟨#[97]⟩] [lst_] = some ([⟨#[97]⟩], [lst_]) := by
    rw [putAll, if_neg (by decide +kernel), putAll.eq_2 _ _ _ _ (fun _ _ _ _ h => by cases h)]
    have p1 : posT [] ⟨#[97]⟩ = 0 := by decide +kernel
    rw [p1]
    rfl
  rw [this, objR]
theorem ex_gv : GV obj_ := ⟨by decide +kernel, by decide +kernel⟩
set_option maxHeartbeats 4000000 in
theorem awake_ok : Ok Tryd.prog 9 [] (vB true) := by
  have c1 := num_ok 5
  have c2 := num_ok 6
  have c3 := list_ok [nV_ 5, nV_ 6] (by decide)
  have c4 := object_ok [⟨#[97]⟩] [lst_] (by intro s h; simp at h; subst h; decide) (by decide) (by decide)
  rw [ex_obj] at c4
  have c5 := get_ok obj_ [⟨#[97]⟩, ⟨#[49]⟩] ex_gv (by intro s h; simp at h; rcases h with rfl | rfl <;> decide) (by decide)
  rw [ex_get] at c5
  unfold resG at c5
  simp only [encT, encV_cons, encV_nil, encT_nil, List.map_cons, List.map_nil, V.kind_mk, V.b_mk, V.n_mk, V.s_mk, V.items_mk, V.keys_mk, cellsV] at c1 c2 c3 c4 c5
  refine Ok.of_pwp (by kernel_rfl) Tryd.func9 rfl (by kernel_rfl) (by kernel_rfl) ?_
  simp (implicitDefEqProofs := false) (disch := omega) only [go_sem, simprocAttr, go_sem, Nat.le_refl, Int.toNat_natCast, Int.toNat_zero, Int.toNat_one, str_eq, cellsV, decide_true, Bool.not_true, Bool.not_false, beq_self_eq_true, encV_nil, encT_nil, List.getD_cons_zero, Tryd.results9]
  with_reducible refine CallOk.of c1 rfl ?_
  simp (implicitDefEqProofs := false) (disch := omega) only [go_sem, simprocAttr, go_sem, Nat.le_refl, Int.toNat_natCast, Int.toNat_zero, Int.toNat_one, str_eq, cellsV, decide_true, Bool.not_true, Bool.not_false, beq_self_eq_true, encV_nil, encT_nil, List.getD_cons_zero, Tryd.results9]
  with_reducible refine CallOk.of c2 rfl ?_
  simp (implicitDefEqProofs := false) (disch := omega) only [go_sem, simprocAttr, go_sem, Nat.le_refl, Int.toNat_natCast, Int.toNat_zero, Int.toNat_one, str_eq, cellsV, decide_true, Bool.not_true, Bool.not_false, beq_self_eq_true, encV_nil, encT_nil, List.getD_cons_zero, Tryd.results9]
  with_reducible refine CallOk.of c3 rfl ?_
  simp (implicitDefEqProofs := false) (disch := omega) only [go_sem, simprocAttr, go_sem, Nat.le_refl, Int.toNat_natCast, Int.toNat_zero, Int.toNat_one, str_eq, cellsV, decide_true, Bool.not_true, Bool.not_false, beq_self_eq_true, encV_nil, encT_nil, List.getD_cons_zero, Tryd.results9]
  with_reducible refine CallOk.of c4 rfl ?_
  simp (implicitDefEqProofs := false) (disch := omega) only [go_sem, simprocAttr, go_sem, Nat.le_refl, Int.toNat_natCast, Int.toNat_zero, Int.toNat_one, str_eq, cellsV, decide_true, Bool.not_true, Bool.not_false, beq_self_eq_true, encV_nil, encT_nil, List.getD_cons_zero, Tryd.results9]
  with_reducible refine CallOk.of c5 rfl ?_
  simp (implicitDefEqProofs := false) (disch := omega) only [go_sem, simprocAttr, go_sem, Nat.le_refl, Int.toNat_natCast, Int.toNat_zero, Int.toNat_one, str_eq, cellsV, decide_true, Bool.not_true, Bool.not_false, beq_self_eq_true, encV_nil, encT_nil, List.getD_cons_zero, Tryd.results9]
theorem getV_gv : ∀ {p : List ByteArray} {v u : V}, GV v → getV v p = some u → GV u
  | [], v, u, h, k => by cases k; exact h
  | t :: r, v, u, h, k => by
    rw [getV] at k
    split at k
    · cases k
    · rename_i hn
      exact getV_gv (h.item (getD_mem (h.at hn))) k
theorem vz_gv : GV vZero := ⟨by decide +kernel, by rw [szV_eq]; decide +kernel⟩
end Go.Proofs.YtahgjolokkfhjaaDoor

end
section
/-
  Chapter 4: what is set at one path changes nothing of what stands at another one: the law.
-/
open Go Go.Proofs Go.Pw Go.RowKit
namespace Go.Proofs.YtahgjolokkfhjaaDoor
set_option maxRecDepth 4000
set_option linter.unusedVariables false
set_option linter.unusedSimpArgs false
theorem pickV_mem (v : V) (n : Nat) : ∃ u, (pickV v n, u) ∈ allV v [] := by
  have hpos : 0 < (allV v []).length := by rw [allV_eq, List.length_cons]; omega
  have := getD_mem (d := (default : Part)) (Nat.mod_lt n hpos)
  exact ⟨((allV v []).getD (n % (allV v []).length) default).2, this⟩
theorem pickV_get {v : V} (gv : GV v) (n : Nat) : ∃ u, getV v (pickV v n) = some u := by
  obtain ⟨u, hu⟩ := pickV_mem v n
  obtain ⟨r, h1, h2⟩ := allV_get v gv [] _ hu
  simp only [List.nil_append] at h1
  exact ⟨u, by rw [h1]; exact h2⟩
theorem plc_text {v : V} {t : ByteArray} (gv : GV v) (hn : ¬ plc v t < 0) : t = stepT v.kind v.keys (plc v t).toNat := by
  have hlt := gv.at (t := t) hn
  refine plc_inj gv hn ?_
  rw [plc_step gv hlt]
  omega
theorem getV_few : ∀ (p : List ByteArray) (v u : V), GV v → getV v p = some u → fewT p ∧ p.length < szV v
  | [], v, u, gv, h => ⟨fun s hs => (by cases hs), by have := szV_pos v; simp; omega⟩
  | t :: r, v, u, gv, h => by
    rw [getV] at h
    split at h
    · cases h
    rename_i hn
    have hlt := gv.at (t := t) hn
    have hm := getD_mem (d := (default : V)) hlt
    obtain ⟨h1, h2⟩ := getV_few r _ u (gv.item hm) h
    have e1 := szV_eq v
    have e2 := szVs_mem hm
    refine ⟨fun s hs => ?_, by rw [List.length_cons]; omega⟩
    rcases List.mem_cons.1 hs with e | hs
    · have hk := plc_text gv hn
      rw [e, hk]
      unfold stepT
      split
      · by_cases hi : (plc v t).toNat < v.keys.length
        · exact gv.few _ (getD_mem hi)
        · rw [List.getD_eq_getElem?_getD, List.getElem?_eq_none (by omega)]; exact Nat.zero_le _
      · have := sOf_size ((plc v t).toNat : Int) (by have := gv.2; have := (V.small gv.2).1; unfold fits; omega)
        omega
    · exact h1 s hs
abbrev vU16 (n : Int) : PV := .val (.int .u16 n)
set_option maxHeartbeats 8000000 in
theorem apart_ok (l m : List Nd) (x y : Int) (hN : NdsOk l) (hM : NdsOk m) (hl : l.length ≤ 9223372036854775807) (hm : m.length ≤ 9223372036854775807) (x0 : 0 ≤ x) (x1 : x ≤ 65535) (y0 : 0 ≤ y) (y1 : y ≤ 65535) :
    Ok Tryd.prog 6 [.sl (encN l), .sl (encN m), .agg [vU16 x, vU16 y]] (vB true) := by
  have c0 := awake_ok
  refine Ok.of_pwp (by kernel_rfl) Tryd.func6 rfl (by kernel_rfl) (by kernel_rfl) ?_
  simp (implicitDefEqProofs := false) (disch := omega) only [go_sem, simprocAttr, go_sem, Nat.le_refl, Int.toNat_natCast, Int.toNat_zero, Int.toNat_one, str_eq, cellsV, decide_true, Bool.not_true, Bool.not_false, beq_self_eq_true, Tryd.results6]
  with_reducible refine CallOk.of c0 rfl ?_
  simp (implicitDefEqProofs := false) (disch := omega) only [go_sem, simprocAttr, go_sem, Nat.le_refl, Int.toNat_natCast, Int.toNat_zero, Int.toNat_one, str_eq, cellsV, decide_true, Bool.not_true, Bool.not_false, beq_self_eq_true, Tryd.results6]
  refine CallOk.ofI (OkI.ofQ (st := ⟨[], _, _, _, _⟩) (tree_ok l hN hl) ?_) rfl rfl rfl rfl ?_
  · rfl
  rintro r st1 ⟨⟨v, hv, rfl⟩, rfl⟩
  simp (implicitDefEqProofs := false) (disch := omega) only [go_sem, simprocAttr, go_sem, Nat.le_refl, Int.toNat_natCast, Int.toNat_zero, Int.toNat_one, str_eq, cellsV, decide_true, Bool.not_true, Bool.not_false, beq_self_eq_true, Tryd.results6]
  refine CallOk.ofI (OkI.ofQ (st := ⟨[], _, _, _, _⟩) (tree_ok m hM hm) ?_) rfl rfl rfl rfl ?_
  · rfl
  rintro r st1 ⟨⟨w, hw, rfl⟩, rfl⟩
  have gv := hv.gv
  have gw := hw.gv
  have p1 := pick_ok v gv x x0 x1
  have p2 := pick_ok v gv y y0 y1
  obtain ⟨u1, hu1⟩ := pickV_get gv x.toNat
  obtain ⟨u2, hu2⟩ := pickV_get gv y.toNat
  obtain ⟨f1, s1⟩ := getV_few _ _ _ gv hu1
  obtain ⟨f2, s2⟩ := getV_few _ _ _ gv hu2
  have z1 := gv.2
  generalize pickV v x.toNat = p at *
  generalize pickV v y.toNat = q at *
  have b1 := begins_ok p q (by omega) (by omega)
  have b2 := begins_ok q p (by omega) (by omega)
  simp only [cellsV] at p1 p2
  simp (implicitDefEqProofs := false) (disch := omega) only [go_sem, simprocAttr, go_sem, Nat.le_refl, Int.toNat_natCast, Int.toNat_zero, Int.toNat_one, str_eq, cellsV, decide_true, Bool.not_true, Bool.not_false, beq_self_eq_true, Tryd.results6]
  with_reducible refine CallOk.of p1 rfl ?_
  simp (implicitDefEqProofs := false) (disch := omega) only [go_sem, simprocAttr, go_sem, Nat.le_refl, Int.toNat_natCast, Int.toNat_zero, Int.toNat_one, str_eq, cellsV, decide_true, Bool.not_true, Bool.not_false, beq_self_eq_true, Tryd.results6]
  with_reducible refine CallOk.of p2 rfl ?_
  simp (implicitDefEqProofs := false) (disch := omega) only [go_sem, simprocAttr, go_sem, Nat.le_refl, Int.toNat_natCast, Int.toNat_zero, Int.toNat_one, str_eq, cellsV, decide_true, Bool.not_true, Bool.not_false, beq_self_eq_true, Tryd.results6]
  by_cases hb1 : q <+: p
  · rw [decide_eq_true hb1] at b1
    with_reducible refine CallOk.of b1 rfl ?_
    simp (implicitDefEqProofs := false) (disch := omega) only [go_sem, simprocAttr, go_sem, Nat.le_refl, Int.toNat_natCast, Int.toNat_zero, Int.toNat_one, str_eq, cellsV, decide_true, Bool.not_true, Bool.not_false, beq_self_eq_true, Tryd.results6]
  rw [decide_eq_false hb1] at b1
  with_reducible refine CallOk.of b1 rfl ?_
  simp (implicitDefEqProofs := false) (disch := omega) only [go_sem, simprocAttr, go_sem, Nat.le_refl, Int.toNat_natCast, Int.toNat_zero, Int.toNat_one, str_eq, cellsV, decide_true, Bool.not_true, Bool.not_false, beq_self_eq_true, Tryd.results6]
  by_cases hb2 : p <+: q
  · rw [decide_eq_true hb2] at b2
    with_reducible refine CallOk.of b2 rfl ?_
    simp (implicitDefEqProofs := false) (disch := omega) only [go_sem, simprocAttr, go_sem, Nat.le_refl, Int.toNat_natCast, Int.toNat_zero, Int.toNat_one, str_eq, cellsV, decide_true, Bool.not_true, Bool.not_false, beq_self_eq_true, Tryd.results6]
  rw [decide_eq_false hb2] at b2
  with_reducible refine CallOk.of b2 rfl ?_
  obtain ⟨v', hv'⟩ := set_some p v w u1 hu1
  have hap := set_apart p q v w v' gv hv' hb2 hb1
  obtain ⟨g1, g2⟩ := set_good p v w v' gv.1 gw.1 gv hv'
  have hzv := hv.sz
  have hzw := hw.sz
  have gv' : GV v' := ⟨g1, by omega⟩
  have gu2 := getV_gv gv hu2
  have c1 := real_ok v gv.2
  have c2 := real_ok w gw.2
  have c3 := pset_ok w gw.2 p v gv f1 (by omega)
  have c4 := get_ok v' q gv' f2 (by omega)
  have c5 := rget_ok v q gv f2 (by omega)
  have c6 := ref_ok u2 gu2.2
  have c7 := same_ok u2 gu2.2 u2 gu2.2
  rw [sameV_T rfl] at c7
  rw [hv'] at c3
  rw [hap, hu2] at c4
  rw [hu2] at c5
  unfold resG at c3 c4
  unfold resB at c5
  simp only [cellsV] at c1 c2 c3 c4 c5 c6 c7
  simp (implicitDefEqProofs := false) (disch := omega) only [go_sem, simprocAttr, go_sem, Nat.le_refl, Int.toNat_natCast, Int.toNat_zero, Int.toNat_one, str_eq, cellsV, decide_true, Bool.not_true, Bool.not_false, beq_self_eq_true, Tryd.results6]
  with_reducible refine CallOk.of c1 rfl ?_
  simp (implicitDefEqProofs := false) (disch := omega) only [go_sem, simprocAttr, go_sem, Nat.le_refl, Int.toNat_natCast, Int.toNat_zero, Int.toNat_one, str_eq, cellsV, decide_true, Bool.not_true, Bool.not_false, beq_self_eq_true, Tryd.results6]
  with_reducible refine CallOk.of c2 rfl ?_
  simp (implicitDefEqProofs := false) (disch := omega) only [go_sem, simprocAttr, go_sem, Nat.le_refl, Int.toNat_natCast, Int.toNat_zero, Int.toNat_one, str_eq, cellsV, decide_true, Bool.not_true, Bool.not_false, beq_self_eq_true, Tryd.results6]
  with_reducible refine CallOk.of c3 rfl ?_
  simp (implicitDefEqProofs := false) (disch := omega) only [go_sem, simprocAttr, go_sem, Nat.le_refl, Int.toNat_natCast, Int.toNat_zero, Int.toNat_one, str_eq, cellsV, decide_true, Bool.not_true, Bool.not_false, beq_self_eq_true, Tryd.results6]
  with_reducible refine CallOk.of c4 rfl ?_
  simp (implicitDefEqProofs := false) (disch := omega) only [go_sem, simprocAttr, go_sem, Nat.le_refl, Int.toNat_natCast, Int.toNat_zero, Int.toNat_one, str_eq, cellsV, decide_true, Bool.not_true, Bool.not_false, beq_self_eq_true, Tryd.results6]
  with_reducible refine CallOk.of c5 rfl ?_
  simp (implicitDefEqProofs := false) (disch := omega) only [go_sem, simprocAttr, go_sem, Nat.le_refl, Int.toNat_natCast, Int.toNat_zero, Int.toNat_one, str_eq, cellsV, decide_true, Bool.not_true, Bool.not_false, beq_self_eq_true, Tryd.results6]
  with_reducible refine CallOk.of c6 rfl ?_
  simp (implicitDefEqProofs := false) (disch := omega) only [go_sem, simprocAttr, go_sem, Nat.le_refl, Int.toNat_natCast, Int.toNat_zero, Int.toNat_one, str_eq, cellsV, decide_true, Bool.not_true, Bool.not_false, beq_self_eq_true, Tryd.results6]
  with_reducible refine CallOk.of c7 rfl ?_
  simp (implicitDefEqProofs := false) (disch := omega) only [go_sem, simprocAttr, go_sem, Nat.le_refl, Int.toNat_natCast, Int.toNat_zero, Int.toNat_one, str_eq, cellsV, decide_true, Bool.not_true, Bool.not_false, beq_self_eq_true, Tryd.results6]
end Go.Proofs.YtahgjolokkfhjaaDoor

end
section
/-
  How nodes and lists of texts read, as a law's arguments.
-/
open Go Go.Proofs Go.Pw Go.RowKit
namespace Go.Proofs.YtahgjolokkfhjaaDoor
set_option maxRecDepth 4000
set_option linter.unusedVariables false
set_option linter.unusedSimpArgs false
theorem wf_u8_ {n : Int} (h : (Lit.int .u8 n).wf = true) : 0 ≤ n ∧ n ≤ 255 := by
  simp only [Lit.wf, Bool.and_eq_true, decide_eq_true_eq] at h
  exact h
section
variable {H : Type} {en : TypeId × Value → H} {w : World} {base : Nat} {spare : Nat → Bool} {held : Bool}
theorem rdTexts : Rd en Tryd.prog w base spare held 23 (fun l : List ByteArray => [.sl (encT l)]) (fun l => l.length ≤ maxLen ∧ ∀ s ∈ l, s.size ≤ maxLen) :=
  Rd.slice (sz := 1) Tryd.underlying23 (by kernel_rfl) (by decide) (fun _ => rfl) (Rd.string Tryd.underlying9)
theorem rdBytes : Rd en Tryd.prog w base spare held 71 (fun l : List Int => [.sl (encC l)]) (fun l => l.length ≤ maxLen ∧ ∀ n ∈ l, (Lit.int .u8 n).wf = true) :=
  Rd.slice (sz := 1) Tryd.underlying71 (by kernel_rfl) (by decide) (fun _ => rfl) (Rd.int Tryd.underlying5)
theorem rdNode : Rd en Tryd.prog w base spare held 73 cellsN NdOk := by
  refine Rd.map (Rd.struct5 Tryd.underlying73 rfl (by kernel_rfl) rfl rfl rfl rfl rfl (by kernel_rfl) (by kernel_rfl) (by kernel_rfl) (by kernel_rfl) (by kernel_rfl)
    (Rd.int Tryd.underlying5) (Rd.int Tryd.underlying2) (Rd.string Tryd.underlying9) rdBytes rdTexts)
    (fun a => ⟨a.1, a.2.1, a.2.2.1, a.2.2.2.1, a.2.2.2.2⟩) (fun a => rfl) (fun a h => ⟨wf_u8_ h.1, fun d hd => wf_u8_ (h.2.2.2.1.2 d hd), h.2.2.2.1.1, h.2.2.2.2.1⟩)
theorem rdNodes : Rd en Tryd.prog w base spare held 22 (fun l : List Nd => [.sl (encN l)]) (fun l => l.length ≤ maxLen ∧ NdsOk l) :=
  Rd.slice (sz := 5) Tryd.underlying22 (by kernel_rfl) (by decide) (fun _ => rfl) rdNode
end
end Go.Proofs.YtahgjolokkfhjaaDoor

end
section
/-
  Chapter 4: how two numbers, and where something is set, read as a law's arguments; the rows.
-/
open Go Go.Proofs Go.Pw Go.RowKit
namespace Go.Proofs.YtahgjolokkfhjaaDoor
set_option maxRecDepth 4000
set_option linter.unusedVariables false
set_option linter.unusedSimpArgs false
theorem wf_u16_ {n : Int} (h : (Lit.int .u16 n).wf = true) : 0 ≤ n ∧ n ≤ 65535 := by
  simp only [Lit.wf, Bool.and_eq_true, decide_eq_true_eq] at h
  exact h
def PairOk (l : Int × Int) : Prop := (0 ≤ l.1 ∧ l.1 ≤ 65535) ∧ 0 ≤ l.2 ∧ l.2 ≤ 65535
def WhereOk (l : Int × List ByteArray) : Prop := (0 ≤ l.1 ∧ l.1 ≤ 65535) ∧ l.2.length ≤ maxLen
section
variable {H : Type} {en : TypeId × Value → H} {w : World} {base : Nat} {spare : Nat → Bool} {held : Bool}
theorem rdPair : Rd en Tryd.prog w base spare held 59 (fun l : Int × Int => [.val (.int .u16 l.1), .val (.int .u16 l.2)]) PairOk :=
  Rd.map (Rd.array2 Tryd.underlying59 (by kernel_rfl) (by kernel_rfl) (Rd.int Tryd.underlying52)) (fun a => a) (fun a => rfl) (fun a h => ⟨wf_u16_ h.1, wf_u16_ h.2⟩)
theorem rdWhere : Rd en Tryd.prog w base spare held 54 (fun l : Int × List ByteArray => [.val (.int .u16 l.1), .sl (encT l.2)]) WhereOk :=
  Rd.map (Rd.struct2 Tryd.underlying54 rfl (by kernel_rfl) rfl rfl (by kernel_rfl) (by kernel_rfl) (Rd.int Tryd.underlying52) rdTexts) (fun a => a) (fun a => rfl) (fun a h => ⟨wf_u16_ h.1, h.2.1⟩)
end
theorem apart_row (l m : List Nd) (x : Int × Int) (hN : NdsOk l) (hl : l.length ≤ 9223372036854775807) (hM : NdsOk m) (hm : m.length ≤ 9223372036854775807) (hx : PairOk x) :
    Ok Tryd.prog 6 [.sl (encN l), .sl (encN m), .agg [.val (.int .u16 x.1), .val (.int .u16 x.2)]] (vB true) :=
  apart_ok l m x.1 x.2 hN hM hl hm hx.1.1 hx.1.2 hx.2.1 hx.2.2
end Go.Proofs.YtahgjolokkfhjaaDoor

end
