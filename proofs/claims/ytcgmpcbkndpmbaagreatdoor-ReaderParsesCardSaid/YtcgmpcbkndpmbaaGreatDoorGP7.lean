/-
  Contracts and plain laws on the way to the statement; each says its own conditions.
-/
import Derived.Test.YtcgmpcbkndpmbaaGreatDoorGP6
import Derived.Lib.TrimUEq
import Derived.Sort.Walk0
import Derived.Shelf.Spec.SlicesInsertGrow
import Derived.Test.YtcgmpcbkndpmbaaGreatDoorProg
section
open Go Go.Proofs Go.Pw Go.RowKit
namespace Go.Proofs.YtcgmpcbkndpmbaaGreatDoor
set_option maxRecDepth 4000
set_option linter.unusedVariables false
set_option linter.unusedSimpArgs false
attribute [local go_sem] Nat.le_refl Tryz.results68 Tryz.results70
abbrev tkC (k : Int) (t : ByteArray) (n : Int) (a e : Nat) : List PV := [vI k, vS t, vI n, vI a, vI e]
def ReadQ (s : ByteArray) (j : Nat) (cs : List PV) (R : Int) (r : PV) (st : PS) : Prop := r = vI R /\ st.heap = [(0, .box 94 [vS s, vI j]), (1, .box 67 cs)] /\ st.toks = [] /\ st.nx = 2
def Reads (g : FuncId) (s : ByteArray) (i j : Nat) (cs cs' : List PV) (R : Int) : Prop := OkI Tryz.prog g [.ptr 0 0, .ptr 1 0] ⟨[], [(0, .box 94 [vS s, vI i]), (1, .box 67 cs)], [], 2, 0⟩ (ReadQ s j cs' R)
theorem Reads.at {g : FuncId} {s : ByteArray} {i j : Nat} {cs cs' : List PV} {R : Int} (h : Reads g s i j cs cs' R) (k m : Nat) {st : PS} (hkm : k ≠ m) (hk : k < st.nx) (hm : m < st.nx) (hcs : PV.ltL 0 0 cs = true) (hcs' : PV.ltL 0 0 cs' = true) (ho : lkp st.heap k = some (.box 94 [vS s, vI i])) (hp : lkp st.heap m = some (.box 67 cs)) :
  OkI Tryz.prog g [.ptr k 0, .ptr m 0] st (fun r st' => r = vI R /\ ∃ nt', st.nt <= nt' /\ st' = ⟨st.env, (k, .box 94 [vS s, vI j]) :: (m, .box 67 cs') :: dropH [k, m] st.heap, st.toks, st.nx, nt'⟩) :=
 OkI.on2 k m h hkm hk hm rfl rfl hcs hcs' rfl rfl ho hp
set_option maxHeartbeats 4000000 in
theorem mark_ok (s : ByteArray) (i : Nat) (hi : i < s.size) (hs : s.size <= 1000000) (a : Nat) : Reads 70 s i (i + 1) (tkC 0 ByteArray.empty 0 a 0) (tkC 1 (s.extract i (i + 1)) 0 a 0) 0 := by
 refine OkI.of_pwp (by kernel_rfl) Tryz.func70 rfl (by kernel_rfl) (by kernel_rfl) ?_
 have hx : ((i : Int) + 1).toNat = i + 1 := by omega
 simp (implicitDefEqProofs := false) (disch := omega) only [go_sem, simprocAttr, dropH, inL, hx]
 refine ⟨⟨[], [(0, .box 94 [vS s, vI (i + 1 : Nat)]), (1, .box 67 (tkC 1 (s.extract i (i + 1)) 0 a 0))], [], 2, 0⟩, ⟨rfl, rfl, rfl, rfl⟩, ?_⟩
 constructor <;> simp only [go_sem, simprocAttr, decide_eq_true_eq, Int.natCast_add, Int.natCast_one] <;> try ((repeat' apply And.intro) <;> first | rfl | omega | (congr 3; omega) | (congr 2; omega))
def litF (s w : ByteArray) : Nat -> Nat -> Nat -> Bool × Nat
 | 0, k, i => (true, i)
 | f + 1, k, i => if hasF s (w.extract k (k + 1)) i = true then litF s w f (k + 1) (i + 1) else (false, i)
abbrev wd1 : ByteArray := ⟨#[116, 114, 117, 101]⟩
abbrev wd2 : ByteArray := ⟨#[102, 97, 108, 115, 101]⟩
abbrev wd3 : ByteArray := ⟨#[110, 117, 108, 108]⟩
def wordF (s : ByteArray) (i : Nat) : Int × Int × Nat :=
 if hasF s ⟨#[116]⟩ i = true then (if (litF s wd1 4 0 i).1 = true then (0, 4, (litF s wd1 4 0 i).2) else (1, 0, (litF s wd1 4 0 i).2)) else
 if hasF s ⟨#[102]⟩ i = true then (if (litF s wd2 5 0 i).1 = true then (0, 5, (litF s wd2 5 0 i).2) else (1, 0, (litF s wd2 5 0 i).2)) else
 if hasF s ⟨#[110]⟩ i = true then (if (litF s wd3 4 0 i).1 = true then (0, 6, (litF s wd3 4 0 i).2) else (1, 0, (litF s wd3 4 0 i).2)) else (1, 0, i)
theorem x1 : wd1.extract 0 1 = ⟨#[116]⟩ := by decide +kernel
theorem x2 : wd2.extract 0 1 = ⟨#[102]⟩ := by decide +kernel
theorem x3 : wd3.extract 0 1 = ⟨#[110]⟩ := by decide +kernel
theorem szw1 : (((#[116, 114, 117, 101] : Array UInt8).size : Nat) : Int) = 4 := rfl
theorem szw2 : (((#[102, 97, 108, 115, 101] : Array UInt8).size : Nat) : Int) = 5 := rfl
theorem szw3 : (((#[110, 117, 108, 108] : Array UInt8).size : Nat) : Int) = 4 := rfl
set_option maxHeartbeats 8000000 in
theorem word_ok (s : ByteArray) (i : Nat) (hi : i <= s.size) (hs : s.size <= 1000000) (a : Nat) : Reads 68 s i (wordF s i).2.2 (tkC 0 ByteArray.empty 0 a 0) (tkC (wordF s i).2.1 ByteArray.empty 0 a 0) (wordF s i).1 := by
 refine OkI.of_pwp (by kernel_rfl) Tryz.func68 rfl (by kernel_rfl) (by kernel_rfl) ?_
 simp (implicitDefEqProofs := false) (disch := omega) only [go_sem, simprocAttr, dropH, inL, List.getD_cons_zero, List.getD_cons_succ, List.length_singleton, x1, x2, x3, szw1, szw2, szw3]
 refine p_loop (ι := { p : Nat × Nat // p.1 <= 3 /\ (1 <= p.1 -> hasF s ⟨#[116]⟩ i = false) /\ (2 <= p.1 -> hasF s ⟨#[102]⟩ i = false) /\ (3 <= p.1 -> hasF s ⟨#[110]⟩ i = false) }) (fun p => ⟨[(10, vI p.1.1), (9, vI 3), (8, .sl [[vS wd1], [vS wd2], [vS wd3]]), (0, .ptr 0 0), (1, .ptr 1 0)], [(0, .box 94 [vS s, vI i]), (1, .box 67 (tkC 0 ByteArray.empty 0 a 0))], [], 2, p.1.2⟩) (fun p => 3 - p.1.1) ⟨(0, 0), Nat.zero_le _, fun h => by simp at h, fun h => by simp at h, fun h => by simp at h⟩ ?_ ?_
 ·constructor <;> simp only [go_sem, simprocAttr, decide_eq_true_eq, Int.natCast_zero] <;> try ((repeat' apply And.intro) <;> first | rfl | omega | (congr 3; omega) | (congr 2; omega))
 ·rintro ⟨⟨m, nt⟩, h0, h1, h2, h3⟩
  simp only at h0 h1 h2 h3 ⊢
  have hm : m = 0 ∨ m = 1 ∨ m = 2 ∨ m = 3 := by omega
  rcases hm with rfl | rfl | rfl | rfl
  ·have c := has_ok s ⟨#[116]⟩ i hi hs
   simp (implicitDefEqProofs := false) (disch := omega) only [go_sem, simprocAttr, dropH, inL, List.getD_cons_zero, List.getD_cons_succ, List.length_singleton, x1, x2, x3, szw1, szw2, szw3]
   refine CallOk.ofI (c.at (st := ⟨[], _, _, _, _⟩) 0 rfl rfl (by simp) (by rfl)) rfl rfl rfl rfl ?_
   rintro r st' ⟨rfl, nt1, q1, rfl⟩
   simp only at q1
   cases hh : hasF s ⟨#[116]⟩ i with
   | false =>
    simp (implicitDefEqProofs := false) (disch := omega) only [go_sem, simprocAttr, dropH, inL, List.getD_cons_zero, List.getD_cons_succ, List.length_singleton, x1, x2, x3, szw1, szw2, szw3, hh]
    refine ⟨⟨(1, nt), by simp, fun _ => rfl, fun h => by simp at h, fun h => by simp at h⟩, by simp, ?_⟩
    constructor <;> simp only [go_sem, simprocAttr, decide_eq_true_eq] <;> try ((repeat' apply And.intro) <;> first | rfl | omega | (congr 3; omega) | (congr 2; omega))
   | true =>
    have hE : wordF s i = (if (litF s wd1 4 0 i).1 = true then (0, 4, (litF s wd1 4 0 i).2) else (1, 0, (litF s wd1 4 0 i).2)) := by unfold wordF; rw [if_pos hh]
    rw [hE]
    simp (implicitDefEqProofs := false) (disch := omega) only [go_sem, simprocAttr, dropH, inL, List.getD_cons_zero, List.getD_cons_succ, List.length_singleton, x1, x2, x3, szw1, szw2, szw3, hh]
    refine p_loop (ι := { p : Nat × Nat × Nat // p.1 <= 4 /\ p.2.1 <= s.size /\ litF s wd1 (4 - p.1) p.1 p.2.1 = litF s wd1 4 0 i }) (fun p => ⟨[(22, vI p.1.1), (21, vI 4), (6, vS wd1), (5, vI 0), (0, .ptr 0 0), (1, .ptr 1 0)], [(0, .box 94 [vS s, vI p.1.2.1]), (1, .box 67 (tkC 0 ByteArray.empty 0 a 0))], [], 2, p.1.2.2⟩) (fun p => 4 - p.1.1) ⟨(0, i, nt), Nat.zero_le _, hi, rfl⟩ ?_ ?_
    ·constructor <;> simp only [go_sem, simprocAttr, decide_eq_true_eq, Int.natCast_zero] <;> try ((repeat' apply And.intro) <;> first | rfl | omega | (congr 3; omega) | (congr 2; omega))
    ·rintro ⟨⟨k, j, nt⟩, g1, g2, g3⟩
     simp only at g1 g2 g3 ⊢
     by_cases hk : k < 4
     ·have c2 := one_ok s (wd1.extract k (k + 1)) j g2 hs
      have hkx : ((k : Int) + 1).toNat = k + 1 := by omega
      rw [show 4 - k = (4 - (k + 1)) + 1 by omega, litF] at g3
      simp (implicitDefEqProofs := false) (disch := omega) only [go_sem, simprocAttr, dropH, inL, List.getD_cons_zero, List.getD_cons_succ, List.length_singleton, x1, x2, x3, szw1, szw2, szw3, hkx]
      refine CallOk.ofI (c2.at (st := ⟨[], _, _, _, _⟩) 0 rfl rfl (by simp) (by rfl)) rfl rfl rfl rfl ?_
      rintro r st' ⟨rfl, nt1, q1, rfl⟩
      simp only at q1
      cases hh2 : hasF s (wd1.extract k (k + 1)) j with
      | true =>
       have hl2 := hasF_lt hh2
       rw [if_pos hh2] at g3
       simp (implicitDefEqProofs := false) (disch := omega) only [go_sem, simprocAttr, dropH, inL, List.getD_cons_zero, List.getD_cons_succ, List.length_singleton, x1, x2, x3, szw1, szw2, szw3, hh2]
       refine ⟨⟨(k + 1, j + 1, nt), hk, hl2, g3⟩, by simp only; omega, ?_⟩
       constructor <;> simp only [go_sem, simprocAttr, decide_eq_true_eq, Int.natCast_add, Int.natCast_one] <;> try ((repeat' apply And.intro) <;> first | rfl | omega | (congr 3; omega) | (congr 2; omega))
      | false =>
       rw [if_neg (by rw [hh2]; decide)] at g3
       rw [<- g3]
       simp (implicitDefEqProofs := false) (disch := omega) only [go_sem, simprocAttr, dropH, inL, List.getD_cons_zero, List.getD_cons_succ, List.length_singleton, x1, x2, x3, szw1, szw2, szw3, hh2]
       refine ⟨⟨[], [(0, .box 94 [vS s, vI j]), (1, .box 67 (tkC 0 ByteArray.empty 0 a 0))], [], 2, 0⟩, ⟨rfl, rfl, rfl, rfl⟩, ?_⟩
       constructor <;> simp only [go_sem, simprocAttr, decide_eq_true_eq, Int.natCast_add, Int.natCast_one] <;> try ((repeat' apply And.intro) <;> first | rfl | omega | (congr 3; omega) | (congr 2; omega))
     ·have hk4 : k = 4 := by omega
      subst hk4
      rw [show 4 - 4 = 0 from rfl, litF] at g3
      rw [<- g3]
      simp (implicitDefEqProofs := false) (disch := omega) only [go_sem, simprocAttr, dropH, inL, List.getD_cons_zero, List.getD_cons_succ, List.length_singleton, x1, x2, x3, szw1, szw2, szw3]
      refine ⟨⟨[], [(0, .box 94 [vS s, vI j]), (1, .box 67 (tkC 4 ByteArray.empty 0 a 0))], [], 2, 0⟩, ⟨rfl, rfl, rfl, rfl⟩, ?_⟩
      constructor <;> simp only [go_sem, simprocAttr, decide_eq_true_eq, Int.natCast_add, Int.natCast_one] <;> try ((repeat' apply And.intro) <;> first | rfl | omega | (congr 3; omega) | (congr 2; omega))
  ·have c := has_ok s ⟨#[102]⟩ i hi hs
   simp (implicitDefEqProofs := false) (disch := omega) only [go_sem, simprocAttr, dropH, inL, List.getD_cons_zero, List.getD_cons_succ, List.length_singleton, x1, x2, x3, szw1, szw2, szw3]
   refine CallOk.ofI (c.at (st := ⟨[], _, _, _, _⟩) 0 rfl rfl (by simp) (by rfl)) rfl rfl rfl rfl ?_
   rintro r st' ⟨rfl, nt1, q1, rfl⟩
   simp only at q1
   cases hh : hasF s ⟨#[102]⟩ i with
   | false =>
    simp (implicitDefEqProofs := false) (disch := omega) only [go_sem, simprocAttr, dropH, inL, List.getD_cons_zero, List.getD_cons_succ, List.length_singleton, x1, x2, x3, szw1, szw2, szw3, hh]
    refine ⟨⟨(2, nt), by simp, fun _ => h1 (by decide), fun _ => rfl, fun h => by simp at h⟩, by simp, ?_⟩
    constructor <;> simp only [go_sem, simprocAttr, decide_eq_true_eq] <;> try ((repeat' apply And.intro) <;> first | rfl | omega | (congr 3; omega) | (congr 2; omega))
   | true =>
    have hE : wordF s i = (if (litF s wd2 5 0 i).1 = true then (0, 5, (litF s wd2 5 0 i).2) else (1, 0, (litF s wd2 5 0 i).2)) := by unfold wordF; rw [if_neg (by rw [h1 (by decide)]; decide), if_pos hh]
    rw [hE]
    simp (implicitDefEqProofs := false) (disch := omega) only [go_sem, simprocAttr, dropH, inL, List.getD_cons_zero, List.getD_cons_succ, List.length_singleton, x1, x2, x3, szw1, szw2, szw3, hh]
    refine p_loop (ι := { p : Nat × Nat × Nat // p.1 <= 5 /\ p.2.1 <= s.size /\ litF s wd2 (5 - p.1) p.1 p.2.1 = litF s wd2 5 0 i }) (fun p => ⟨[(22, vI p.1.1), (21, vI 5), (6, vS wd2), (5, vI 1), (0, .ptr 0 0), (1, .ptr 1 0)], [(0, .box 94 [vS s, vI p.1.2.1]), (1, .box 67 (tkC 0 ByteArray.empty 0 a 0))], [], 2, p.1.2.2⟩) (fun p => 5 - p.1.1) ⟨(0, i, nt), Nat.zero_le _, hi, rfl⟩ ?_ ?_
    ·constructor <;> simp only [go_sem, simprocAttr, decide_eq_true_eq, Int.natCast_zero] <;> try ((repeat' apply And.intro) <;> first | rfl | omega | (congr 3; omega) | (congr 2; omega))
    ·rintro ⟨⟨k, j, nt⟩, g1, g2, g3⟩
     simp only at g1 g2 g3 ⊢
     by_cases hk : k < 5
     ·have c2 := one_ok s (wd2.extract k (k + 1)) j g2 hs
      have hkx : ((k : Int) + 1).toNat = k + 1 := by omega
      rw [show 5 - k = (5 - (k + 1)) + 1 by omega, litF] at g3
      simp (implicitDefEqProofs := false) (disch := omega) only [go_sem, simprocAttr, dropH, inL, List.getD_cons_zero, List.getD_cons_succ, List.length_singleton, x1, x2, x3, szw1, szw2, szw3, hkx]
      refine CallOk.ofI (c2.at (st := ⟨[], _, _, _, _⟩) 0 rfl rfl (by simp) (by rfl)) rfl rfl rfl rfl ?_
      rintro r st' ⟨rfl, nt1, q1, rfl⟩
      simp only at q1
      cases hh2 : hasF s (wd2.extract k (k + 1)) j with
      | true =>
       have hl2 := hasF_lt hh2
       rw [if_pos hh2] at g3
       simp (implicitDefEqProofs := false) (disch := omega) only [go_sem, simprocAttr, dropH, inL, List.getD_cons_zero, List.getD_cons_succ, List.length_singleton, x1, x2, x3, szw1, szw2, szw3, hh2]
       refine ⟨⟨(k + 1, j + 1, nt), hk, hl2, g3⟩, by simp only; omega, ?_⟩
       constructor <;> simp only [go_sem, simprocAttr, decide_eq_true_eq, Int.natCast_add, Int.natCast_one] <;> try ((repeat' apply And.intro) <;> first | rfl | omega | (congr 3; omega) | (congr 2; omega))
      | false =>
       rw [if_neg (by rw [hh2]; decide)] at g3
       rw [<- g3]
       simp (implicitDefEqProofs := false) (disch := omega) only [go_sem, simprocAttr, dropH, inL, List.getD_cons_zero, List.getD_cons_succ, List.length_singleton, x1, x2, x3, szw1, szw2, szw3, hh2]
       refine ⟨⟨[], [(0, .box 94 [vS s, vI j]), (1, .box 67 (tkC 0 ByteArray.empty 0 a 0))], [], 2, 0⟩, ⟨rfl, rfl, rfl, rfl⟩, ?_⟩
       constructor <;> simp only [go_sem, simprocAttr, decide_eq_true_eq, Int.natCast_add, Int.natCast_one] <;> try ((repeat' apply And.intro) <;> first | rfl | omega | (congr 3; omega) | (congr 2; omega))
     ·have hk4 : k = 5 := by omega
      subst hk4
      rw [show 5 - 5 = 0 from rfl, litF] at g3
      rw [<- g3]
      simp (implicitDefEqProofs := false) (disch := omega) only [go_sem, simprocAttr, dropH, inL, List.getD_cons_zero, List.getD_cons_succ, List.length_singleton, x1, x2, x3, szw1, szw2, szw3]
      refine ⟨⟨[], [(0, .box 94 [vS s, vI j]), (1, .box 67 (tkC 5 ByteArray.empty 0 a 0))], [], 2, 0⟩, ⟨rfl, rfl, rfl, rfl⟩, ?_⟩
      constructor <;> simp only [go_sem, simprocAttr, decide_eq_true_eq, Int.natCast_add, Int.natCast_one] <;> try ((repeat' apply And.intro) <;> first | rfl | omega | (congr 3; omega) | (congr 2; omega))
  ·have c := has_ok s ⟨#[110]⟩ i hi hs
   simp (implicitDefEqProofs := false) (disch := omega) only [go_sem, simprocAttr, dropH, inL, List.getD_cons_zero, List.getD_cons_succ, List.length_singleton, x1, x2, x3, szw1, szw2, szw3]
   refine CallOk.ofI (c.at (st := ⟨[], _, _, _, _⟩) 0 rfl rfl (by simp) (by rfl)) rfl rfl rfl rfl ?_
   rintro r st' ⟨rfl, nt1, q1, rfl⟩
   simp only at q1
   cases hh : hasF s ⟨#[110]⟩ i with
   | false =>
    simp (implicitDefEqProofs := false) (disch := omega) only [go_sem, simprocAttr, dropH, inL, List.getD_cons_zero, List.getD_cons_succ, List.length_singleton, x1, x2, x3, szw1, szw2, szw3, hh]
    refine ⟨⟨(3, nt), by simp, fun _ => h1 (by decide), fun _ => h2 (by decide), fun _ => rfl⟩, by simp, ?_⟩
    constructor <;> simp only [go_sem, simprocAttr, decide_eq_true_eq] <;> try ((repeat' apply And.intro) <;> first | rfl | omega | (congr 3; omega) | (congr 2; omega))
   | true =>
    have hE : wordF s i = (if (litF s wd3 4 0 i).1 = true then (0, 6, (litF s wd3 4 0 i).2) else (1, 0, (litF s wd3 4 0 i).2)) := by unfold wordF; rw [if_neg (by rw [h1 (by decide)]; decide), if_neg (by rw [h2 (by decide)]; decide), if_pos hh]
    rw [hE]
    simp (implicitDefEqProofs := false) (disch := omega) only [go_sem, simprocAttr, dropH, inL, List.getD_cons_zero, List.getD_cons_succ, List.length_singleton, x1, x2, x3, szw1, szw2, szw3, hh]
    refine p_loop (ι := { p : Nat × Nat × Nat // p.1 <= 4 /\ p.2.1 <= s.size /\ litF s wd3 (4 - p.1) p.1 p.2.1 = litF s wd3 4 0 i }) (fun p => ⟨[(22, vI p.1.1), (21, vI 4), (6, vS wd3), (5, vI 2), (0, .ptr 0 0), (1, .ptr 1 0)], [(0, .box 94 [vS s, vI p.1.2.1]), (1, .box 67 (tkC 0 ByteArray.empty 0 a 0))], [], 2, p.1.2.2⟩) (fun p => 4 - p.1.1) ⟨(0, i, nt), Nat.zero_le _, hi, rfl⟩ ?_ ?_
    ·constructor <;> simp only [go_sem, simprocAttr, decide_eq_true_eq, Int.natCast_zero] <;> try ((repeat' apply And.intro) <;> first | rfl | omega | (congr 3; omega) | (congr 2; omega))
    ·rintro ⟨⟨k, j, nt⟩, g1, g2, g3⟩
     simp only at g1 g2 g3 ⊢
     by_cases hk : k < 4
     ·have c2 := one_ok s (wd3.extract k (k + 1)) j g2 hs
      have hkx : ((k : Int) + 1).toNat = k + 1 := by omega
      rw [show 4 - k = (4 - (k + 1)) + 1 by omega, litF] at g3
      simp (implicitDefEqProofs := false) (disch := omega) only [go_sem, simprocAttr, dropH, inL, List.getD_cons_zero, List.getD_cons_succ, List.length_singleton, x1, x2, x3, szw1, szw2, szw3, hkx]
      refine CallOk.ofI (c2.at (st := ⟨[], _, _, _, _⟩) 0 rfl rfl (by simp) (by rfl)) rfl rfl rfl rfl ?_
      rintro r st' ⟨rfl, nt1, q1, rfl⟩
      simp only at q1
      cases hh2 : hasF s (wd3.extract k (k + 1)) j with
      | true =>
       have hl2 := hasF_lt hh2
       rw [if_pos hh2] at g3
       simp (implicitDefEqProofs := false) (disch := omega) only [go_sem, simprocAttr, dropH, inL, List.getD_cons_zero, List.getD_cons_succ, List.length_singleton, x1, x2, x3, szw1, szw2, szw3, hh2]
       refine ⟨⟨(k + 1, j + 1, nt), hk, hl2, g3⟩, by simp only; omega, ?_⟩
       constructor <;> simp only [go_sem, simprocAttr, decide_eq_true_eq, Int.natCast_add, Int.natCast_one] <;> try ((repeat' apply And.intro) <;> first | rfl | omega | (congr 3; omega) | (congr 2; omega))
      | false =>
       rw [if_neg (by rw [hh2]; decide)] at g3
       rw [<- g3]
       simp (implicitDefEqProofs := false) (disch := omega) only [go_sem, simprocAttr, dropH, inL, List.getD_cons_zero, List.getD_cons_succ, List.length_singleton, x1, x2, x3, szw1, szw2, szw3, hh2]
       refine ⟨⟨[], [(0, .box 94 [vS s, vI j]), (1, .box 67 (tkC 0 ByteArray.empty 0 a 0))], [], 2, 0⟩, ⟨rfl, rfl, rfl, rfl⟩, ?_⟩
       constructor <;> simp only [go_sem, simprocAttr, decide_eq_true_eq, Int.natCast_add, Int.natCast_one] <;> try ((repeat' apply And.intro) <;> first | rfl | omega | (congr 3; omega) | (congr 2; omega))
     ·have hk4 : k = 4 := by omega
      subst hk4
      rw [show 4 - 4 = 0 from rfl, litF] at g3
      rw [<- g3]
      simp (implicitDefEqProofs := false) (disch := omega) only [go_sem, simprocAttr, dropH, inL, List.getD_cons_zero, List.getD_cons_succ, List.length_singleton, x1, x2, x3, szw1, szw2, szw3]
      refine ⟨⟨[], [(0, .box 94 [vS s, vI j]), (1, .box 67 (tkC 6 ByteArray.empty 0 a 0))], [], 2, 0⟩, ⟨rfl, rfl, rfl, rfl⟩, ?_⟩
      constructor <;> simp only [go_sem, simprocAttr, decide_eq_true_eq, Int.natCast_add, Int.natCast_one] <;> try ((repeat' apply And.intro) <;> first | rfl | omega | (congr 3; omega) | (congr 2; omega))
  ·have hE : wordF s i = (1, 0, i) := by unfold wordF; rw [if_neg (by rw [h1 (by decide)]; decide), if_neg (by rw [h2 (by decide)]; decide), if_neg (by rw [h3 (by decide)]; decide)]
   rw [hE]
   simp (implicitDefEqProofs := false) (disch := omega) only [go_sem, simprocAttr, dropH, inL, List.getD_cons_zero, List.getD_cons_succ, List.length_singleton, x1, x2, x3, szw1, szw2, szw3]
   refine ⟨⟨[], [(0, .box 94 [vS s, vI i]), (1, .box 67 (tkC 0 ByteArray.empty 0 a 0))], [], 2, 0⟩, ⟨rfl, rfl, rfl, rfl⟩, ?_⟩
   constructor <;> simp only [go_sem, simprocAttr, decide_eq_true_eq] <;> try ((repeat' apply And.intro) <;> first | rfl | omega | (congr 3; omega) | (congr 2; omega))
end Go.Proofs.YtcgmpcbkndpmbaaGreatDoor

end
section
open Go Go.Proofs Go.Pw
namespace Go.Proofs.YtcgmpcbkndpmbaaGreatDoor
set_option maxRecDepth 4000
set_option linter.unusedVariables false
set_option linter.unusedSimpArgs false
attribute [local go_sem] Int.toNat_natCast Int.toNat_one Int.toNat_zero Nat.le_refl Tryz.results57
theorem allD_step {t : ByteArray} {k i : Nat} : (∀ j, j < i -> k <= j -> isD (bt t j)) -> isD (bt t i) -> ∀ j, j < i + 1 -> k <= j -> isD (bt t j) := fun h d j hj hk => by
 by_cases e : j = i
 ·subst e; exact d
 ·exact h j (by omega) hk
theorem form_bad {s : ByteArray} {i : Nat} (hi : i < s.size) (hk : fromF s <= i) (h : ¬ isD (bt s i)) : decide (formP s) = false := decide_eq_false (fun k => h (k.2.2 i hi hk))
set_option maxHeartbeats 4000000 in
theorem rform_ok (s : ByteArray) (hs : s.size <= 1000000) : Ok Tryz.prog 57 [vS s] (vB (decide (formP s))) := by
 have b0 := bt_rng s 0
 have b1 := bt_rng s 1
 refine Ok.of_pwp (by kernel_rfl) Tryz.func57 rfl (by kernel_rfl) (by kernel_rfl) ?_
 by_cases h0 : s.size = 0
 ·have e : decide (formP s) = false := decide_eq_false (fun h => by have := h.1; omega)
  rw [e]
  have h0' : (s.size : Int) = 0 := by omega
  simp (implicitDefEqProofs := false) (disch := omega) only [go_sem, simprocAttr]
 have h0' : ¬ (s.size : Int) = 0 := by omega
 by_cases hb0 : bt s 0 = 45
 ·have hf : fromF s = 1 := by unfold fromF; rw [if_pos ⟨by omega, hb0⟩]
  by_cases h1 : s.size = 1
  ·have e : decide (formP s) = false := decide_eq_false (fun h => by have := h.1; omega)
   rw [e]
   have h1' : (s.size : Int) = 1 := by omega
   simp (implicitDefEqProofs := false) (disch := omega) only [go_sem, simprocAttr, hb0]
  have h1' : ¬ (s.size : Int) = 1 := by omega
  by_cases hz : bt s (1 : Nat) = 48 /\ 1 + 1 < s.size
  ·have e : decide (formP s) = false := decide_eq_false (fun h => by have := h.2.1; rw [hf] at this; exact this hz)
   rw [e]
   have hz1 : bt s 1 = 48 := hz.1
   simp (implicitDefEqProofs := false) (disch := omega) only [go_sem, simprocAttr, hb0, hz1]
  ·have hz' : ¬ (bt s 1 = 48 /\ 1 + 1 < s.size) := hz
   by_cases hz1 : bt s 1 = 48
   ·simp (implicitDefEqProofs := false) (disch := omega) only [go_sem, simprocAttr, hb0, hz1]
    refine p_loop (ι := { i : Nat // 1 <= i /\ i <= s.size /\ ∀ j, j < i -> 1 <= j -> isD (bt s j) }) (fun i => ⟨[(4, vI i.1), (3, vI 1), (0, vS s)], [], [], 0, 0⟩) (fun i => s.size - i.1) ⟨1, Nat.le_refl _, by omega, fun j h1 h2 => by omega⟩ ?_ ?_
    ·constructor <;> simp only [go_sem, simprocAttr, decide_eq_true_eq, Int.natCast_zero, Int.natCast_one] <;> try ((repeat' apply And.intro) <;> first | rfl | omega | (congr 3; omega) | (congr 2; omega))
    ·rintro ⟨i, g1, g2, g3⟩
     simp only
     by_cases hi : i < s.size
     ·have hbr := bt_rng s i
      by_cases hd : isD (bt s i)
      ·have hd' := hd
       unfold isD at hd'
       simp (implicitDefEqProofs := false) (disch := omega) only [go_sem, simprocAttr]
       refine ⟨⟨i + 1, by omega, hi, allD_step g3 hd⟩, by simp only; omega, ?_⟩
       constructor <;> simp only [go_sem, simprocAttr, decide_eq_true_eq, Int.natCast_add, Int.natCast_one] <;> try ((repeat' apply And.intro) <;> first | rfl | omega | (congr 3; omega) | (congr 2; omega))
      ·have e := form_bad hi (by rw [hf]; exact g1) hd
       unfold isD at hd
       rw [e]
       by_cases hl : bt s i < 48
       ·simp (implicitDefEqProofs := false) (disch := omega) only [go_sem, simprocAttr]
       ·have hl2 : 57 < bt s i := by omega
        simp (implicitDefEqProofs := false) (disch := omega) only [go_sem, simprocAttr]
     ·have hi' : i = s.size := by omega
      subst hi'
      have e : decide (formP s) = true := decide_eq_true ⟨by rw [hf]; omega, by rw [hf]; exact hz, by rw [hf]; exact fun j h1 h2 => g3 j h1 h2⟩
      rw [e]
      simp (implicitDefEqProofs := false) (disch := omega) only [go_sem, simprocAttr]
   ·simp (implicitDefEqProofs := false) (disch := omega) only [go_sem, simprocAttr, hb0, hz1]
    refine p_loop (ι := { i : Nat // 1 <= i /\ i <= s.size /\ ∀ j, j < i -> 1 <= j -> isD (bt s j) }) (fun i => ⟨[(4, vI i.1), (3, vI 1), (0, vS s)], [], [], 0, 0⟩) (fun i => s.size - i.1) ⟨1, Nat.le_refl _, by omega, fun j h1 h2 => by omega⟩ ?_ ?_
    ·constructor <;> simp only [go_sem, simprocAttr, decide_eq_true_eq, Int.natCast_zero, Int.natCast_one] <;> try ((repeat' apply And.intro) <;> first | rfl | omega | (congr 3; omega) | (congr 2; omega))
    ·rintro ⟨i, g1, g2, g3⟩
     simp only
     by_cases hi : i < s.size
     ·have hbr := bt_rng s i
      by_cases hd : isD (bt s i)
      ·have hd' := hd
       unfold isD at hd'
       simp (implicitDefEqProofs := false) (disch := omega) only [go_sem, simprocAttr]
       refine ⟨⟨i + 1, by omega, hi, allD_step g3 hd⟩, by simp only; omega, ?_⟩
       constructor <;> simp only [go_sem, simprocAttr, decide_eq_true_eq, Int.natCast_add, Int.natCast_one] <;> try ((repeat' apply And.intro) <;> first | rfl | omega | (congr 3; omega) | (congr 2; omega))
      ·have e := form_bad hi (by rw [hf]; exact g1) hd
       unfold isD at hd
       rw [e]
       by_cases hl : bt s i < 48
       ·simp (implicitDefEqProofs := false) (disch := omega) only [go_sem, simprocAttr]
       ·have hl2 : 57 < bt s i := by omega
        simp (implicitDefEqProofs := false) (disch := omega) only [go_sem, simprocAttr]
     ·have hi' : i = s.size := by omega
      subst hi'
      have e : decide (formP s) = true := decide_eq_true ⟨by rw [hf]; omega, by rw [hf]; exact hz, by rw [hf]; exact fun j h1 h2 => g3 j h1 h2⟩
      rw [e]
      simp (implicitDefEqProofs := false) (disch := omega) only [go_sem, simprocAttr]
 ·have hf : fromF s = 0 := by unfold fromF; rw [if_neg (fun h => hb0 h.2)]
  by_cases hz : bt s (0 : Nat) = 48 /\ 0 + 1 < s.size
  ·have e : decide (formP s) = false := decide_eq_false (fun h => by have := h.2.1; rw [hf] at this; exact this hz)
   rw [e]
   have hz1 : bt s 0 = 48 := hz.1
   simp (implicitDefEqProofs := false) (disch := omega) only [go_sem, simprocAttr, hb0, hz1]
  ·have hz' : ¬ (bt s 0 = 48 /\ 0 + 1 < s.size) := hz
   by_cases hz1 : bt s 0 = 48
   ·simp (implicitDefEqProofs := false) (disch := omega) only [go_sem, simprocAttr, hb0, hz1]
    refine p_loop (ι := { i : Nat // 0 <= i /\ i <= s.size /\ ∀ j, j < i -> 0 <= j -> isD (bt s j) }) (fun i => ⟨[(4, vI i.1), (3, vI 0), (0, vS s)], [], [], 0, 0⟩) (fun i => s.size - i.1) ⟨0, Nat.le_refl _, by omega, fun j h1 h2 => by omega⟩ ?_ ?_
    ·constructor <;> simp only [go_sem, simprocAttr, decide_eq_true_eq, Int.natCast_zero, Int.natCast_one] <;> try ((repeat' apply And.intro) <;> first | rfl | omega | (congr 3; omega) | (congr 2; omega))
    ·rintro ⟨i, g1, g2, g3⟩
     simp only
     by_cases hi : i < s.size
     ·have hbr := bt_rng s i
      by_cases hd : isD (bt s i)
      ·have hd' := hd
       unfold isD at hd'
       simp (implicitDefEqProofs := false) (disch := omega) only [go_sem, simprocAttr]
       refine ⟨⟨i + 1, by omega, hi, allD_step g3 hd⟩, by simp only; omega, ?_⟩
       constructor <;> simp only [go_sem, simprocAttr, decide_eq_true_eq, Int.natCast_add, Int.natCast_one] <;> try ((repeat' apply And.intro) <;> first | rfl | omega | (congr 3; omega) | (congr 2; omega))
      ·have e := form_bad hi (by rw [hf]; exact g1) hd
       unfold isD at hd
       rw [e]
       by_cases hl : bt s i < 48
       ·simp (implicitDefEqProofs := false) (disch := omega) only [go_sem, simprocAttr]
       ·have hl2 : 57 < bt s i := by omega
        simp (implicitDefEqProofs := false) (disch := omega) only [go_sem, simprocAttr]
     ·have hi' : i = s.size := by omega
      subst hi'
      have e : decide (formP s) = true := decide_eq_true ⟨by rw [hf]; omega, by rw [hf]; exact hz, by rw [hf]; exact fun j h1 h2 => g3 j h1 h2⟩
      rw [e]
      simp (implicitDefEqProofs := false) (disch := omega) only [go_sem, simprocAttr]
   ·simp (implicitDefEqProofs := false) (disch := omega) only [go_sem, simprocAttr, hb0, hz1]
    refine p_loop (ι := { i : Nat // 0 <= i /\ i <= s.size /\ ∀ j, j < i -> 0 <= j -> isD (bt s j) }) (fun i => ⟨[(4, vI i.1), (3, vI 0), (0, vS s)], [], [], 0, 0⟩) (fun i => s.size - i.1) ⟨0, Nat.le_refl _, by omega, fun j h1 h2 => by omega⟩ ?_ ?_
    ·constructor <;> simp only [go_sem, simprocAttr, decide_eq_true_eq, Int.natCast_zero, Int.natCast_one] <;> try ((repeat' apply And.intro) <;> first | rfl | omega | (congr 3; omega) | (congr 2; omega))
    ·rintro ⟨i, g1, g2, g3⟩
     simp only
     by_cases hi : i < s.size
     ·have hbr := bt_rng s i
      by_cases hd : isD (bt s i)
      ·have hd' := hd
       unfold isD at hd'
       simp (implicitDefEqProofs := false) (disch := omega) only [go_sem, simprocAttr]
       refine ⟨⟨i + 1, by omega, hi, allD_step g3 hd⟩, by simp only; omega, ?_⟩
       constructor <;> simp only [go_sem, simprocAttr, decide_eq_true_eq, Int.natCast_add, Int.natCast_one] <;> try ((repeat' apply And.intro) <;> first | rfl | omega | (congr 3; omega) | (congr 2; omega))
      ·have e := form_bad hi (by rw [hf]; exact g1) hd
       unfold isD at hd
       rw [e]
       by_cases hl : bt s i < 48
       ·simp (implicitDefEqProofs := false) (disch := omega) only [go_sem, simprocAttr]
       ·have hl2 : 57 < bt s i := by omega
        simp (implicitDefEqProofs := false) (disch := omega) only [go_sem, simprocAttr]
     ·have hi' : i = s.size := by omega
      subst hi'
      have e : decide (formP s) = true := decide_eq_true ⟨by rw [hf]; omega, by rw [hf]; exact hz, by rw [hf]; exact fun j h1 h2 => g3 j h1 h2⟩
      rw [e]
      simp (implicitDefEqProofs := false) (disch := omega) only [go_sem, simprocAttr]
end Go.Proofs.YtcgmpcbkndpmbaaGreatDoor

end
section
open Go Go.Proofs Go.Pw
namespace Go.Proofs.YtcgmpcbkndpmbaaGreatDoor
set_option maxRecDepth 4000
set_option linter.unusedVariables false
set_option linter.unusedSimpArgs false
attribute [local go_sem] Int.toNat_natCast Int.toNat_one Int.toNat_zero Nat.le_refl Tryz.results38 Tryz.results59
abbrev nz (z : Int) : PV := .agg [vB false, .sl (encI (figs z.natAbs))]
theorem repN_nn {z : Int} (h : 0 <= z) : repN z = nz z := by unfold repN; rw [decide_eq_false (by omega)]
theorem fg1 {z : Int} (h : z.natAbs < 10000) : Fg 1 z := by unfold Fg; simpa using h
set_option maxHeartbeats 4000000 in
theorem number_ok (t : ByteArray) (h : allD t 0) (ht : t.size <= 8000) : Ok Tryz.prog 59 [vS t] (repN (numV t t.size)) := by
 have c1 : Ok Tryz.prog 26 [vI 10] (nz 10) := by rw [<- repN_nn (by decide)]; exact of_rep 10 (by decide)
 rw [repN_nn (numV_nn h (Nat.le_refl _))]
 refine Ok.of_pwp (by kernel_rfl) Tryz.func59 rfl (by kernel_rfl) (by kernel_rfl) ?_
 simp (implicitDefEqProofs := false) (disch := omega) only [go_sem, simprocAttr]
 refine p_loop (ι := { i : Nat // i <= t.size }) (fun i => ⟨[(4, vI i.1), (3, .ptr 2 0), (2, .ptr 0 0), (0, vS t)], [(2, .box 62 [vB false, .sl (encI (figs (numV t i.1).natAbs))]), (0, .box 62 [vB false, vNil])], [], 3, 0⟩) (fun i => t.size - i.1) ⟨0, Nat.zero_le _⟩ ?_ ?_
 ·constructor <;> simp only [go_sem, simprocAttr, decide_eq_true_eq, Int.natCast_zero, numV, Int.natAbs_zero, figs_zero, encI_nil] <;> try ((repeat' apply And.intro) <;> first | rfl | omega | (congr 3; omega) | (congr 2; omega))
 ·rintro ⟨i, hi⟩
  simp only
  by_cases hl : i < t.size
  ·have d := h i hl (Nat.zero_le _)
   unfold isD at d
   have nn := numV_nn h hi
   have fg := numV_fg h hi
   have nn1 := numV_nn h (i := i + 1) (by omega)
   have ew : IntKind.u8.wrap (bt t i - 48) = bt t i - 48 := by rw [IntKind.wrap_u8]; omega
   have ew2 : IntKind.i64.wrap (bt t i - 48) = bt t i - 48 := by rw [IntKind.wrap_i64]; omega
   have c2 := mul_rep (j := i) (k := 1) (numV t i) 10 fg (fg1 (by decide)) (by omega)
   rw [repN_nn nn, repN_nn (show (0 : Int) <= 10 by decide), repN_nn (by omega)] at c2
   have c3 := of_rep (bt t i - 48) (by unfold fits; omega)
   rw [repN_nn (by omega)] at c3
   have c4 := add_rep (numV t i * 10) (bt t i - 48) ((fg.mul (fg1 (z := 10) (by decide))).sm (by omega)) ((fg1 (by omega)).sm (by decide))
   rw [repN_nn (by omega), repN_nn (by omega), repN_nn (by rw [numV] at nn1; exact nn1)] at c4
   simp (implicitDefEqProofs := false) (disch := omega) only [go_sem, simprocAttr, ew, ew2]
   with_reducible refine CallOk.of c1 rfl ?_
   simp (implicitDefEqProofs := false) (disch := omega) only [go_sem, simprocAttr, ew, ew2]
   with_reducible refine CallOk.of c2 rfl ?_
   simp (implicitDefEqProofs := false) (disch := omega) only [go_sem, simprocAttr, ew, ew2]
   with_reducible refine CallOk.of c3 rfl ?_
   simp (implicitDefEqProofs := false) (disch := omega) only [go_sem, simprocAttr, ew, ew2]
   with_reducible refine CallOk.of c4 rfl ?_
   simp (implicitDefEqProofs := false) (disch := omega) only [go_sem, simprocAttr, ew, ew2]
   refine ⟨⟨i + 1, hl⟩, by simp only; omega, ?_⟩
   simp only [numV]
   constructor <;> simp only [go_sem, simprocAttr, decide_eq_true_eq, Int.natCast_add, Int.natCast_one] <;> try ((repeat' apply And.intro) <;> first | rfl | omega | (congr 3; omega) | (congr 2; omega))
  ·have hi' : i = t.size := by omega
   subst hi'
   simp (implicitDefEqProofs := false) (disch := omega) only [go_sem, simprocAttr]
def pC (s : ByteArray) : Int := if formP s then (if fits (zOf s) then 0 else 4) else 1
def pV (s : ByteArray) : Int := if pC s = 0 then zOf s else 0
theorem pC_0 {s : ByteArray} (h : formP s) (k : fits (zOf s)) : pC s = 0 := by rw [pC, if_pos h, if_pos k]
theorem pC_4 {s : ByteArray} (h : formP s) (k : ¬ fits (zOf s)) : pC s = 4 := by rw [pC, if_pos h, if_neg k]
theorem pC_1 {s : ByteArray} (h : ¬ formP s) : pC s = 1 := by rw [pC, if_neg h]
theorem pV_0 {s : ByteArray} (h : pC s = 0) : pV s = zOf s := by rw [pV, if_pos h]
theorem pV_n {s : ByteArray} (h : pC s ≠ 0) : pV s = 0 := by rw [pV, if_neg h]
theorem repN_zero : repN 0 = .agg [vB false, .sl []] := by unfold repN; rw [Int.natAbs_zero, figs_zero]; rfl
set_option maxHeartbeats 4000000 in
theorem rparse_ok (s : ByteArray) (hs : s.size <= 8000) : Ok Tryz.prog 38 [vS s] (.tup [repN (pV s), vI (pC s)]) := by
 have c0 := rform_ok s (by omega)
 refine Ok.of_pwp (by kernel_rfl) Tryz.func38 rfl (by kernel_rfl) (by kernel_rfl) ?_
 by_cases hf : formP s
 ·have h0 : fromF s < s.size := hf.1
  have c1 := number_ok (digS s) (digS_all hf) (by rw [digS_size hf]; omega)
  have fg := numV_fg (digS_all hf) (Nat.le_refl _)
  have hz := digS_size hf
  rw [decide_eq_true hf] at c0
  simp (implicitDefEqProofs := false) (disch := omega) only [go_sem, simprocAttr]
  with_reducible refine CallOk.of c0 rfl ?_
  by_cases hb0 : bt s 0 = 45
  ·have e1 : digS s = s.extract 1 s.size := by unfold digS; rw [if_pos hb0]
   have e2 : zOf s = -(numV (digS s) (digS s).size) := by unfold zOf; rw [if_pos hb0]
   have c2 := neg_rep (numV (digS s) (digS s).size) (fg.sm (by omega))
   have c3 := fits_rep (zOf s) (by rw [e2]; exact fg.neg.sm (by omega))
   rw [<- e2] at c2
   rw [e1] at c1
   rw [e1] at c2
   unfold repN at c1 c2 c3
   simp (implicitDefEqProofs := false) (disch := omega) only [go_sem, simprocAttr, hb0]
   with_reducible refine CallOk.of c1 rfl ?_
   simp (implicitDefEqProofs := false) (disch := omega) only [go_sem, simprocAttr, hb0]
   with_reducible refine CallOk.of c2 rfl ?_
   simp (implicitDefEqProofs := false) (disch := omega) only [go_sem, simprocAttr, hb0]
   with_reducible refine CallOk.of c3 rfl ?_
   by_cases hk : fits (zOf s)
   ·rw [pV_0 (pC_0 hf hk), pC_0 hf hk, decide_eq_true hk]
    simp (implicitDefEqProofs := false) (disch := omega) only [go_sem, simprocAttr, hb0]
    rfl
   ·rw [pV_n (by rw [pC_4 hf hk]; decide), pC_4 hf hk, decide_eq_false hk, repN_zero]
    simp (implicitDefEqProofs := false) (disch := omega) only [go_sem, simprocAttr, hb0]
  ·have e1 : digS s = s := by unfold digS; rw [if_neg hb0]
   have e2 : zOf s = numV (digS s) (digS s).size := by unfold zOf; rw [if_neg hb0]
   have c3 := fits_rep (zOf s) (by rw [e2]; exact fg.sm (by omega))
   rw [<- e2, e1] at c1
   unfold repN at c1 c3
   simp (implicitDefEqProofs := false) (disch := omega) only [go_sem, simprocAttr, hb0]
   with_reducible refine CallOk.of c1 rfl ?_
   simp (implicitDefEqProofs := false) (disch := omega) only [go_sem, simprocAttr, hb0]
   with_reducible refine CallOk.of c3 rfl ?_
   by_cases hk : fits (zOf s)
   ·rw [pV_0 (pC_0 hf hk), pC_0 hf hk, decide_eq_true hk]
    simp (implicitDefEqProofs := false) (disch := omega) only [go_sem, simprocAttr, hb0]
    rfl
   ·rw [pV_n (by rw [pC_4 hf hk]; decide), pC_4 hf hk, decide_eq_false hk, repN_zero]
    simp (implicitDefEqProofs := false) (disch := omega) only [go_sem, simprocAttr, hb0]
 ·rw [decide_eq_false hf] at c0
  rw [pV_n (by rw [pC_1 hf]; decide), pC_1 hf, repN_zero]
  simp (implicitDefEqProofs := false) (disch := omega) only [go_sem, simprocAttr]
  with_reducible refine CallOk.of c0 rfl ?_
  simp (implicitDefEqProofs := false) (disch := omega) only [go_sem, simprocAttr]
end Go.Proofs.YtcgmpcbkndpmbaaGreatDoor

end
section
open Go Go.Proofs Go.Pw
namespace Go.Proofs.YtcgmpcbkndpmbaaGreatDoor
set_option maxRecDepth 4000
set_option linter.unusedVariables false
set_option linter.unusedSimpArgs false
attribute [local go_sem] Int.toNat_natCast Int.toNat_one Int.toNat_zero Nat.le_refl Tryz.results109 Tryz.results93 str_eq
theorem trimDig_ok (s : ByteArray) : Ok Tryz.prog 121 [vS s, vS ⟨#[45]⟩] (vS (digS s)) := by
 have h := trimP_ok s ⟨#[45]⟩
 have e := trim_dig s
 rw [<- e]
 exact h
theorem form_dig (s : ByteArray) : formP s ↔ 0 < (digS s).size /\ ¬ (bt (digS s) 0 = 48 /\ 1 < (digS s).size) /\ allD (digS s) 0 := by
 unfold formP digS fromF
 by_cases h0 : s.size = 0
 ·rw [if_neg (by omega)]
  constructor
  ·intro h; have := h.1; omega
  ·intro h
   have := h.1
   split at this
   ·simp at this; omega
   ·omega
 ·by_cases hb : bt s 0 = 45
  ·rw [if_pos ⟨by omega, hb⟩, if_pos hb]
   have hz : (s.extract 1 s.size).size = s.size - 1 := by simp
   rw [hz]
   by_cases h1 : s.size = 1
   ·constructor
    ·intro h; have := h.1; omega
    ·intro h; have := h.1; omega
   ·have e1 : bt (s.extract 1 s.size) 0 = bt s (1 : Nat) := bt_ext s (a := 1) (b := s.size) (i := 0) (by omega)
    rw [e1]
    refine ⟨fun ⟨h1, h2, h3⟩ => ⟨by omega, fun k => h2 ⟨k.1, by omega⟩, fun j hj _ => ?_⟩, fun ⟨h1, h2, h3⟩ => ⟨by omega, fun k => h2 ⟨k.1, by omega⟩, fun j hj hk => ?_⟩⟩
    ·rw [bt_ext s (by omega)]; exact h3 (1 + j) (by omega) (by omega)
    ·have := h3 (j - 1) (by omega) (by omega)
     rw [bt_ext s (by omega), show 1 + (j - 1) = j by omega] at this
     exact this
  ·rw [if_neg (fun k => hb k.2), if_neg hb]
   exact ⟨fun ⟨h1, h2, h3⟩ => ⟨h1, fun k => h2 ⟨k.1, by omega⟩, h3⟩, fun ⟨h1, h2, h3⟩ => ⟨h1, fun k => h2 ⟨k.1, by omega⟩, h3⟩⟩
def dgB (d : ByteArray) : Bool := decide (0 < d.size /\ ¬ (bt d 0 = 48 /\ 1 < d.size) /\ allD d 0)
theorem form_dgB (s : ByteArray) : decide (formP s) = dgB (digS s) := decide_eq_decide.2 (form_dig s)
theorem digS_le (s : ByteArray) : (digS s).size <= s.size := by
 unfold digS
 split
 ·rw [ByteArray.size_extract]; omega
 ·exact Nat.le_refl _
theorem dec_lo {s : ByteArray} {i : Nat} (h : i < s.size) (hb : bt s i < 128) : Utf8.decode s i = ((bt s i).toNat, 1) := by
 have e : bt s i = ((s[i]'h).toNat : Int) := bt_list (by rw [Array.getElem?_toList]; exact Array.getElem?_eq_getElem h)
 rw [decode_ascii s i h (by omega), e]; rfl
theorem dec_hi {s : ByteArray} {i : Nat} (hb : 128 <= bt s i) : 128 <= (Utf8.decode s i).1 := by
 unfold bt at hb
 rw [Int.toNat_natCast] at hb
 rw [Lib.decode_N]
 generalize (s.data.toList.getD i 0).toNat = x at *
 unfold Lib.decodeN
 rw [if_neg (by omega)]
 repeat' split
 all_goals first | omega | (simp only; omega)
theorem form_ok (s : ByteArray) (hs : s.size <= 1000000) : Ok Tryz.prog 109 [vS s] (vB (decide (formP s))) := by
 have c0 := trimDig_ok s
 have hz : (digS s).size <= 1000000 := Nat.le_trans (digS_le s) hs
 rw [form_dgB]
 generalize digS s = d at *
 refine Ok.of_pwp (by kernel_rfl) Tryz.func109 rfl (by kernel_rfl) (by kernel_rfl) ?_
 by_cases h0 : d.size = 0
 ·have he : decide (d.data.toList = []) = true := decide_eq_true (List.eq_nil_of_length_eq_zero (by rw [Array.length_toList]; exact h0))
  have e : dgB d = false := decide_eq_false (fun h => by have := h.1; omega)
  rw [e]
  simp (implicitDefEqProofs := false) (disch := omega) only [go_sem, simprocAttr, he]
  with_reducible refine CallOk.of c0 rfl ?_
  simp (implicitDefEqProofs := false) (disch := omega) only [go_sem, simprocAttr, he]
 have he : decide (d.data.toList = []) = false := decide_eq_false (fun h => h0 (by have := congrArg List.length h; rw [Array.length_toList] at this; exact this))
 have b0 := bt_rng d 0
 by_cases hz1 : bt d 0 = 48 /\ 1 < d.size
 ·have hd0 := hz1.1
  have he2 : decide (d.data.toList = [48]) = false := decide_eq_false (fun h => by
   have := congrArg List.length h
   rw [Array.length_toList] at this
   have h1 : d.size = 1 := this
   omega)
  have e : dgB d = false := decide_eq_false (fun h => h.2.1 hz1)
  rw [e]
  simp (implicitDefEqProofs := false) (disch := omega) only [go_sem, simprocAttr, he, he2, hd0]
  with_reducible refine CallOk.of c0 rfl ?_
  simp (implicitDefEqProofs := false) (disch := omega) only [go_sem, simprocAttr, he, he2, hd0]
 by_cases hd0 : bt d 0 = 48
 ·have h1 : d.size = 1 := by omega
  have he2 : decide (d.data.toList = [48]) = true := decide_eq_true (by
   obtain ⟨c, hc⟩ : ∃ c, d.data.toList = [c] := List.length_eq_one_iff.1 (by rw [Array.length_toList]; exact h1)
   have := bt_list (s := d) (i := 0) (c := c) (by rw [hc]; rfl)
   rw [hc]
   congr 1
   apply UInt8.toNat_inj.1
   have h2 : bt d (0 : Nat) = 48 := hd0
   rw [h2] at this
   show c.toNat = 48
   omega)
  simp (implicitDefEqProofs := false) (disch := omega) only [go_sem, simprocAttr, he, he2, hd0]
  with_reducible refine CallOk.of c0 rfl ?_
  simp (implicitDefEqProofs := false) (disch := omega) only [go_sem, simprocAttr, he, he2, hd0]
  refine p_loop (ι := { i : Nat // i <= d.size /\ ∀ j, j < i -> 0 <= j -> isD (bt d j) }) (fun i => ⟨[(20, .ptr 16 0)], [(16, .iter d i.1)], [], 17, 0⟩) (fun i => d.size - i.1) ⟨0, Nat.zero_le _, fun j h1 h2 => by omega⟩ ?_ ?_
  ·constructor <;> simp only [go_sem, simprocAttr, decide_eq_true_eq] <;> try ((repeat' apply And.intro) <;> first | rfl | omega | (congr 3; omega) | (congr 2; omega))
  ·rintro ⟨i, g1, g2⟩
   simp only
   by_cases hi : i < d.size
   ·have hbr := bt_rng d i
    by_cases hd : isD (bt d i)
    ·have hd' := hd
     unfold isD at hd'
     have ed := dec_lo hi (by omega)
     simp (implicitDefEqProofs := false) (disch := omega) only [go_sem, simprocAttr, ed]
     refine ⟨⟨i + 1, hi, allD_step g2 hd⟩, by simp only; omega, ?_⟩
     constructor <;> simp only [go_sem, simprocAttr, decide_eq_true_eq] <;> try ((repeat' apply And.intro) <;> first | rfl | omega | (congr 3; omega) | (congr 2; omega))
    ·have e : dgB d = false := decide_eq_false (fun k => hd (k.2.2 i hi (Nat.zero_le _)))
     rw [e]
     unfold isD at hd
     by_cases hlo : bt d i < 128
     ·have ed := dec_lo hi hlo
      by_cases hl : bt d i < 48
      ·simp (implicitDefEqProofs := false) (disch := omega) only [go_sem, simprocAttr, ed]
      ·simp (implicitDefEqProofs := false) (disch := omega) only [go_sem, simprocAttr, ed]
     ·have ed := dec_hi (s := d) (i := i) (by omega)
      simp (implicitDefEqProofs := false) (disch := omega) only [go_sem, simprocAttr]
   ·have hi' : i = d.size := by omega
    subst hi'
    have e : dgB d = true := decide_eq_true ⟨by omega, hz1, fun j h1 h2 => g2 j h1 h2⟩
    rw [e]
    simp (implicitDefEqProofs := false) (disch := omega) only [go_sem, simprocAttr]
 ·simp (implicitDefEqProofs := false) (disch := omega) only [go_sem, simprocAttr, he]
  with_reducible refine CallOk.of c0 rfl ?_
  simp (implicitDefEqProofs := false) (disch := omega) only [go_sem, simprocAttr, he]
  refine p_loop (ι := { i : Nat // i <= d.size /\ ∀ j, j < i -> 0 <= j -> isD (bt d j) }) (fun i => ⟨[(20, .ptr 16 0)], [(16, .iter d i.1)], [], 17, 0⟩) (fun i => d.size - i.1) ⟨0, Nat.zero_le _, fun j h1 h2 => by omega⟩ ?_ ?_
  ·constructor <;> simp only [go_sem, simprocAttr, decide_eq_true_eq] <;> try ((repeat' apply And.intro) <;> first | rfl | omega | (congr 3; omega) | (congr 2; omega))
  ·rintro ⟨i, g1, g2⟩
   simp only
   by_cases hi : i < d.size
   ·have hbr := bt_rng d i
    by_cases hd : isD (bt d i)
    ·have hd' := hd
     unfold isD at hd'
     have ed := dec_lo hi (by omega)
     simp (implicitDefEqProofs := false) (disch := omega) only [go_sem, simprocAttr, ed]
     refine ⟨⟨i + 1, hi, allD_step g2 hd⟩, by simp only; omega, ?_⟩
     constructor <;> simp only [go_sem, simprocAttr, decide_eq_true_eq] <;> try ((repeat' apply And.intro) <;> first | rfl | omega | (congr 3; omega) | (congr 2; omega))
    ·have e : dgB d = false := decide_eq_false (fun k => hd (k.2.2 i hi (Nat.zero_le _)))
     rw [e]
     unfold isD at hd
     by_cases hlo : bt d i < 128
     ·have ed := dec_lo hi hlo
      by_cases hl : bt d i < 48
      ·simp (implicitDefEqProofs := false) (disch := omega) only [go_sem, simprocAttr, ed]
      ·simp (implicitDefEqProofs := false) (disch := omega) only [go_sem, simprocAttr, ed]
     ·have ed := dec_hi (s := d) (i := i) (by omega)
      simp (implicitDefEqProofs := false) (disch := omega) only [go_sem, simprocAttr]
   ·have hi' : i = d.size := by omega
    subst hi'
    have e : dgB d = true := decide_eq_true ⟨by omega, hz1, fun j h1 h2 => g2 j h1 h2⟩
    rw [e]
    simp (implicitDefEqProofs := false) (disch := omega) only [go_sem, simprocAttr]
theorem parse_ok (s : ByteArray) (hs : s.size <= 1000000) : Ok Tryz.prog 93 [vS s] (two (pV s) (pC s)) := by
 have c0 := form_ok s hs
 refine Ok.of_pwp (by kernel_rfl) Tryz.func93 rfl (by kernel_rfl) (by kernel_rfl) ?_
 by_cases hf : formP s
 ·rw [decide_eq_true hf] at c0
  simp (implicitDefEqProofs := false) (disch := omega) only [go_sem, simprocAttr]
  with_reducible refine CallOk.of c0 rfl ?_
  by_cases hk : fits (zOf s)
  ·have c1 := parseInt_yes s hs hf hk
   rw [pV_0 (pC_0 hf hk), pC_0 hf hk]
   simp (implicitDefEqProofs := false) (disch := omega) only [go_sem, simprocAttr]
   with_reducible refine CallOk.of c1 rfl ?_
   simp (implicitDefEqProofs := false) (disch := omega) only [go_sem, simprocAttr]
  ·have c1 := parseInt_no s hs hf hk
   rw [pV_n (by rw [pC_4 hf hk]; decide), pC_4 hf hk]
   simp (implicitDefEqProofs := false) (disch := omega) only [go_sem, simprocAttr]
   with_reducible refine CallOk.of c1 rfl ?_
   simp (implicitDefEqProofs := false) (disch := omega) only [go_sem, simprocAttr]
 ·rw [decide_eq_false hf] at c0
  rw [pV_n (by rw [pC_1 hf]; decide), pC_1 hf]
  simp (implicitDefEqProofs := false) (disch := omega) only [go_sem, simprocAttr]
  with_reducible refine CallOk.of c0 rfl ?_
  simp (implicitDefEqProofs := false) (disch := omega) only [go_sem, simprocAttr]
def sOf (n : Int) : ByteArray := ⟨(Lib.itoa n).toArray⟩
end Go.Proofs.YtcgmpcbkndpmbaaGreatDoor

end
section
open Go Go.Proofs Go.Pw Go.RowKit
namespace Go.Proofs.YtcgmpcbkndpmbaaGreatDoor
set_option maxRecDepth 4000
set_option linter.unusedVariables false
set_option linter.unusedSimpArgs false
attribute [local go_sem] Nat.le_refl Tryz.results72
abbrev dgS : ByteArray := ⟨#[48, 49, 50, 51, 52, 53, 54, 55, 56, 57]⟩
abbrev mnS : ByteArray := ⟨#[45]⟩
abbrev zrS : ByteArray := ⟨#[48]⟩
abbrev dtS : ByteArray := ⟨#[46]⟩
abbrev eeS : ByteArray := ⟨#[101, 69]⟩
abbrev pmS : ByteArray := ⟨#[43, 45]⟩
def oneP (s some : ByteArray) (i : Nat) : Nat := if hasF s some i = true then i + 1 else i
theorem oneP_le {s some : ByteArray} {i : Nat} (hi : i <= s.size) : i <= oneP s some i /\ oneP s some i <= s.size := by
 unfold oneP
 split
 ·rename_i h; have := hasF_lt h; omega
 ·omega
def numI (s : ByteArray) (a : Nat) : Bool × Nat := if hasF s zrS a = true then (true, a + 1) else (!decide (passF s dgS a = a), passF s dgS a)
def numD (s : ByteArray) (b : Nat) : Bool × Nat := if hasF s dtS b = true then (!decide (passF s dgS (b + 1) = b + 1), passF s dgS (b + 1)) else (true, b)
def numE (s : ByteArray) (b : Nat) : Bool × Nat := if hasF s eeS b = true then (!decide (passF s dgS (oneP s pmS (b + 1)) = oneP s pmS (b + 1)), passF s dgS (oneP s pmS (b + 1))) else (true, b)
def numT (s : ByteArray) (i b q : Nat) : Int × Int × Nat := if pC (s.extract i b) = 0 /\ b = q then (0, pV (s.extract i b), q) else (4, 0, i)
def numX (s : ByteArray) (i b : Nat) (c : Bool × Nat) : Int × Int × Nat := if c.1 = true then (if (numE s c.2).1 = true then numT s i b (numE s c.2).2 else (1, 0, (numE s c.2).2)) else (1, 0, c.2)
def numY (s : ByteArray) (i : Nat) (b : Bool × Nat) : Int × Int × Nat := if b.1 = true then numX s i b.2 (numD s b.2) else (1, 0, b.2)
def numF (s : ByteArray) (i : Nat) : Int × Int × Nat := numY s i (numI s (oneP s mnS i))
set_option maxHeartbeats 16000000 in
theorem number_ok5 (s : ByteArray) (i : Nat) (hi : i <= s.size) (hs : s.size <= 1000000) : Reads 72 s i (numF s i).2.2 (tkC 0 ByteArray.empty 0 i 0) (tkC 3 ByteArray.empty (numF s i).2.1 i 0) (numF s i).1 := by
 unfold numF
 have ha := oneP_le (some := mnS) hi
 have c1 := one_ok s mnS i hi hs
 change Lexes _ _ _ _ (oneP s mnS i) _ at c1
 refine OkI.of_pwp (by kernel_rfl) Tryz.func72 rfl (by kernel_rfl) (by kernel_rfl) ?_
 simp (implicitDefEqProofs := false) (disch := omega) only [go_sem, simprocAttr, dropH, inL]
 refine CallOk.ofI (c1.at (st := ⟨[], _, _, _, _⟩) 0 rfl rfl (by simp) (by rfl)) rfl rfl rfl rfl ?_
 rintro r st' ⟨rfl, nt1, q1, rfl⟩
 generalize oneP s mnS i = a at *
 have c2 := one_ok s zrS a (by omega) hs
 simp (implicitDefEqProofs := false) (disch := omega) only [go_sem, simprocAttr, dropH, inL]
 refine CallOk.ofI (c2.at (st := ⟨[], _, _, _, _⟩) 0 rfl rfl (by simp) (by rfl)) rfl rfl rfl rfl ?_
 rintro r st' ⟨rfl, nt1, q1, rfl⟩
 generalize hF : numY s i (numI s a) = F
 cases h2 : hasF s zrS a with
 | true =>
  have hl2 := hasF_lt h2
  simp (implicitDefEqProofs := false) (disch := omega) only [go_sem, simprocAttr, dropH, inL, h2]
  have hT0 : ((a : Int) + 1) = ((a + 1 : Nat) : Int) := rfl
  generalize hb0 : a + 1 = b at *
  have c5 := one_ok s dtS b (by omega) hs
  simp (implicitDefEqProofs := false) (disch := omega) only [go_sem, simprocAttr, dropH, inL]
  refine CallOk.ofI (c5.at (st := ⟨[], _, _, _, _⟩) 0 rfl rfl (by simp) (by rfl)) rfl rfl rfl rfl ?_
  rintro r st' ⟨rfl, nt1, q1, rfl⟩
  cases h5 : hasF s dtS b with
  | false =>
   simp (implicitDefEqProofs := false) (disch := omega) only [go_sem, simprocAttr, dropH, inL, h5]
   have c7 := one_ok s eeS b (by omega) hs
   simp (implicitDefEqProofs := false) (disch := omega) only [go_sem, simprocAttr, dropH, inL]
   refine CallOk.ofI (c7.at (st := ⟨[], _, _, _, _⟩) 0 rfl rfl (by simp) (by rfl)) rfl rfl rfl rfl ?_
   rintro r st' ⟨rfl, nt1, q1, rfl⟩
   cases h7 : hasF s eeS b with
   | false =>
    simp (implicitDefEqProofs := false) (disch := omega) only [go_sem, simprocAttr, dropH, inL, h7]
    have cp := parse_ok (s.extract i b) (by rw [ByteArray.size_extract]; omega)
    simp (implicitDefEqProofs := false) (disch := omega) only [go_sem, simprocAttr, dropH, inL]
    with_reducible refine CallOk.of cp rfl ?_
    by_cases hz : pC (s.extract i b) = 0
    ·simp (implicitDefEqProofs := false) (disch := omega) only [go_sem, simprocAttr, dropH, inL, hz]
     have hv : F = (0, pV (s.extract i b), b) := by rw [<- hF]; simp [numY, numI, numX, numD, numE, numT, h2, hb0, h5, h7, hz]
     rw [hv]
     refine ⟨⟨[], [(0, .box 94 [vS s, vI b]), (1, .box 67 (tkC 3 ByteArray.empty (pV (s.extract i b)) i 0))], [], 2, 0⟩, ⟨rfl, rfl, rfl, rfl⟩, ?_⟩
     constructor <;> simp only [go_sem, simprocAttr, decide_eq_true_eq, Int.natCast_add, Int.natCast_one] <;> try ((repeat' apply And.intro) <;> first | rfl | omega | (congr 3; omega) | (congr 2; omega))
    ·simp (implicitDefEqProofs := false) (disch := omega) only [go_sem, simprocAttr, dropH, inL, decide_eq_false hz]
     have hv : F = (4, 0, i) := by rw [<- hF]; simp [numY, numI, numX, numD, numE, numT, h2, hb0, h5, h7, hz]
     rw [hv]
     refine ⟨⟨[], [(0, .box 94 [vS s, vI i]), (1, .box 67 (tkC 3 ByteArray.empty (0) i 0))], [], 2, 0⟩, ⟨rfl, rfl, rfl, rfl⟩, ?_⟩
     constructor <;> simp only [go_sem, simprocAttr, decide_eq_true_eq, Int.natCast_add, Int.natCast_one] <;> try ((repeat' apply And.intro) <;> first | rfl | omega | (congr 3; omega) | (congr 2; omega))
   | true =>
    have hl7 := hasF_lt h7
    have hp := oneP_le (s := s) (some := pmS) (i := b + 1) (by omega)
    have c8 := one_ok s pmS (b + 1) (by omega) hs
    change Lexes _ _ _ _ (oneP s pmS (b + 1)) _ at c8
    simp (implicitDefEqProofs := false) (disch := omega) only [go_sem, simprocAttr, dropH, inL, h7]
    refine CallOk.ofI (c8.at (st := ⟨[], _, _, _, _⟩) 0 rfl rfl (by simp) (by rfl)) rfl rfl rfl rfl ?_
    rintro r st' ⟨rfl, nt1, q1, rfl⟩
    generalize he : oneP s pmS (b + 1) = e at *
    have c9 := pass_ok s dgS e (by omega) hs
    have hq9 := passF_le s dgS e (by omega)
    simp (implicitDefEqProofs := false) (disch := omega) only [go_sem, simprocAttr, dropH, inL]
    refine CallOk.ofI (c9.at (st := ⟨[], _, _, _, _⟩) 0 rfl rfl (by simp) (by rfl)) rfl rfl rfl rfl ?_
    rintro r st' ⟨rfl, nt1, q1, rfl⟩
    generalize hq0 : passF s dgS e = q at *
    by_cases h9 : q = e
    ·simp (implicitDefEqProofs := false) (disch := omega) only [go_sem, simprocAttr, dropH, inL, decide_eq_true (show (q : Int) - (e : Int) = 0 by omega)]
     have hv : F = (1, 0, q) := by rw [<- hF]; simp [numY, numI, numX, numD, numE, numT, h2, hb0, h5, h7, he, hq0, eq_true h9]
     rw [hv]
     refine ⟨⟨[], [(0, .box 94 [vS s, vI q]), (1, .box 67 (tkC 3 ByteArray.empty (0) i 0))], [], 2, 0⟩, ⟨rfl, rfl, rfl, rfl⟩, ?_⟩
     constructor <;> simp only [go_sem, simprocAttr, decide_eq_true_eq, Int.natCast_add, Int.natCast_one] <;> try ((repeat' apply And.intro) <;> first | rfl | omega | (congr 3; omega) | (congr 2; omega))
    ·simp (implicitDefEqProofs := false) (disch := omega) only [go_sem, simprocAttr, dropH, inL, decide_eq_false (show ¬ (q : Int) - (e : Int) = 0 by omega)]
     have cp := parse_ok (s.extract i b) (by rw [ByteArray.size_extract]; omega)
     simp (implicitDefEqProofs := false) (disch := omega) only [go_sem, simprocAttr, dropH, inL]
     with_reducible refine CallOk.of cp rfl ?_
     by_cases hz : pC (s.extract i b) = 0
     ·have hq : ¬ b = q := by omega
      simp (implicitDefEqProofs := false) (disch := omega) only [go_sem, simprocAttr, dropH, inL, hz, decide_eq_false (show ¬ (b : Int) = (q : Int) by omega)]
      have hv : F = (4, 0, i) := by rw [<- hF]; simp [numY, numI, numX, numD, numE, numT, h2, hb0, h5, h7, he, hq0, h9, hz, hq]
      rw [hv]
      refine ⟨⟨[], [(0, .box 94 [vS s, vI i]), (1, .box 67 (tkC 3 ByteArray.empty (0) i 0))], [], 2, 0⟩, ⟨rfl, rfl, rfl, rfl⟩, ?_⟩
      constructor <;> simp only [go_sem, simprocAttr, decide_eq_true_eq, Int.natCast_add, Int.natCast_one] <;> try ((repeat' apply And.intro) <;> first | rfl | omega | (congr 3; omega) | (congr 2; omega))
     ·simp (implicitDefEqProofs := false) (disch := omega) only [go_sem, simprocAttr, dropH, inL, decide_eq_false hz]
      have hv : F = (4, 0, i) := by rw [<- hF]; simp [numY, numI, numX, numD, numE, numT, h2, hb0, h5, h7, he, hq0, h9, hz]
      rw [hv]
      refine ⟨⟨[], [(0, .box 94 [vS s, vI i]), (1, .box 67 (tkC 3 ByteArray.empty (0) i 0))], [], 2, 0⟩, ⟨rfl, rfl, rfl, rfl⟩, ?_⟩
      constructor <;> simp only [go_sem, simprocAttr, decide_eq_true_eq, Int.natCast_add, Int.natCast_one] <;> try ((repeat' apply And.intro) <;> first | rfl | omega | (congr 3; omega) | (congr 2; omega))
  | true =>
   have hl5 := hasF_lt h5
   have c6 := pass_ok s dgS (b + 1) (by omega) hs
   have hq6 := passF_le s dgS (b + 1) (by omega)
   simp (implicitDefEqProofs := false) (disch := omega) only [go_sem, simprocAttr, dropH, inL, h5]
   refine CallOk.ofI (c6.at (st := ⟨[], _, _, _, _⟩) 0 rfl rfl (by simp) (by rfl)) rfl rfl rfl rfl ?_
   rintro r st' ⟨rfl, nt1, q1, rfl⟩
   generalize hc0 : passF s dgS (b + 1) = c at *
   by_cases h6 : c = b + 1
   ·simp (implicitDefEqProofs := false) (disch := omega) only [go_sem, simprocAttr, dropH, inL, decide_eq_true (show (c : Int) - ((b : Int) + 1) = 0 by omega)]
    have hv : F = (1, 0, c) := by rw [<- hF]; simp [numY, numI, numX, numD, numE, numT, h2, hb0, h5, hc0, eq_true h6]
    rw [hv]
    refine ⟨⟨[], [(0, .box 94 [vS s, vI c]), (1, .box 67 (tkC 3 ByteArray.empty (0) i 0))], [], 2, 0⟩, ⟨rfl, rfl, rfl, rfl⟩, ?_⟩
    constructor <;> simp only [go_sem, simprocAttr, decide_eq_true_eq, Int.natCast_add, Int.natCast_one] <;> try ((repeat' apply And.intro) <;> first | rfl | omega | (congr 3; omega) | (congr 2; omega))
   ·simp (implicitDefEqProofs := false) (disch := omega) only [go_sem, simprocAttr, dropH, inL, decide_eq_false (show ¬ (c : Int) - ((b : Int) + 1) = 0 by omega)]
    have c7 := one_ok s eeS c (by omega) hs
    simp (implicitDefEqProofs := false) (disch := omega) only [go_sem, simprocAttr, dropH, inL]
    refine CallOk.ofI (c7.at (st := ⟨[], _, _, _, _⟩) 0 rfl rfl (by simp) (by rfl)) rfl rfl rfl rfl ?_
    rintro r st' ⟨rfl, nt1, q1, rfl⟩
    cases h7 : hasF s eeS c with
    | false =>
     simp (implicitDefEqProofs := false) (disch := omega) only [go_sem, simprocAttr, dropH, inL, h7]
     have cp := parse_ok (s.extract i b) (by rw [ByteArray.size_extract]; omega)
     simp (implicitDefEqProofs := false) (disch := omega) only [go_sem, simprocAttr, dropH, inL]
     with_reducible refine CallOk.of cp rfl ?_
     by_cases hz : pC (s.extract i b) = 0
     ·have hq : ¬ b = c := by omega
      simp (implicitDefEqProofs := false) (disch := omega) only [go_sem, simprocAttr, dropH, inL, hz, decide_eq_false (show ¬ (b : Int) = (c : Int) by omega)]
      have hv : F = (4, 0, i) := by rw [<- hF]; simp [numY, numI, numX, numD, numE, numT, h2, hb0, h5, hc0, h6, h7, hz, hq]
      rw [hv]
      refine ⟨⟨[], [(0, .box 94 [vS s, vI i]), (1, .box 67 (tkC 3 ByteArray.empty (0) i 0))], [], 2, 0⟩, ⟨rfl, rfl, rfl, rfl⟩, ?_⟩
      constructor <;> simp only [go_sem, simprocAttr, decide_eq_true_eq, Int.natCast_add, Int.natCast_one] <;> try ((repeat' apply And.intro) <;> first | rfl | omega | (congr 3; omega) | (congr 2; omega))
     ·simp (implicitDefEqProofs := false) (disch := omega) only [go_sem, simprocAttr, dropH, inL, decide_eq_false hz]
      have hv : F = (4, 0, i) := by rw [<- hF]; simp [numY, numI, numX, numD, numE, numT, h2, hb0, h5, hc0, h6, h7, hz]
      rw [hv]
      refine ⟨⟨[], [(0, .box 94 [vS s, vI i]), (1, .box 67 (tkC 3 ByteArray.empty (0) i 0))], [], 2, 0⟩, ⟨rfl, rfl, rfl, rfl⟩, ?_⟩
      constructor <;> simp only [go_sem, simprocAttr, decide_eq_true_eq, Int.natCast_add, Int.natCast_one] <;> try ((repeat' apply And.intro) <;> first | rfl | omega | (congr 3; omega) | (congr 2; omega))
    | true =>
     have hl7 := hasF_lt h7
     have hp := oneP_le (s := s) (some := pmS) (i := c + 1) (by omega)
     have c8 := one_ok s pmS (c + 1) (by omega) hs
     change Lexes _ _ _ _ (oneP s pmS (c + 1)) _ at c8
     simp (implicitDefEqProofs := false) (disch := omega) only [go_sem, simprocAttr, dropH, inL, h7]
     refine CallOk.ofI (c8.at (st := ⟨[], _, _, _, _⟩) 0 rfl rfl (by simp) (by rfl)) rfl rfl rfl rfl ?_
     rintro r st' ⟨rfl, nt1, q1, rfl⟩
     generalize he : oneP s pmS (c + 1) = e at *
     have c9 := pass_ok s dgS e (by omega) hs
     have hq9 := passF_le s dgS e (by omega)
     simp (implicitDefEqProofs := false) (disch := omega) only [go_sem, simprocAttr, dropH, inL]
     refine CallOk.ofI (c9.at (st := ⟨[], _, _, _, _⟩) 0 rfl rfl (by simp) (by rfl)) rfl rfl rfl rfl ?_
     rintro r st' ⟨rfl, nt1, q1, rfl⟩
     generalize hq0 : passF s dgS e = q at *
     by_cases h9 : q = e
     ·simp (implicitDefEqProofs := false) (disch := omega) only [go_sem, simprocAttr, dropH, inL, decide_eq_true (show (q : Int) - (e : Int) = 0 by omega)]
      have hv : F = (1, 0, q) := by rw [<- hF]; simp [numY, numI, numX, numD, numE, numT, h2, hb0, h5, hc0, h6, h7, he, hq0, eq_true h9]
      rw [hv]
      refine ⟨⟨[], [(0, .box 94 [vS s, vI q]), (1, .box 67 (tkC 3 ByteArray.empty (0) i 0))], [], 2, 0⟩, ⟨rfl, rfl, rfl, rfl⟩, ?_⟩
      constructor <;> simp only [go_sem, simprocAttr, decide_eq_true_eq, Int.natCast_add, Int.natCast_one] <;> try ((repeat' apply And.intro) <;> first | rfl | omega | (congr 3; omega) | (congr 2; omega))
     ·simp (implicitDefEqProofs := false) (disch := omega) only [go_sem, simprocAttr, dropH, inL, decide_eq_false (show ¬ (q : Int) - (e : Int) = 0 by omega)]
      have cp := parse_ok (s.extract i b) (by rw [ByteArray.size_extract]; omega)
      simp (implicitDefEqProofs := false) (disch := omega) only [go_sem, simprocAttr, dropH, inL]
      with_reducible refine CallOk.of cp rfl ?_
      by_cases hz : pC (s.extract i b) = 0
      ·have hq : ¬ b = q := by omega
       simp (implicitDefEqProofs := false) (disch := omega) only [go_sem, simprocAttr, dropH, inL, hz, decide_eq_false (show ¬ (b : Int) = (q : Int) by omega)]
       have hv : F = (4, 0, i) := by rw [<- hF]; simp [numY, numI, numX, numD, numE, numT, h2, hb0, h5, hc0, h6, h7, he, hq0, h9, hz, hq]
       rw [hv]
       refine ⟨⟨[], [(0, .box 94 [vS s, vI i]), (1, .box 67 (tkC 3 ByteArray.empty (0) i 0))], [], 2, 0⟩, ⟨rfl, rfl, rfl, rfl⟩, ?_⟩
       constructor <;> simp only [go_sem, simprocAttr, decide_eq_true_eq, Int.natCast_add, Int.natCast_one] <;> try ((repeat' apply And.intro) <;> first | rfl | omega | (congr 3; omega) | (congr 2; omega))
      ·simp (implicitDefEqProofs := false) (disch := omega) only [go_sem, simprocAttr, dropH, inL, decide_eq_false hz]
       have hv : F = (4, 0, i) := by rw [<- hF]; simp [numY, numI, numX, numD, numE, numT, h2, hb0, h5, hc0, h6, h7, he, hq0, h9, hz]
       rw [hv]
       refine ⟨⟨[], [(0, .box 94 [vS s, vI i]), (1, .box 67 (tkC 3 ByteArray.empty (0) i 0))], [], 2, 0⟩, ⟨rfl, rfl, rfl, rfl⟩, ?_⟩
       constructor <;> simp only [go_sem, simprocAttr, decide_eq_true_eq, Int.natCast_add, Int.natCast_one] <;> try ((repeat' apply And.intro) <;> first | rfl | omega | (congr 3; omega) | (congr 2; omega))
 | false =>
  have c4 := pass_ok s dgS a (by omega) hs
  have hq4 := passF_le s dgS a (by omega)
  simp (implicitDefEqProofs := false) (disch := omega) only [go_sem, simprocAttr, dropH, inL, h2]
  refine CallOk.ofI (c4.at (st := ⟨[], _, _, _, _⟩) 0 rfl rfl (by simp) (by rfl)) rfl rfl rfl rfl ?_
  rintro r st' ⟨rfl, nt1, q1, rfl⟩
  generalize hb0 : passF s dgS a = b at *
  by_cases h4 : b = a
  ·simp (implicitDefEqProofs := false) (disch := omega) only [go_sem, simprocAttr, dropH, inL, decide_eq_true (show (b : Int) - (a : Int) = 0 by omega)]
   have hv : F = (1, 0, b) := by rw [<- hF]; simp [numY, numI, numX, numD, numE, numT, h2, hb0, eq_true h4]
   rw [hv]
   refine ⟨⟨[], [(0, .box 94 [vS s, vI b]), (1, .box 67 (tkC 3 ByteArray.empty (0) i 0))], [], 2, 0⟩, ⟨rfl, rfl, rfl, rfl⟩, ?_⟩
   constructor <;> simp only [go_sem, simprocAttr, decide_eq_true_eq, Int.natCast_add, Int.natCast_one] <;> try ((repeat' apply And.intro) <;> first | rfl | omega | (congr 3; omega) | (congr 2; omega))
  ·simp (implicitDefEqProofs := false) (disch := omega) only [go_sem, simprocAttr, dropH, inL, decide_eq_false (show ¬ (b : Int) - (a : Int) = 0 by omega)]
   have c5 := one_ok s dtS b (by omega) hs
   simp (implicitDefEqProofs := false) (disch := omega) only [go_sem, simprocAttr, dropH, inL]
   refine CallOk.ofI (c5.at (st := ⟨[], _, _, _, _⟩) 0 rfl rfl (by simp) (by rfl)) rfl rfl rfl rfl ?_
   rintro r st' ⟨rfl, nt1, q1, rfl⟩
   cases h5 : hasF s dtS b with
   | false =>
    simp (implicitDefEqProofs := false) (disch := omega) only [go_sem, simprocAttr, dropH, inL, h5]
    have c7 := one_ok s eeS b (by omega) hs
    simp (implicitDefEqProofs := false) (disch := omega) only [go_sem, simprocAttr, dropH, inL]
    refine CallOk.ofI (c7.at (st := ⟨[], _, _, _, _⟩) 0 rfl rfl (by simp) (by rfl)) rfl rfl rfl rfl ?_
    rintro r st' ⟨rfl, nt1, q1, rfl⟩
    cases h7 : hasF s eeS b with
    | false =>
     simp (implicitDefEqProofs := false) (disch := omega) only [go_sem, simprocAttr, dropH, inL, h7]
     have cp := parse_ok (s.extract i b) (by rw [ByteArray.size_extract]; omega)
     simp (implicitDefEqProofs := false) (disch := omega) only [go_sem, simprocAttr, dropH, inL]
     with_reducible refine CallOk.of cp rfl ?_
     by_cases hz : pC (s.extract i b) = 0
     ·simp (implicitDefEqProofs := false) (disch := omega) only [go_sem, simprocAttr, dropH, inL, hz]
      have hv : F = (0, pV (s.extract i b), b) := by rw [<- hF]; simp [numY, numI, numX, numD, numE, numT, h2, hb0, h4, h5, h7, hz]
      rw [hv]
      refine ⟨⟨[], [(0, .box 94 [vS s, vI b]), (1, .box 67 (tkC 3 ByteArray.empty (pV (s.extract i b)) i 0))], [], 2, 0⟩, ⟨rfl, rfl, rfl, rfl⟩, ?_⟩
      constructor <;> simp only [go_sem, simprocAttr, decide_eq_true_eq, Int.natCast_add, Int.natCast_one] <;> try ((repeat' apply And.intro) <;> first | rfl | omega | (congr 3; omega) | (congr 2; omega))
     ·simp (implicitDefEqProofs := false) (disch := omega) only [go_sem, simprocAttr, dropH, inL, decide_eq_false hz]
      have hv : F = (4, 0, i) := by rw [<- hF]; simp [numY, numI, numX, numD, numE, numT, h2, hb0, h4, h5, h7, hz]
      rw [hv]
      refine ⟨⟨[], [(0, .box 94 [vS s, vI i]), (1, .box 67 (tkC 3 ByteArray.empty (0) i 0))], [], 2, 0⟩, ⟨rfl, rfl, rfl, rfl⟩, ?_⟩
      constructor <;> simp only [go_sem, simprocAttr, decide_eq_true_eq, Int.natCast_add, Int.natCast_one] <;> try ((repeat' apply And.intro) <;> first | rfl | omega | (congr 3; omega) | (congr 2; omega))
    | true =>
     have hl7 := hasF_lt h7
     have hp := oneP_le (s := s) (some := pmS) (i := b + 1) (by omega)
     have c8 := one_ok s pmS (b + 1) (by omega) hs
     change Lexes _ _ _ _ (oneP s pmS (b + 1)) _ at c8
     simp (implicitDefEqProofs := false) (disch := omega) only [go_sem, simprocAttr, dropH, inL, h7]
     refine CallOk.ofI (c8.at (st := ⟨[], _, _, _, _⟩) 0 rfl rfl (by simp) (by rfl)) rfl rfl rfl rfl ?_
     rintro r st' ⟨rfl, nt1, q1, rfl⟩
     generalize he : oneP s pmS (b + 1) = e at *
     have c9 := pass_ok s dgS e (by omega) hs
     have hq9 := passF_le s dgS e (by omega)
     simp (implicitDefEqProofs := false) (disch := omega) only [go_sem, simprocAttr, dropH, inL]
     refine CallOk.ofI (c9.at (st := ⟨[], _, _, _, _⟩) 0 rfl rfl (by simp) (by rfl)) rfl rfl rfl rfl ?_
     rintro r st' ⟨rfl, nt1, q1, rfl⟩
     generalize hq0 : passF s dgS e = q at *
     by_cases h9 : q = e
     ·simp (implicitDefEqProofs := false) (disch := omega) only [go_sem, simprocAttr, dropH, inL, decide_eq_true (show (q : Int) - (e : Int) = 0 by omega)]
      have hv : F = (1, 0, q) := by rw [<- hF]; simp [numY, numI, numX, numD, numE, numT, h2, hb0, h4, h5, h7, he, hq0, eq_true h9]
      rw [hv]
      refine ⟨⟨[], [(0, .box 94 [vS s, vI q]), (1, .box 67 (tkC 3 ByteArray.empty (0) i 0))], [], 2, 0⟩, ⟨rfl, rfl, rfl, rfl⟩, ?_⟩
      constructor <;> simp only [go_sem, simprocAttr, decide_eq_true_eq, Int.natCast_add, Int.natCast_one] <;> try ((repeat' apply And.intro) <;> first | rfl | omega | (congr 3; omega) | (congr 2; omega))
     ·simp (implicitDefEqProofs := false) (disch := omega) only [go_sem, simprocAttr, dropH, inL, decide_eq_false (show ¬ (q : Int) - (e : Int) = 0 by omega)]
      have cp := parse_ok (s.extract i b) (by rw [ByteArray.size_extract]; omega)
      simp (implicitDefEqProofs := false) (disch := omega) only [go_sem, simprocAttr, dropH, inL]
      with_reducible refine CallOk.of cp rfl ?_
      by_cases hz : pC (s.extract i b) = 0
      ·have hq : ¬ b = q := by omega
       simp (implicitDefEqProofs := false) (disch := omega) only [go_sem, simprocAttr, dropH, inL, hz, decide_eq_false (show ¬ (b : Int) = (q : Int) by omega)]
       have hv : F = (4, 0, i) := by rw [<- hF]; simp [numY, numI, numX, numD, numE, numT, h2, hb0, h4, h5, h7, he, hq0, h9, hz, hq]
       rw [hv]
       refine ⟨⟨[], [(0, .box 94 [vS s, vI i]), (1, .box 67 (tkC 3 ByteArray.empty (0) i 0))], [], 2, 0⟩, ⟨rfl, rfl, rfl, rfl⟩, ?_⟩
       constructor <;> simp only [go_sem, simprocAttr, decide_eq_true_eq, Int.natCast_add, Int.natCast_one] <;> try ((repeat' apply And.intro) <;> first | rfl | omega | (congr 3; omega) | (congr 2; omega))
      ·simp (implicitDefEqProofs := false) (disch := omega) only [go_sem, simprocAttr, dropH, inL, decide_eq_false hz]
       have hv : F = (4, 0, i) := by rw [<- hF]; simp [numY, numI, numX, numD, numE, numT, h2, hb0, h4, h5, h7, he, hq0, h9, hz]
       rw [hv]
       refine ⟨⟨[], [(0, .box 94 [vS s, vI i]), (1, .box 67 (tkC 3 ByteArray.empty (0) i 0))], [], 2, 0⟩, ⟨rfl, rfl, rfl, rfl⟩, ?_⟩
       constructor <;> simp only [go_sem, simprocAttr, decide_eq_true_eq, Int.natCast_add, Int.natCast_one] <;> try ((repeat' apply And.intro) <;> first | rfl | omega | (congr 3; omega) | (congr 2; omega))
   | true =>
    have hl5 := hasF_lt h5
    have c6 := pass_ok s dgS (b + 1) (by omega) hs
    have hq6 := passF_le s dgS (b + 1) (by omega)
    simp (implicitDefEqProofs := false) (disch := omega) only [go_sem, simprocAttr, dropH, inL, h5]
    refine CallOk.ofI (c6.at (st := ⟨[], _, _, _, _⟩) 0 rfl rfl (by simp) (by rfl)) rfl rfl rfl rfl ?_
    rintro r st' ⟨rfl, nt1, q1, rfl⟩
    generalize hc0 : passF s dgS (b + 1) = c at *
    by_cases h6 : c = b + 1
    ·simp (implicitDefEqProofs := false) (disch := omega) only [go_sem, simprocAttr, dropH, inL, decide_eq_true (show (c : Int) - ((b : Int) + 1) = 0 by omega)]
     have hv : F = (1, 0, c) := by rw [<- hF]; simp [numY, numI, numX, numD, numE, numT, h2, hb0, h4, h5, hc0, eq_true h6]
     rw [hv]
     refine ⟨⟨[], [(0, .box 94 [vS s, vI c]), (1, .box 67 (tkC 3 ByteArray.empty (0) i 0))], [], 2, 0⟩, ⟨rfl, rfl, rfl, rfl⟩, ?_⟩
     constructor <;> simp only [go_sem, simprocAttr, decide_eq_true_eq, Int.natCast_add, Int.natCast_one] <;> try ((repeat' apply And.intro) <;> first | rfl | omega | (congr 3; omega) | (congr 2; omega))
    ·simp (implicitDefEqProofs := false) (disch := omega) only [go_sem, simprocAttr, dropH, inL, decide_eq_false (show ¬ (c : Int) - ((b : Int) + 1) = 0 by omega)]
     have c7 := one_ok s eeS c (by omega) hs
     simp (implicitDefEqProofs := false) (disch := omega) only [go_sem, simprocAttr, dropH, inL]
     refine CallOk.ofI (c7.at (st := ⟨[], _, _, _, _⟩) 0 rfl rfl (by simp) (by rfl)) rfl rfl rfl rfl ?_
     rintro r st' ⟨rfl, nt1, q1, rfl⟩
     cases h7 : hasF s eeS c with
     | false =>
      simp (implicitDefEqProofs := false) (disch := omega) only [go_sem, simprocAttr, dropH, inL, h7]
      have cp := parse_ok (s.extract i b) (by rw [ByteArray.size_extract]; omega)
      simp (implicitDefEqProofs := false) (disch := omega) only [go_sem, simprocAttr, dropH, inL]
      with_reducible refine CallOk.of cp rfl ?_
      by_cases hz : pC (s.extract i b) = 0
      ·have hq : ¬ b = c := by omega
       simp (implicitDefEqProofs := false) (disch := omega) only [go_sem, simprocAttr, dropH, inL, hz, decide_eq_false (show ¬ (b : Int) = (c : Int) by omega)]
       have hv : F = (4, 0, i) := by rw [<- hF]; simp [numY, numI, numX, numD, numE, numT, h2, hb0, h4, h5, hc0, h6, h7, hz, hq]
       rw [hv]
       refine ⟨⟨[], [(0, .box 94 [vS s, vI i]), (1, .box 67 (tkC 3 ByteArray.empty (0) i 0))], [], 2, 0⟩, ⟨rfl, rfl, rfl, rfl⟩, ?_⟩
       constructor <;> simp only [go_sem, simprocAttr, decide_eq_true_eq, Int.natCast_add, Int.natCast_one] <;> try ((repeat' apply And.intro) <;> first | rfl | omega | (congr 3; omega) | (congr 2; omega))
      ·simp (implicitDefEqProofs := false) (disch := omega) only [go_sem, simprocAttr, dropH, inL, decide_eq_false hz]
       have hv : F = (4, 0, i) := by rw [<- hF]; simp [numY, numI, numX, numD, numE, numT, h2, hb0, h4, h5, hc0, h6, h7, hz]
       rw [hv]
       refine ⟨⟨[], [(0, .box 94 [vS s, vI i]), (1, .box 67 (tkC 3 ByteArray.empty (0) i 0))], [], 2, 0⟩, ⟨rfl, rfl, rfl, rfl⟩, ?_⟩
       constructor <;> simp only [go_sem, simprocAttr, decide_eq_true_eq, Int.natCast_add, Int.natCast_one] <;> try ((repeat' apply And.intro) <;> first | rfl | omega | (congr 3; omega) | (congr 2; omega))
     | true =>
      have hl7 := hasF_lt h7
      have hp := oneP_le (s := s) (some := pmS) (i := c + 1) (by omega)
      have c8 := one_ok s pmS (c + 1) (by omega) hs
      change Lexes _ _ _ _ (oneP s pmS (c + 1)) _ at c8
      simp (implicitDefEqProofs := false) (disch := omega) only [go_sem, simprocAttr, dropH, inL, h7]
      refine CallOk.ofI (c8.at (st := ⟨[], _, _, _, _⟩) 0 rfl rfl (by simp) (by rfl)) rfl rfl rfl rfl ?_
      rintro r st' ⟨rfl, nt1, q1, rfl⟩
      generalize he : oneP s pmS (c + 1) = e at *
      have c9 := pass_ok s dgS e (by omega) hs
      have hq9 := passF_le s dgS e (by omega)
      simp (implicitDefEqProofs := false) (disch := omega) only [go_sem, simprocAttr, dropH, inL]
      refine CallOk.ofI (c9.at (st := ⟨[], _, _, _, _⟩) 0 rfl rfl (by simp) (by rfl)) rfl rfl rfl rfl ?_
      rintro r st' ⟨rfl, nt1, q1, rfl⟩
      generalize hq0 : passF s dgS e = q at *
      by_cases h9 : q = e
      ·simp (implicitDefEqProofs := false) (disch := omega) only [go_sem, simprocAttr, dropH, inL, decide_eq_true (show (q : Int) - (e : Int) = 0 by omega)]
       have hv : F = (1, 0, q) := by rw [<- hF]; simp [numY, numI, numX, numD, numE, numT, h2, hb0, h4, h5, hc0, h6, h7, he, hq0, eq_true h9]
       rw [hv]
       refine ⟨⟨[], [(0, .box 94 [vS s, vI q]), (1, .box 67 (tkC 3 ByteArray.empty (0) i 0))], [], 2, 0⟩, ⟨rfl, rfl, rfl, rfl⟩, ?_⟩
       constructor <;> simp only [go_sem, simprocAttr, decide_eq_true_eq, Int.natCast_add, Int.natCast_one] <;> try ((repeat' apply And.intro) <;> first | rfl | omega | (congr 3; omega) | (congr 2; omega))
      ·simp (implicitDefEqProofs := false) (disch := omega) only [go_sem, simprocAttr, dropH, inL, decide_eq_false (show ¬ (q : Int) - (e : Int) = 0 by omega)]
       have cp := parse_ok (s.extract i b) (by rw [ByteArray.size_extract]; omega)
       simp (implicitDefEqProofs := false) (disch := omega) only [go_sem, simprocAttr, dropH, inL]
       with_reducible refine CallOk.of cp rfl ?_
       by_cases hz : pC (s.extract i b) = 0
       ·have hq : ¬ b = q := by omega
        simp (implicitDefEqProofs := false) (disch := omega) only [go_sem, simprocAttr, dropH, inL, hz, decide_eq_false (show ¬ (b : Int) = (q : Int) by omega)]
        have hv : F = (4, 0, i) := by rw [<- hF]; simp [numY, numI, numX, numD, numE, numT, h2, hb0, h4, h5, hc0, h6, h7, he, hq0, h9, hz, hq]
        rw [hv]
        refine ⟨⟨[], [(0, .box 94 [vS s, vI i]), (1, .box 67 (tkC 3 ByteArray.empty (0) i 0))], [], 2, 0⟩, ⟨rfl, rfl, rfl, rfl⟩, ?_⟩
        constructor <;> simp only [go_sem, simprocAttr, decide_eq_true_eq, Int.natCast_add, Int.natCast_one] <;> try ((repeat' apply And.intro) <;> first | rfl | omega | (congr 3; omega) | (congr 2; omega))
       ·simp (implicitDefEqProofs := false) (disch := omega) only [go_sem, simprocAttr, dropH, inL, decide_eq_false hz]
        have hv : F = (4, 0, i) := by rw [<- hF]; simp [numY, numI, numX, numD, numE, numT, h2, hb0, h4, h5, hc0, h6, h7, he, hq0, h9, hz]
        rw [hv]
        refine ⟨⟨[], [(0, .box 94 [vS s, vI i]), (1, .box 67 (tkC 3 ByteArray.empty (0) i 0))], [], 2, 0⟩, ⟨rfl, rfl, rfl, rfl⟩, ?_⟩
        constructor <;> simp only [go_sem, simprocAttr, decide_eq_true_eq, Int.natCast_add, Int.natCast_one] <;> try ((repeat' apply And.intro) <;> first | rfl | omega | (congr 3; omega) | (congr 2; omega))
end Go.Proofs.YtcgmpcbkndpmbaaGreatDoor

end
section
open Go Go.Proofs Go.Pw Go.RowKit
namespace Go.Proofs.YtcgmpcbkndpmbaaGreatDoor
set_option maxRecDepth 4000
set_option linter.unusedVariables false
set_option linter.unusedSimpArgs false
attribute [local go_sem] List.append_nil Nat.le_refl Tryz.results71 dropK_tokS
abbrev qtS : ByteArray := ⟨#[34]⟩
def txtF (s : ByteArray) : Nat -> Nat -> ByteArray -> Int × ByteArray × Nat
 | 0, i, out => (1, out, i)
 | f + 1, i, out =>
  if hasF s qtS i = true then (0, out, i + 1) else
  if i = s.size ∨ bt s i < 32 then (1, out, i) else
  if hasF s bsS i = true then (if (escP s i).2.1 = 0 then txtF s f (escP s i).2.2 (out ++ encF (escP s i).1) else ((escP s i).2.1, out, (escP s i).2.2)) else
  if (decF (s.extract i s.size)).2 = 0 then (2, out, i) else txtF s f (i + (decF (s.extract i s.size)).2.toNat) (out ++ encF (decF (s.extract i s.size)).1)
theorem escP_range (s : ByteArray) (i : Nat) (hi : i < s.size) : i <= (escP s i).2.2 /\ (escP s i).2.2 <= s.size /\ ((escP s i).2.1 = 0 -> i + 2 <= (escP s i).2.2) := by
 unfold escP
 split
 ·rename_i h; have := hasF_lt h; simp only; omega
 ·split
  ·rename_i h
   have := hasF_lt h
   have hr := hex4_range s (i + 2) (by omega)
   split
   ·unfold esc2
    split
    ·simp only; omega
    ·split
     ·rename_i h2
      have := hasF_lt h2.1
      have := hasF_lt h2.2.1
      have hr2 := hex4_range s ((hexF s 4 (i + 2) 0).2.2 + 2) (by omega)
      simp only; omega
     ·simp only; omega
   ·simp only; omega
  ·simp only; omega
theorem encF_size (n : Int) : (encF n).size <= 4 := by
 unfold encF
 split
 ·have h : ∀ m : Nat, (Utf8.encode (m : Int)).size <= 4 := fun m => by
   unfold Utf8.encode
   simp only
   repeat' split
   all_goals exact Nat.le_of_ble_eq_true rfl
  by_cases h0 : 0 <= n
  ·have := h n.toNat
   rwa [Int.toNat_of_nonneg h0] at this
  ·unfold Utf8.encode
   simp only
   repeat' split
   all_goals exact Nat.le_of_ble_eq_true rfl
 ·decide
theorem heads_builder : Heads 132 2 := ⟨by decide, by kernel_rfl⟩
def txtT (s : ByteArray) (i : Nat) : Int × ByteArray × Nat := txtF s (s.size - i) (i + 1) ByteArray.empty
def txtC (R : Int × ByteArray × Nat) (i : Nat) : List PV := if R.1 = 0 then tkC 2 R.2.1 0 i 0 else tkC 2 ByteArray.empty 0 i 0
set_option maxHeartbeats 8000000 in
theorem text_ok6 (s : ByteArray) (i : Nat) (hi : i < s.size) (hs : s.size <= 100000) : Reads 71 s i (txtT s i).2.2 (tkC 0 ByteArray.empty 0 i 0) (txtC (txtT s i) i) (txtT s i).1 := by
 unfold txtT
 refine OkI.of_pwp (by kernel_rfl) Tryz.func71 rfl (by kernel_rfl) (by kernel_rfl) ?_
 simp (implicitDefEqProofs := false) (disch := omega) only [go_sem, simprocAttr, dropH, inL]
 generalize hF : txtF s (s.size - i) (i + 1) ByteArray.empty = F
 refine p_loop (ι := { p : Nat × Nat × ByteArray × Nat × Nat // i < p.1 /\ p.1 <= s.size /\ p.2.2.1.size <= 4 * p.1 /\ p.2.2.2.1 < p.2.2.2.2 /\ ∃ f, s.size < p.1 + f /\ txtF s f p.1 p.2.2.1 = F }) (fun p => ⟨[(0, .ptr 0 0), (1, .ptr 1 0), (5, .ptr 3 0)], [(0, .box 94 [vS s, vI p.1.1]), (1, .box 67 (tkC 2 ByteArray.empty 0 i 0)), (3, .box 132 [if p.1.2.1 = 0 then vNP else .ptr 3 0, rowS p.1.2.2.2.1 p.1.2.2.1])], tokS p.1.2.2.2.1 5 p.1.2.2.1, 4, p.1.2.2.2.2⟩) (fun p => s.size + 1 - p.1.1) ⟨(i + 1, 0, ByteArray.empty, 0, 1), by simp only; omega, by simp only; omega, by simp, by simp, ⟨s.size - i, by simp only; omega, hF⟩⟩ ?_ ?_
 ·simp only [rowS_0, tokS_0, if_true]
  constructor <;> simp only [go_sem, simprocAttr, decide_eq_true_eq, Int.natCast_add, Int.natCast_one] <;> try ((repeat' apply And.intro) <;> first | rfl | omega | (congr 3; omega) | (congr 2; omega))
 ·rintro ⟨⟨j, w, out, k, nt⟩, h1, h2, h3, h4, f, hf, h5⟩
  simp only at h1 h2 h3 h4 hf h5 ⊢
  obtain ⟨f, rfl⟩ : ∃ g, f = g + 1 := ⟨f - 1, by omega⟩
  have c1 := one_ok s qtS j h2 (by omega)
  rw [txtF] at h5
  simp (implicitDefEqProofs := false) (disch := omega) only [go_sem, simprocAttr, dropH, inL]
  refine CallOk.ofI (c1.at (st := ⟨[], _, _, _, _⟩) 0 rfl rfl (by simp) (by rfl)) rfl rfl rfl rfl ?_
  rintro r st' ⟨rfl, nt1, q1, rfl⟩; simp only at q1
  cases hq : hasF s qtS j with
  | true =>
   have hlq := hasF_lt hq
   rw [if_pos hq] at h5
   subst h5
   simp (implicitDefEqProofs := false) (disch := omega) only [go_sem, simprocAttr, dropH, inL, hq]
   refine CallOk.ofI (string_at (st := ⟨[], _, _, _, _⟩) (rest := []) (T := 132) (s := out) (a' := if w = 0 then vNP else .ptr 3 0) 3 k (by simp) (by simp only at q1 ⊢; omega) (by by_cases hw : w = 0 <;> simp [hw]) (by rfl) (by rfl) lkp_tokS) rfl rfl rfl rfl ?_
   rintro r st' ⟨rfl, rfl⟩
   simp (implicitDefEqProofs := false) (disch := omega) only [go_sem, simprocAttr, dropH, inL]
   refine ⟨⟨[], [(0, .box 94 [vS s, vI (j + 1 : Nat)]), (1, .box 67 (tkC 2 out 0 i 0))], [], 2, 0⟩, ⟨rfl, rfl, rfl, rfl⟩, ?_⟩
   constructor <;> simp only [go_sem, simprocAttr, decide_eq_true_eq, Int.natCast_add, Int.natCast_one] <;> try ((repeat' apply And.intro) <;> first | rfl | omega | (congr 3; omega) | (congr 2; omega))
  | false =>
   rw [if_neg (by rw [hq]; decide)] at h5
   by_cases he : j = s.size
   ·rw [if_pos (.inl he)] at h5
    subst h5
    simp (implicitDefEqProofs := false) (disch := omega) only [go_sem, simprocAttr, dropH, inL, hq, decide_eq_true (show (j : Int) = (s.size : Int) by omega)]
    refine ⟨⟨[], [(0, .box 94 [vS s, vI j]), (1, .box 67 (tkC 2 ByteArray.empty 0 i 0))], [], 2, 0⟩, ⟨rfl, rfl, rfl, rfl⟩, ?_⟩
    constructor <;> simp only [go_sem, simprocAttr, decide_eq_true_eq, Int.natCast_add, Int.natCast_one] <;> try ((repeat' apply And.intro) <;> first | rfl | omega | (congr 3; omega) | (congr 2; omega))
   ·have hj : j < s.size := by omega
    by_cases hb : bt s j < 32
    ·rw [if_pos (.inr hb)] at h5
     subst h5
     simp (implicitDefEqProofs := false) (disch := omega) only [go_sem, simprocAttr, dropH, inL, hq, decide_eq_false (show ¬ (j : Int) = (s.size : Int) by omega), decide_eq_true hb]
     refine ⟨⟨[], [(0, .box 94 [vS s, vI j]), (1, .box 67 (tkC 2 ByteArray.empty 0 i 0))], [], 2, 0⟩, ⟨rfl, rfl, rfl, rfl⟩, ?_⟩
     constructor <;> simp only [go_sem, simprocAttr, decide_eq_true_eq, Int.natCast_add, Int.natCast_one] <;> try ((repeat' apply And.intro) <;> first | rfl | omega | (congr 3; omega) | (congr 2; omega))
    ·rw [if_neg (fun h => h.elim he hb)] at h5
     have c2 := has_ok s bsS j h2 (by omega)
     simp (implicitDefEqProofs := false) (disch := omega) only [go_sem, simprocAttr, dropH, inL, hq, decide_eq_false (show ¬ (j : Int) = (s.size : Int) by omega), decide_eq_false hb]
     refine CallOk.ofI (c2.at (st := ⟨[], _, _, _, _⟩) 0 rfl rfl (by simp) (by rfl)) rfl rfl rfl rfl ?_
     rintro r st' ⟨rfl, nt1, q1, rfl⟩; simp only at q1
     cases hbs : hasF s bsS j with
     | true =>
      rw [if_pos hbs] at h5
      have c3 := escape_ok s j hj (by omega)
      have hr := escP_range s j hj
      generalize escP s j = X at *
      obtain ⟨n, er, e⟩ := X
      simp only at hr c3 h5
      simp (implicitDefEqProofs := false) (disch := omega) only [go_sem, simprocAttr, dropH, inL, hbs]
      refine CallOk.ofI (c3.at (st := ⟨[], _, _, _, _⟩) 0 rfl rfl (by simp) (by rfl)) rfl rfl rfl rfl ?_
      rintro r st' ⟨rfl, nt1, q1, rfl⟩; simp only at q1
      by_cases her : er = 0
      ·subst her
       rw [if_pos rfl] at h5
       simp (implicitDefEqProofs := false) (disch := omega) only [go_sem, simprocAttr, dropH, inL]
       with_reducible refine CallOk.of (encode_ok n) rfl ?_
       simp (implicitDefEqProofs := false) (disch := omega) only [go_sem, simprocAttr, dropH, inL]
       have hen := encF_size n
       refine CallOk.ofI (writeS_at (st := ⟨[], _, _, _, _⟩) (rest := []) (T := 132) (s := out) (t := encF n) (a' := if w = 0 then vNP else .ptr 3 0) heads_builder (by rfl) 3 k (by omega) (by simp) (by simp only at q1 ⊢; omega) (by by_cases hw : w = 0 <;> simp [hw]) (by rfl) lkp_tokS) rfl rfl rfl rfl ?_
       rintro r st' ⟨rfl, k2, nt2, q3, q4, rfl⟩
       have hso : (out ++ encF n).size = out.size + (encF n).size := ByteArray.size_append
       simp (implicitDefEqProofs := false) (disch := omega) only [go_sem, simprocAttr, dropH, inL]
       refine ⟨⟨(e, 1, out ++ encF n, k2, nt2), by simp only; omega, hr.2.1, by simp only; omega, q3, f, by simp only; omega, h5⟩, by simp only; omega, ?_⟩
       simp only [if_neg (show ¬ (1 : Nat) = 0 by decide)]
       constructor <;> simp only [go_sem, simprocAttr, decide_eq_true_eq, Int.natCast_add, Int.natCast_one] <;> try ((repeat' apply And.intro) <;> first | rfl | omega | (congr 3; omega) | (congr 2; omega))
       ·exact rowS_lt _ _ _ _ q3
       ·exact tokS_weak _ _ _ _ q3
      ·rw [if_neg her] at h5
       subst h5
       have hc : txtC (er, out, e) i = tkC 2 ByteArray.empty 0 i 0 := if_neg her
       rw [hc]
       simp (implicitDefEqProofs := false) (disch := omega) only [go_sem, simprocAttr, dropH, inL, decide_eq_false her]
       refine ⟨⟨[], [(0, .box 94 [vS s, vI e]), (1, .box 67 (tkC 2 ByteArray.empty 0 i 0))], [], 2, 0⟩, ⟨rfl, rfl, rfl, rfl⟩, ?_⟩
       constructor <;> simp only [go_sem, simprocAttr, decide_eq_true_eq, Int.natCast_add, Int.natCast_one] <;> try ((repeat' apply And.intro) <;> first | rfl | omega | (congr 3; omega) | (congr 2; omega))
     | false =>
      rw [if_neg (by rw [hbs]; decide)] at h5
      have cd := decode_ok0 (s.extract j s.size) (by rw [ByteArray.size_extract]; omega)
      have hdt := decF_tail hj
      have hdp := dec_pos s j hj
      simp (implicitDefEqProofs := false) (disch := omega) only [go_sem, simprocAttr, dropH, inL, hbs]
      have hcut : (s.extract j s.size).size <= 140737488351232 := by rw [ByteArray.size_extract]; omega
      with_reducible refine CallOk.of cd rfl ?_
      by_cases hm : (decF (s.extract j s.size)).2 = 0
      ·rw [if_pos hm] at h5
       subst h5
       simp (implicitDefEqProofs := false) (disch := omega) only [go_sem, simprocAttr, dropH, inL, hm]
       refine ⟨⟨[], [(0, .box 94 [vS s, vI j]), (1, .box 67 (tkC 2 ByteArray.empty 0 i 0))], [], 2, 0⟩, ⟨rfl, rfl, rfl, rfl⟩, ?_⟩
       constructor <;> simp only [go_sem, simprocAttr, decide_eq_true_eq, Int.natCast_add, Int.natCast_one] <;> try ((repeat' apply And.intro) <;> first | rfl | omega | (congr 3; omega) | (congr 2; omega))
      ·rw [if_neg hm] at h5
       obtain ⟨n, mm, hY, hm1, hm2⟩ : ∃ (n : Int) (mm : Nat), decF (s.extract j s.size) = (n, (mm : Int)) /\ 1 <= mm /\ j + mm <= s.size := by
        rw [hdt] at hm ⊢
        unfold goodN at hm ⊢
        split
        ·rename_i h; rw [if_pos h] at hm; exact absurd rfl hm
        ·exact ⟨_, _, rfl, hdp.1, hdp.2⟩
       rw [hY] at h5 hm
       simp only [Int.toNat_natCast] at h5 hm
       have hen := encF_size n
       have hmd : decide ((mm : Int) = 0) = false := decide_eq_false hm
       simp (implicitDefEqProofs := false) (disch := omega) only [go_sem, simprocAttr, dropH, inL, hY, hmd]
       with_reducible refine CallOk.of (encode_ok n) rfl ?_
       simp (implicitDefEqProofs := false) (disch := omega) only [go_sem, simprocAttr, dropH, inL]
       refine CallOk.ofI (writeS_at (st := ⟨[], _, _, _, _⟩) (rest := []) (T := 132) (s := out) (t := encF n) (a' := if w = 0 then vNP else .ptr 3 0) heads_builder (by rfl) 3 k (by omega) (by simp) (by simp only at q1 ⊢; omega) (by by_cases hw : w = 0 <;> simp [hw]) (by rfl) lkp_tokS) rfl rfl rfl rfl ?_
       rintro r st' ⟨rfl, k2, nt2, q3, q4, rfl⟩
       have hso : (out ++ encF n).size = out.size + (encF n).size := ByteArray.size_append
       simp (implicitDefEqProofs := false) (disch := omega) only [go_sem, simprocAttr, dropH, inL]
       refine ⟨⟨(j + mm, 1, out ++ encF n, k2, nt2), by simp only; omega, hm2, by simp only; omega, q3, f, by simp only; omega, h5⟩, by simp only; omega, ?_⟩
       simp only [if_neg (show ¬ (1 : Nat) = 0 by decide)]
       constructor <;> simp only [go_sem, simprocAttr, decide_eq_true_eq, Int.natCast_add, Int.natCast_one] <;> try ((repeat' apply And.intro) <;> first | rfl | omega | (congr 3; omega) | (congr 2; omega))
       ·exact rowS_lt _ _ _ _ q3
       ·exact tokS_weak _ _ _ _ q3
end Go.Proofs.YtcgmpcbkndpmbaaGreatDoor

end
section
open Go Go.Proofs Go.Pw Go.RowKit
namespace Go.Proofs.YtcgmpcbkndpmbaaGreatDoor
set_option maxRecDepth 4000
set_option linter.unusedVariables false
set_option linter.unusedSimpArgs false
attribute [local go_sem] Nat.le_refl Tryz.results47
abbrev blS : ByteArray := ⟨#[32, 9, 10, 13]⟩
abbrev mkS : ByteArray := ⟨#[123, 125, 91, 93, 58, 44]⟩
abbrev nuS : ByteArray := ⟨#[45, 48, 49, 50, 51, 52, 53, 54, 55, 56, 57]⟩
structure Tk where
 kind : Int
 text : ByteArray
 int : Int
 at_ : Nat
 stop : Nat
def tk0 : Tk := ⟨0, ByteArray.empty, 0, 0, 0⟩
def Tk.cells (t : Tk) : List PV := tkC t.kind t.text t.int t.at_ t.stop
def nextE (i b : Nat) (e : Int) (t : Tk) (q : Nat) : Int × Nat × Tk × Nat := if e = 0 then (0, 0, { t with at_ := b, stop := q }, q) else (e, q, tk0, i)
def nextF (s : ByteArray) (i : Nat) : Int × Nat × Tk × Nat :=
 if passF s blS i = s.size then (0, 0, ⟨0, ByteArray.empty, 0, passF s blS i, passF s blS i⟩, passF s blS i) else
 if hasF s mkS (passF s blS i) = true then nextE i (passF s blS i) 0 ⟨1, s.extract (passF s blS i) (passF s blS i + 1), 0, 0, 0⟩ (passF s blS i + 1) else
 if hasF s qtS (passF s blS i) = true then nextE i (passF s blS i) (txtT s (passF s blS i)).1 ⟨2, (txtT s (passF s blS i)).2.1, 0, 0, 0⟩ (txtT s (passF s blS i)).2.2 else
 if hasF s nuS (passF s blS i) = true then nextE i (passF s blS i) (numF s (passF s blS i)).1 ⟨3, ByteArray.empty, (numF s (passF s blS i)).2.1, 0, 0⟩ (numF s (passF s blS i)).2.2 else
 nextE i (passF s blS i) (wordF s (passF s blS i)).1 ⟨(wordF s (passF s blS i)).2.1, ByteArray.empty, 0, 0, 0⟩ (wordF s (passF s blS i)).2.2
set_option maxHeartbeats 8000000 in
theorem next_ok (s : ByteArray) (i : Nat) (hi : i <= s.size) (hs : s.size <= 100000) : Lexes 47 [] s i (nextF s i).2.2.2 (.tup [.agg (nextF s i).2.2.1.cells, vI (nextF s i).2.1, vI (nextF s i).1]) := by
 have c1 := pass_ok s blS i hi (by omega)
 have hb := passF_le s blS i hi
 refine OkI.of_pwp (by kernel_rfl) Tryz.func47 rfl (by kernel_rfl) (by kernel_rfl) ?_
 unfold nextF
 simp (implicitDefEqProofs := false) (disch := omega) only [go_sem, simprocAttr, dropH, inL]
 refine CallOk.ofI (c1.at (st := ⟨[], _, _, _, _⟩) 0 rfl rfl (by simp) (by rfl)) rfl rfl rfl rfl ?_
 rintro r st' ⟨rfl, nt1, q1, rfl⟩; simp only at q1
 generalize passF s blS i = b at *
 by_cases h1 : b = s.size
 ·rw [if_pos h1]
  simp (implicitDefEqProofs := false) (disch := omega) only [go_sem, simprocAttr, dropH, inL, decide_eq_true (show (b : Int) = (s.size : Int) by omega)]
  refine ⟨⟨[], [(0, .box 94 [vS s, vI b])], [], 1, 0⟩, ⟨rfl, rfl, rfl, rfl⟩, ?_⟩
  constructor <;> simp only [go_sem, simprocAttr, decide_eq_true_eq, Int.natCast_add, Int.natCast_one] <;> try ((repeat' apply And.intro) <;> first | rfl | omega | (congr 3; omega) | (congr 2; omega))
 ·rw [if_neg h1]
  have c2 := has_ok s mkS b hb.2 (by omega)
  simp (implicitDefEqProofs := false) (disch := omega) only [go_sem, simprocAttr, dropH, inL, decide_eq_false (show ¬ (b : Int) = (s.size : Int) by omega)]
  refine CallOk.ofI (c2.at (st := ⟨[], _, _, _, _⟩) 0 rfl rfl (by simp) (by rfl)) rfl rfl rfl rfl ?_
  rintro r st' ⟨rfl, nt1, q1, rfl⟩; simp only at q1
  cases h2 : hasF s mkS b with
  | true =>
   have hl := hasF_lt h2
   rw [if_pos rfl]
   simp (implicitDefEqProofs := false) (disch := omega) only [go_sem, simprocAttr, dropH, inL, h2]
   refine CallOk.ofI ((mark_ok s b hl (by omega) b).at (st := ⟨[], _, _, _, _⟩) 0 17 (by decide) (by simp) (by simp) (by rfl) (by rfl) (by rfl) (by rfl)) rfl rfl rfl rfl ?_
   rintro r st' ⟨rfl, nt1, q1, rfl⟩; simp only at q1
   rw [nextE, if_pos rfl]
   simp (implicitDefEqProofs := false) (disch := omega) only [go_sem, simprocAttr, dropH, inL]
   refine ⟨⟨[], [(0, .box 94 [vS s, vI (b + 1 : Nat)])], [], 1, 0⟩, ⟨rfl, rfl, rfl, rfl⟩, ?_⟩
   constructor <;> simp only [go_sem, simprocAttr, decide_eq_true_eq, Int.natCast_add, Int.natCast_one] <;> try ((repeat' apply And.intro) <;> first | rfl | omega | (congr 3; omega) | (congr 2; omega))
  | false =>
   rw [if_neg (by simp)]
   have c3 := has_ok s qtS b hb.2 (by omega)
   simp (implicitDefEqProofs := false) (disch := omega) only [go_sem, simprocAttr, dropH, inL, h2]
   refine CallOk.ofI (c3.at (st := ⟨[], _, _, _, _⟩) 0 rfl rfl (by simp) (by rfl)) rfl rfl rfl rfl ?_
   rintro r st' ⟨rfl, nt1, q1, rfl⟩; simp only at q1
   cases h3 : hasF s qtS b with
   | true =>
    have hl := hasF_lt h3
    have cr := text_ok6 s b hl hs
    rw [if_pos rfl]
    simp (implicitDefEqProofs := false) (disch := omega) only [go_sem, simprocAttr, dropH, inL, h3]
    generalize txtT s b = X at *
    obtain ⟨e, t, q⟩ := X
    simp only at cr ⊢
    by_cases he : e = 0
    ·subst he
     rw [nextE, if_pos rfl]
     have hcc : txtC (0, t, q) b = tkC 2 t 0 b 0 := if_pos rfl
     rw [hcc] at cr
     refine CallOk.ofI (cr.at (st := ⟨[], _, _, _, _⟩) 0 17 (by decide) (by simp) (by simp) (by rfl) (by rfl) (by rfl) (by rfl)) rfl rfl rfl rfl ?_
     rintro r st' ⟨rfl, nt1, q1, rfl⟩; simp only at q1
     simp (implicitDefEqProofs := false) (disch := omega) only [go_sem, simprocAttr, dropH, inL]
     refine ⟨⟨[], [(0, .box 94 [vS s, vI q])], [], 1, 0⟩, ⟨rfl, rfl, rfl, rfl⟩, ?_⟩
     constructor <;> simp only [go_sem, simprocAttr, decide_eq_true_eq, Int.natCast_add, Int.natCast_one] <;> try ((repeat' apply And.intro) <;> first | rfl | omega | (congr 3; omega) | (congr 2; omega))
    ·rw [nextE, if_neg he]
     have hcc : txtC (e, t, q) b = tkC 2 ByteArray.empty 0 b 0 := if_neg he
     rw [hcc] at cr
     refine CallOk.ofI (cr.at (st := ⟨[], _, _, _, _⟩) 0 17 (by decide) (by simp) (by simp) (by rfl) (by rfl) (by rfl) (by rfl)) rfl rfl rfl rfl ?_
     rintro r st' ⟨rfl, nt1, q1, rfl⟩; simp only at q1
     simp (implicitDefEqProofs := false) (disch := omega) only [go_sem, simprocAttr, dropH, inL, decide_eq_false he]
     refine ⟨⟨[], [(0, .box 94 [vS s, vI i])], [], 1, 0⟩, ⟨rfl, rfl, rfl, rfl⟩, ?_⟩
     constructor <;> simp only [go_sem, simprocAttr, decide_eq_true_eq, Int.natCast_add, Int.natCast_one] <;> try ((repeat' apply And.intro) <;> first | rfl | omega | (congr 3; omega) | (congr 2; omega))
   | false =>
    rw [if_neg (by simp)]
    have c4 := has_ok s nuS b hb.2 (by omega)
    simp (implicitDefEqProofs := false) (disch := omega) only [go_sem, simprocAttr, dropH, inL, h3]
    refine CallOk.ofI (c4.at (st := ⟨[], _, _, _, _⟩) 0 rfl rfl (by simp) (by rfl)) rfl rfl rfl rfl ?_
    rintro r st' ⟨rfl, nt1, q1, rfl⟩; simp only at q1
    cases h4 : hasF s nuS b with
    | true =>
     have hl := hasF_lt h4
     have cr := number_ok5 s b hb.2 (by omega)
     rw [if_pos rfl]
     simp (implicitDefEqProofs := false) (disch := omega) only [go_sem, simprocAttr, dropH, inL, h4]
     generalize numF s b = X at *
     obtain ⟨e, t, q⟩ := X
     simp only at cr ⊢
     by_cases he : e = 0
     ·subst he
      rw [nextE, if_pos rfl]
      refine CallOk.ofI (cr.at (st := ⟨[], _, _, _, _⟩) 0 17 (by decide) (by simp) (by simp) (by rfl) (by rfl) (by rfl) (by rfl)) rfl rfl rfl rfl ?_
      rintro r st' ⟨rfl, nt1, q1, rfl⟩; simp only at q1
      simp (implicitDefEqProofs := false) (disch := omega) only [go_sem, simprocAttr, dropH, inL]
      refine ⟨⟨[], [(0, .box 94 [vS s, vI q])], [], 1, 0⟩, ⟨rfl, rfl, rfl, rfl⟩, ?_⟩
      constructor <;> simp only [go_sem, simprocAttr, decide_eq_true_eq, Int.natCast_add, Int.natCast_one] <;> try ((repeat' apply And.intro) <;> first | rfl | omega | (congr 3; omega) | (congr 2; omega))
     ·rw [nextE, if_neg he]
      refine CallOk.ofI (cr.at (st := ⟨[], _, _, _, _⟩) 0 17 (by decide) (by simp) (by simp) (by rfl) (by rfl) (by rfl) (by rfl)) rfl rfl rfl rfl ?_
      rintro r st' ⟨rfl, nt1, q1, rfl⟩; simp only at q1
      simp (implicitDefEqProofs := false) (disch := omega) only [go_sem, simprocAttr, dropH, inL, decide_eq_false he]
      refine ⟨⟨[], [(0, .box 94 [vS s, vI i])], [], 1, 0⟩, ⟨rfl, rfl, rfl, rfl⟩, ?_⟩
      constructor <;> simp only [go_sem, simprocAttr, decide_eq_true_eq, Int.natCast_add, Int.natCast_one] <;> try ((repeat' apply And.intro) <;> first | rfl | omega | (congr 3; omega) | (congr 2; omega))
    | false =>
     have cr := word_ok s b hb.2 (by omega) b
     rw [if_neg (by simp)]
     simp (implicitDefEqProofs := false) (disch := omega) only [go_sem, simprocAttr, dropH, inL, h4]
     generalize wordF s b = X at *
     obtain ⟨e, t, q⟩ := X
     simp only at cr ⊢
     by_cases he : e = 0
     ·subst he
      rw [nextE, if_pos rfl]
      refine CallOk.ofI (cr.at (st := ⟨[], _, _, _, _⟩) 0 17 (by decide) (by simp) (by simp) (by rfl) (by rfl) (by rfl) (by rfl)) rfl rfl rfl rfl ?_
      rintro r st' ⟨rfl, nt1, q1, rfl⟩; simp only at q1
      simp (implicitDefEqProofs := false) (disch := omega) only [go_sem, simprocAttr, dropH, inL]
      refine ⟨⟨[], [(0, .box 94 [vS s, vI q])], [], 1, 0⟩, ⟨rfl, rfl, rfl, rfl⟩, ?_⟩
      constructor <;> simp only [go_sem, simprocAttr, decide_eq_true_eq, Int.natCast_add, Int.natCast_one] <;> try ((repeat' apply And.intro) <;> first | rfl | omega | (congr 3; omega) | (congr 2; omega))
     ·rw [nextE, if_neg he]
      refine CallOk.ofI (cr.at (st := ⟨[], _, _, _, _⟩) 0 17 (by decide) (by simp) (by simp) (by rfl) (by rfl) (by rfl) (by rfl)) rfl rfl rfl rfl ?_
      rintro r st' ⟨rfl, nt1, q1, rfl⟩; simp only at q1
      simp (implicitDefEqProofs := false) (disch := omega) only [go_sem, simprocAttr, dropH, inL, decide_eq_false he]
      refine ⟨⟨[], [(0, .box 94 [vS s, vI i])], [], 1, 0⟩, ⟨rfl, rfl, rfl, rfl⟩, ?_⟩
      constructor <;> simp only [go_sem, simprocAttr, decide_eq_true_eq, Int.natCast_add, Int.natCast_one] <;> try ((repeat' apply And.intro) <;> first | rfl | omega | (congr 3; omega) | (congr 2; omega))
end Go.Proofs.YtcgmpcbkndpmbaaGreatDoor

end
section
open Go Go.Proofs Go.Pw Go.RowKit
namespace Go.Proofs.YtcgmpcbkndpmbaaGreatDoor
set_option maxRecDepth 4000
set_option linter.unusedVariables false
set_option linter.unusedSimpArgs false
attribute [local go_sem] Nat.le_refl Tryz.results65 Tryz.results84 Tryz.results85 encI_len
theorem v1_ok (n : Int) : Ok Tryz.prog 85 [vI n] (.tup []) := by
 refine Ok.of_pwp (by kernel_rfl) Tryz.func85 rfl (by kernel_rfl) (by kernel_rfl) ?_
 simp (implicitDefEqProofs := false) (disch := omega) only [go_sem, simprocAttr, ↓ix_enc]
set_option maxHeartbeats 4000000 in
theorem walk0_ok (s : ByteArray) (hs : s.size <= 1000000) : Ok Tryz.prog 84 [vS s, .fn 85 []] (vI (scan s 0).2) := by
 refine Ok.of_pwp (by kernel_rfl) Tryz.func84 rfl (by kernel_rfl) (by kernel_rfl) ?_
 generalize hr : (scan s 0).2 = rr
 simp (implicitDefEqProofs := false) (disch := omega) only [go_sem, simprocAttr, ↓ix_enc]
 refine p_loop (ι := { i : Nat // i <= s.size /\ rr = (scan s i).2 })
  (fun p => ⟨[(5, vI p.1), (0, vS s), (1, .fn 85 [])], [], [], 0, 0⟩) (fun p => s.size - p.1) ⟨0, Nat.zero_le _, hr.symm⟩ ?_ ?_
 ·constructor <;> simp only [go_sem, simprocAttr, decide_eq_true_eq, Int.natCast_zero] <;> try ((repeat' apply And.intro) <;> first | rfl | omega | (congr 3; omega) | (congr 2; omega))
 ·rintro ⟨i, h1, h5⟩
  simp only at h1 h5 ⊢
  simp (implicitDefEqProofs := false) (disch := omega) only [go_sem, simprocAttr, ↓ix_enc]
  with_reducible refine ifK_split (fun hlt => ?_) (fun hge => ?_)
  ·have hlt' : i < s.size := by omega
   have d := decode_ok0 (s.extract i s.size) (by rw [Lib.tail_size]; omega)
   rw [decF_tail hlt'] at d
   simp (implicitDefEqProofs := false) (disch := omega) only [go_sem, simprocAttr, ↓ix_enc]
   by_cases hb : Utf8.decode s i = (65533, 1)
   ·rw [hb] at d
    rw [scan_bad hlt' hb] at h5
    simp only [goodN, if_true] at d
    with_reducible refine CallOk.of d rfl ?_
    simp (implicitDefEqProofs := false) (disch := omega) only [go_sem, simprocAttr, ↓ix_enc]
    rw [h5]
   ·rw [goodN, if_neg hb] at d
    have hp := dec_pos s i hlt'
    rw [scan_step hlt' hb] at h5
    generalize Utf8.decode s i = q at *
    with_reducible refine CallOk.of d rfl ?_
    have hd0 : ¬ ((q.2 : Int) = 0) := by omega
    simp (implicitDefEqProofs := false) (disch := omega) only [go_sem, simprocAttr, ↓ix_enc]
    with_reducible refine CallOk.of (v1_ok _) rfl ?_
    simp (implicitDefEqProofs := false) (disch := omega) only [go_sem, simprocAttr, ↓ix_enc]
    refine ⟨⟨i + q.2, by omega, h5⟩, by simp only; omega, ?_⟩
    constructor <;> simp only [go_sem, simprocAttr, decide_eq_true_eq, Int.natCast_add] <;> try ((repeat' apply And.intro) <;> first | rfl | omega | (congr 3; omega) | (congr 2; omega))
  ·rw [scan_end (by omega)] at h5
   simp (implicitDefEqProofs := false) (disch := omega) only [go_sem, simprocAttr, ↓ix_enc]
   rw [h5]
def validF (s : ByteArray) : PV := if (scan s 0).2 = s.size then .tup [vI 0, vB true] else .tup [vI (scan s 0).2, vB false]
theorem valid_ok (s : ByteArray) (hs : s.size <= 1000000) : Ok Tryz.prog 65 [vS s] (validF s) := by
 refine Ok.of_pwp (by kernel_rfl) Tryz.func65 rfl (by kernel_rfl) (by kernel_rfl) ?_
 unfold validF
 have hl := scan_len s 0 (Nat.zero_le _)
 have w0 := walk0_ok s hs
 simp (implicitDefEqProofs := false) (disch := omega) only [go_sem, simprocAttr, ↓ix_enc]
 with_reducible refine CallOk.of w0 rfl ?_
 simp (implicitDefEqProofs := false) (disch := omega) only [go_sem, simprocAttr, ↓ix_enc]
 with_reducible refine ifK_split (fun hlt => ?_) (fun hge => ?_)
 ·rw [if_neg (by omega)]
  simp (implicitDefEqProofs := false) (disch := omega) only [go_sem, simprocAttr, ↓ix_enc]
 ·rw [if_pos (by omega)]
  simp (implicitDefEqProofs := false) (disch := omega) only [go_sem, simprocAttr, ↓ix_enc]
end Go.Proofs.YtcgmpcbkndpmbaaGreatDoor

end
section
open Go Go.Proofs Go.Pw Go.RowKit
namespace Go.Proofs.YtcgmpcbkndpmbaaGreatDoor
set_option maxRecDepth 4000
set_option linter.unusedVariables false
set_option linter.unusedSimpArgs false
attribute [local go_sem] Nat.le_refl Tryz.results112 Tryz.results113 Tryz.results124 Tryz.results96
def encT (l : List ByteArray) : List (List PV) := l.map fun s => [vS s]
theorem encT_len (l : List ByteArray) : (encT l).length = l.length := by simp [encT]
theorem encT_get (l : List ByteArray) (i : Nat) : (encT l).getD i [] = if i < l.length then [vS (l.getD i ByteArray.empty)] else [] := by
 unfold encT
 by_cases h : i < l.length
 ·simp [h, List.getD_eq_getElem?_getD]
 ·rw [if_neg h, List.getD_eq_getElem?_getD, List.getElem?_eq_none (by simpa using h)]; rfl
theorem encT_take (l : List ByteArray) (n : Nat) : (encT l).take n = encT (l.take n) := by simp [encT, List.map_take]
theorem encT_drop (l : List ByteArray) (n : Nat) : (encT l).drop n = encT (l.drop n) := by simp [encT, List.map_drop]
theorem encT_nil : encT [] = [] := rfl
theorem ix_T {a : List ByteArray} {i : Int} {K : PV -> Prop} (h0 : 0 <= i) (h1 : i < (a.length : Int)) : ixP 1 i K (.sl (encT a)) = K (.fp [vS (a.getD i.toNat ByteArray.empty)]) := by
 have h : i.toNat < a.length := by omega
 simp only [ixP, encT_get, if_pos h, encT_len, List.length_singleton, h0, h1, true_and]
theorem ix_Tr {a : List ByteArray} {i : Int} {k : Nat} {K : PV -> Prop} (h0 : 0 <= i) (h1 : i < (a.length : Int)) : ixP 1 i K (.row k (encT a)) = K (.fp [vS (a.getD i.toNat ByteArray.empty)]) := by
 have h : i.toNat < a.length := by omega
 simp only [ixP, encT_get, if_pos h, encT_len, List.length_singleton, h0, h1, true_and]
theorem encT_all (l : List ByteArray) : (∀ x ∈ encT l, x.length = 1) = True := eq_true (fun x hx => by
 obtain ⟨n, _, rfl⟩ := List.mem_map.1 hx
 rfl)
theorem fz_encT : ∀ (l : List ByteArray), fzLL (encT l) = some (encT l)
 | [] => rfl
 | x :: r => by
  have ih := fz_encT r
  unfold encT at ih ⊢
  rw [List.map_cons, fzLL, ih]
  rfl
attribute [go_sem ↓ 2000] ix_T ix_Tr
attribute [go_sem] encT_len encT_all fz_encT
def ltT (a b : ByteArray) : Bool := Op.bytesLess a.data.toList b.data.toList
theorem ltT_lt (a b : ByteArray) : ltT a b = true ↔ a.data.toList < b.data.toList := by unfold ltT; rw [bytesLess_eq]; simp
theorem byte_ext {a b : ByteArray} (h : a.data.toList = b.data.toList) : a = b := by cases a; cases b; simp at h; rw [h]
theorem ltT_trans {a b c : ByteArray} (h : ltT a b = true) (k : ltT b c = true) : ltT a c = true := (ltT_lt _ _).2 (List.lt_trans ((ltT_lt _ _).1 h) ((ltT_lt _ _).1 k))
theorem ltT_tri (a b : ByteArray) : ltT a b = true ∨ a = b ∨ ltT b a = true := by
 rcases Decidable.em (a.data.toList < b.data.toList) with h | h
 ·exact .inl ((ltT_lt _ _).2 h)
 ·rcases Decidable.em (b.data.toList < a.data.toList) with k | k
  ·exact .inr (.inr ((ltT_lt _ _).2 k))
  ·exact .inr (.inl (byte_ext (List.le_antisymm (List.not_lt.1 k) (List.not_lt.1 h))))
theorem isNaNc_ok (s : ByteArray) : Ok Tryz.prog 124 [vS s] (vB false) := by
 refine Ok.of_pwp (by kernel_rfl) Tryz.func124 rfl (by kernel_rfl) (by kernel_rfl) ?_
 simp (implicitDefEqProofs := false) (disch := omega) only [go_sem, simprocAttr]
theorem isNaNs_ok (s : ByteArray) : Ok Tryz.prog 113 [vS s] (vB false) := by
 refine Ok.of_pwp (by kernel_rfl) Tryz.func113 rfl (by kernel_rfl) (by kernel_rfl) ?_
 simp (implicitDefEqProofs := false) (disch := omega) only [go_sem, simprocAttr]
theorem lessT_ok (a b : ByteArray) : Ok Tryz.prog 112 [vS a, vS b] (vB (ltT a b)) := by
 refine Ok.of_pwp (by kernel_rfl) Tryz.func112 rfl (by kernel_rfl) (by kernel_rfl) ?_
 unfold ltT
 simp (implicitDefEqProofs := false) (disch := omega) only [go_sem, simprocAttr]
 with_reducible refine CallOk.of (isNaNc_ok a) rfl ?_
 simp (implicitDefEqProofs := false) (disch := omega) only [go_sem, simprocAttr]
def posT (l : List ByteArray) (t : ByteArray) : Nat := (l.takeWhile fun s => ltT s t).length
def foundT (l : List ByteArray) (t : ByteArray) : Bool := decide (posT l t < l.length) && decide (l.getD (posT l t) ByteArray.empty = t)
def SortT (l : List ByteArray) : Prop := l.Pairwise fun a b => ltT a b = true
theorem posT_le (l : List ByteArray) (t : ByteArray) : posT l t <= l.length := (List.takeWhile_sublist _).length_le
theorem posT_of {l : List ByteArray} {t : ByteArray} {i : Nat} (hi : i <= l.length) (h1 : ∀ k, k < i -> ltT (l.getD k ByteArray.empty) t = true) (h2 : i < l.length -> ltT (l.getD i ByteArray.empty) t = false) : posT l t = i := by
 unfold posT
 induction l generalizing i with
 | nil => simp at hi ⊢; omega
 | cons x r ih =>
  cases i with
  | zero =>
   have := h2 (by simp)
   simp at this
   rw [List.takeWhile_cons, this]
   rfl
  | succ i =>
   have h0 := h1 0 (by omega)
   simp at h0
   rw [List.takeWhile_cons, h0]
   simp only [if_true, List.length_cons]
   rw [ih (i := i) (by simp at hi; omega) (fun k hk => by have := h1 (k + 1) (by omega); simpa using this) (fun hk => by have := h2 (by simp; omega); simpa using this)]
theorem SortT.get {l : List ByteArray} (h : SortT l) {i j : Nat} (hij : i < j) (hj : j < l.length) : ltT (l.getD i ByteArray.empty) (l.getD j ByteArray.empty) = true := by
 have := List.pairwise_iff_getElem.1 h i j (by omega) hj hij
 rw [List.getD_eq_getElem?_getD, List.getD_eq_getElem?_getD, List.getElem?_eq_getElem (by omega), List.getElem?_eq_getElem hj]
 exact this
set_option maxHeartbeats 4000000 in
theorem bs_ok (l : List ByteArray) (t : ByteArray) (hs : SortT l) (hl : l.length <= 1000000000) : Ok Tryz.prog 96 [.sl (encT l), vS t] (.tup [vI (posT l t), vB (foundT l t)]) := by
 refine Ok.of_pwp (by kernel_rfl) Tryz.func96 rfl (by kernel_rfl) (by kernel_rfl) ?_
 simp (implicitDefEqProofs := false) (disch := omega) only [go_sem, simprocAttr]
 refine p_loop (ι := { p : Nat × Nat // p.1 <= p.2 /\ p.2 <= l.length /\ (∀ k, k < p.1 -> ltT (l.getD k ByteArray.empty) t = true) /\ (∀ k, p.2 <= k -> k < l.length -> ltT (l.getD k ByteArray.empty) t = false) })
  (fun p => ⟨[(7, vI p.1.1), (8, vI p.1.2), (6, vI l.length), (0, .sl (encT l)), (1, vS t)], [], [], 0, 0⟩) (fun p => p.1.2 - p.1.1) ⟨(0, l.length), Nat.zero_le _, Nat.le_refl _, fun k h => absurd h (Nat.not_lt_zero _), fun k h h' => absurd h' (by simp only at h; omega)⟩ ?_ ?_
 ·constructor <;> simp only [go_sem, simprocAttr, decide_eq_true_eq, Int.natCast_zero] <;> try ((repeat' apply And.intro) <;> first | rfl | omega | (congr 3; omega) | (congr 2; omega))
 ·rintro ⟨⟨i, j⟩, h1, h2, h3, h4⟩
  simp only at h1 h2 h3 h4 ⊢
  simp (implicitDefEqProofs := false) (disch := omega) only [go_sem, simprocAttr]
  with_reducible refine ifK_split (fun hlt => ?_) (fun hge => ?_)
  ·have hw1 : IntKind.wrap .u64 ((i : Int) + (j : Int)) = (i : Int) + (j : Int) := by rw [IntKind.wrap_u64]; omega
   have hd : ((i : Int) + (j : Int)).fdiv (2 ^ min 1 64) = (((i + j) / 2 : Nat) : Int) := by
    have : ((2 : Int) ^ min 1 64) = 2 := by decide
    rw [this, Int.fdiv_eq_ediv_of_nonneg _ (by decide)]
    omega
   have hm1 : (i + j) / 2 < j := by omega
   have hm0 : i <= (i + j) / 2 := by omega
   simp (implicitDefEqProofs := false) (disch := omega) only [go_sem, simprocAttr, hw1, hd]
   generalize hq : (i + j) / 2 = m at *
   have hml : m < l.length := by omega
   simp (implicitDefEqProofs := false) (disch := omega) only [go_sem, simprocAttr, hw1, hd]
   with_reducible refine CallOk.of (lessT_ok (l.getD m ByteArray.empty) t) rfl ?_
   simp (implicitDefEqProofs := false) (disch := omega) only [go_sem, simprocAttr]
   cases hc : ltT (l.getD m ByteArray.empty) t with
   | true =>
    simp (implicitDefEqProofs := false) (disch := omega) only [go_sem, simprocAttr]
    refine ⟨⟨(m + 1, j), by simp only; omega, h2, fun k hk => ?_, h4⟩, by simp only; omega, ?_⟩
    ·simp only at hk
     rcases Nat.lt_or_eq_of_le (Nat.le_of_lt_succ hk) with h | h
     ·exact ltT_trans (hs.get h hml) hc
     ·rw [h]; exact hc
    ·constructor <;> simp only [go_sem, simprocAttr, decide_eq_true_eq, Int.natCast_add, Int.natCast_one] <;> try ((repeat' apply And.intro) <;> first | rfl | omega | (congr 3; omega) | (congr 2; omega))
   | false =>
    simp (implicitDefEqProofs := false) (disch := omega) only [go_sem, simprocAttr]
    refine ⟨⟨(i, m), by simp only; omega, by simp only; omega, h3, fun k hk hkl => ?_⟩, by simp only; omega, ?_⟩
    ·simp only at hk
     rcases Nat.lt_or_eq_of_le hk with h | h
     ·cases hx : ltT (l.getD k ByteArray.empty) t with
      | false => rfl
      | true => rw [ltT_trans (hs.get h hkl) hx] at hc; cases hc
     ·rw [<- h]; exact hc
    ·constructor <;> simp only [go_sem, simprocAttr, decide_eq_true_eq] <;> try ((repeat' apply And.intro) <;> first | rfl | omega | (congr 3; omega) | (congr 2; omega))
  ·have hij : i = j := by omega
   subst hij
   have hp : posT l t = i := posT_of h2 h3 (fun h => h4 i (Nat.le_refl _) h)
   unfold foundT
   rw [hp]
   by_cases hi : i < l.length
   ·simp (implicitDefEqProofs := false) (disch := omega) only [go_sem, simprocAttr]
    by_cases he : l.getD i ByteArray.empty = t
    ·rw [he, decide_eq_true hi, decide_eq_true rfl, Bool.and_self]
     simp (implicitDefEqProofs := false) (disch := omega) only [go_sem, simprocAttr]
    ·rw [decide_eq_true hi, decide_eq_false he, Bool.and_false]
     simp (implicitDefEqProofs := false) (disch := omega) only [go_sem, simprocAttr]
     with_reducible refine CallOk.of (isNaNs_ok (l.getD i ByteArray.empty)) rfl ?_
     simp (implicitDefEqProofs := false) (disch := omega) only [go_sem, simprocAttr]
   ·rw [decide_eq_false hi, Bool.false_and]
    simp (implicitDefEqProofs := false) (disch := omega) only [go_sem, simprocAttr]
end Go.Proofs.YtcgmpcbkndpmbaaGreatDoor

end
section
open Go Go.Proofs Go.Pw Go.RowKit
namespace Go.Proofs.YtcgmpcbkndpmbaaGreatDoor
set_option maxRecDepth 4000
set_option linter.unusedVariables false
set_option linter.unusedSimpArgs false
attribute [local go_sem] Nat.le_refl Tryz.results111 Tryz.results44 Tryz.results94 Tryz.results95
def isT (s : ByteArray) : Bool := decide ((scan s 0).2 = s.size)
def fewT (l : List ByteArray) : Prop := ∀ s ∈ l, s.size <= 1000000
theorem fewT.get {l : List ByteArray} (h : fewT l) (i : Nat) : (l.getD i ByteArray.empty).size <= 1000000 := by
 by_cases hi : i < l.length
 ·rw [List.getD_eq_getElem?_getD, List.getElem?_eq_getElem hi]; exact h _ (List.getElem_mem hi)
 ·rw [List.getD_eq_getElem?_getD, List.getElem?_eq_none (by omega)]; exact Nat.zero_le _
theorem text_ok (s : ByteArray) (hs : s.size <= 1000000) : Ok Tryz.prog 44 [vS s] (vB (isT s)) := by
 refine Ok.of_pwp (by kernel_rfl) Tryz.func44 rfl (by kernel_rfl) (by kernel_rfl) ?_
 have v := valid_ok s hs
 unfold isT
 unfold validF at v
 by_cases h : (scan s 0).2 = s.size
 ·rw [if_pos h] at v
  rw [decide_eq_true h]
  simp (implicitDefEqProofs := false) (disch := omega) only [go_sem, simprocAttr]
  with_reducible refine CallOk.of (v) rfl ?_
  simp (implicitDefEqProofs := false) (disch := omega) only [go_sem, simprocAttr]
 ·rw [if_neg h] at v
  rw [decide_eq_false h]
  simp (implicitDefEqProofs := false) (disch := omega) only [go_sem, simprocAttr]
  with_reducible refine CallOk.of (v) rfl ?_
  simp (implicitDefEqProofs := false) (disch := omega) only [go_sem, simprocAttr]
theorem o1_ok (s : ByteArray) (hs : s.size <= 1000000) : Ok Tryz.prog 95 [vS s] (vB (!isT s)) := by
 refine Ok.of_pwp (by kernel_rfl) Tryz.func95 rfl (by kernel_rfl) (by kernel_rfl) ?_
 simp (implicitDefEqProofs := false) (disch := omega) only [go_sem, simprocAttr]
 with_reducible refine CallOk.of (text_ok s hs) rfl ?_
 simp (implicitDefEqProofs := false) (disch := omega) only [go_sem, simprocAttr]
def idxT (l : List ByteArray) : Int := if l.any (fun s => !isT s) = true then (l.findIdx (fun s => !isT s) : Int) else -1
theorem take_snocG {α : Type} {a : List α} {d : α} {k : Nat} (h : k < a.length) : a.take (k + 1) = a.take k ++ [a.getD k d] := by
 rw [List.take_succ_eq_append_getElem h, List.getD_eq_getElem?_getD, List.getElem?_eq_getElem h]; rfl
set_option maxHeartbeats 4000000 in
theorem idxS_ok (l : List ByteArray) (hf : fewT l) (hl : l.length <= 140737488351232) : Ok Tryz.prog 111 [.sl (encT l), .fn 95 []] (vI (idxT l)) := by
 refine Ok.of_pwp (by kernel_rfl) Tryz.func111 rfl (by kernel_rfl) (by kernel_rfl) ?_
 generalize hr : idxT l = rr
 simp (implicitDefEqProofs := false) (disch := omega) only [go_sem, simprocAttr]
 refine p_loop (ι := { i : Nat // i <= l.length /\ (l.take i).any (fun s => !isT s) = false }) (fun p => ⟨[(8, vI p.1), (7, vI l.length), (0, .sl (encT l)), (1, .fn 95 [])], [], [], 0, 0⟩) (fun p => l.length - p.1) ⟨0, Nat.zero_le _, rfl⟩ ?_ ?_
 ·constructor <;> simp only [go_sem, simprocAttr, decide_eq_true_eq, Int.natCast_zero] <;> try ((repeat' apply And.intro) <;> first | rfl | omega | (congr 3; omega) | (congr 2; omega))
 ·rintro ⟨i, h1, h2⟩
  simp only
  simp (implicitDefEqProofs := false) (disch := omega) only [go_sem, simprocAttr]
  with_reducible refine ifK_split (fun hlt => ?_) (fun hge => ?_)
  ·have hi : i < l.length := by omega
   simp (implicitDefEqProofs := false) (disch := omega) only [go_sem, simprocAttr]
   with_reducible refine CallOk.of (o1_ok (l.getD i ByteArray.empty) (hf.get i)) rfl ?_
   have eg : l.getD i ByteArray.empty = l[i] := by rw [List.getD_eq_getElem?_getD, List.getElem?_eq_getElem hi]; rfl
   cases hw : (!isT (l.getD i ByteArray.empty)) with
   | true =>
    simp (implicitDefEqProofs := false) (disch := omega) only [go_sem, simprocAttr]
    rw [<- hr, idxT, if_pos (List.any_eq_true.2 ⟨l[i], List.getElem_mem hi, by rw [<- eg]; exact hw⟩)]
    have : l.findIdx (fun s => !isT s) = i := by
     rw [List.findIdx_eq hi]
     refine ⟨by rw [<- eg]; exact hw, fun j hj => ?_⟩
     have := List.any_eq_false.1 h2 (l[j]) (by rw [List.mem_take_iff_getElem]; exact ⟨j, by omega, rfl⟩)
     simpa using this
    rw [this]
   | false =>
    simp (implicitDefEqProofs := false) (disch := omega) only [go_sem, simprocAttr]
    refine ⟨⟨i + 1, by omega, by rw [take_snocG (d := ByteArray.empty) hi, List.any_append, h2, List.any_cons, hw]; rfl⟩, by simp only; omega, ?_⟩
    constructor <;> simp only [go_sem, simprocAttr, decide_eq_true_eq, Int.natCast_add, Int.natCast_one] <;> try ((repeat' apply And.intro) <;> first | rfl | omega | (congr 3; omega) | (congr 2; omega))
  ·rw [List.take_of_length_le (by omega)] at h2
   simp (implicitDefEqProofs := false) (disch := omega) only [go_sem, simprocAttr]
   rw [<- hr, idxT, h2]
   rfl
theorem contS_ok (l : List ByteArray) (hf : fewT l) (hl : l.length <= 140737488351232) : Ok Tryz.prog 94 [.sl (encT l), .fn 95 []] (vB (l.any fun s => !isT s)) := by
 refine Ok.of_pwp (by kernel_rfl) Tryz.func94 rfl (by kernel_rfl) (by kernel_rfl) ?_
 simp (implicitDefEqProofs := false) (disch := omega) only [go_sem, simprocAttr]
 with_reducible refine CallOk.of (idxS_ok l hf hl) rfl ?_
 cases h : l.any (fun s => !isT s) with
 | true =>
  have e : idxT l = (l.findIdx (fun s => !isT s) : Int) := by rw [idxT, h]; rfl
  rw [e]
  simp (implicitDefEqProofs := false) (disch := omega) only [go_sem, simprocAttr]
  rw [decide_eq_true (by omega)]
 | false =>
  have e : idxT l = -1 := by rw [idxT, h]; rfl
  rw [e]
  simp (implicitDefEqProofs := false) (disch := omega) only [go_sem, simprocAttr]
end Go.Proofs.YtcgmpcbkndpmbaaGreatDoor

end
section
open Go Go.Proofs Go.RowKit
namespace Go.Proofs.YtcgmpcbkndpmbaaGreatDoor
set_option maxRecDepth 4000
set_option linter.unusedVariables false
set_option linter.unusedSimpArgs false
theorem run_copy_cellsN {P : Program} (w : World) (dT sT ty elem : TypeId) (sz b o dLen dCap : Nat) (a : Addr) (sLen sCap : Nat) (cs : List Value)
  (hu : P.underlying dT = some (.slice elem)) (hs : (P.info? elem).map (·.size) = some sz) (hn : cs.length = Nat.min sLen dLen * sz)
  (hsrc : ∀ j v, cs[j]? = some v -> w.cell? (a.add j) = some v) (hc : ∀ j, j < cs.length -> (w.cell? ⟨b, o + j, none⟩).isSome = true) (hf : ∀ j, j < cs.length -> w.frozen? ⟨b, o + j, none⟩ = false) (h1 : ∀ v ∈ cs, v.oneCell' = true) :
  (Builtin.copy_ #[dT, sT] ty #[.slice (some ⟨b, o, none⟩) dLen dCap, .slice (some a) sLen sCap]).run P w = .ok (goInt (Nat.min sLen dLen)) (w.setCells b o cs) := by
 have hl := run_loadCells_list (P := P) w a cs hsrc
 have hst := run_storeCells_cells (P := P) b o cs 0 w (by simpa using hc) (by simpa using hf) h1
 cases hq : P.info? elem with
 | none => simp [hq] at hs
 | some i =>
  have hi : i.size = sz := by simpa [hq] using hs
  simp [Builtin.copy_, run_underlying hu, Builtin.lenOf, Builtin.firstCells, sizeOf, typeInfo, hq, hi, <- hn, hl, hst]
end Go.Proofs.YtcgmpcbkndpmbaaGreatDoor

end
section
open Go Go.Proofs Go.RowKit Go.Lib
namespace Go.Proofs.YtcgmpcbkndpmbaaGreatDoor
set_option maxRecDepth 4000
set_option linter.unusedVariables false
set_option linter.unusedSimpArgs false
theorem insS_info : ∃ i0, Tryz.prog.info? 9 = some i0 /\ i0.zero = some (.string ⟨#[]⟩) /\ i0.size = 1 /\ i0.bytes = 16 := ⟨_, rfl, rfl, rfl, rfl⟩
set_option maxHeartbeats 4000000 in
set_option maxRecDepth 100000 in
theorem insS_shift (b off n c i vb voff m vc : Nat) (cs vs : List Value) (w : World) (hi : i < n) (hm : 0 < m) (hroom : n + m <= c) (hc63 : c <= 9223372036854775807) (hvb : vb ≠ b)
  (hcl : cs.length = n) (hvl : vs.length = m)
  (hcs : ∀ j v, cs[j]? = some v -> w.cell? ⟨b, off + j, none⟩ = some v) (hsp : ∀ j, j < (n + m) -> (w.cell? ⟨b, off + j, none⟩).isSome = true) (hfz : ∀ j, j < (n + m) -> w.frozen? ⟨b, off + j, none⟩ = false)
  (hvs : ∀ j v, vs[j]? = some v -> w.cell? ⟨vb, voff + j, none⟩ = some v) (h1c : ∀ v ∈ cs, v.oneCell' = true) (h1v : ∀ v ∈ vs, v.oneCell' = true)
  (tA tB : TypeId) (kA kB : Nat) (hsa : w.shape? vb = some (tA, kA)) (hsb : w.shape? b = some (tB, kB)) (hkB : kB ≠ 0) (hfa : w.frozen? ⟨vb, voff, none⟩ = false) (hfe : w.frozen? ⟨vb, kA, none⟩ = false) :
  Calls Tryz.prog 97 #[.slice (some ⟨b, off, none⟩) n c, .int .i64 i, .slice (some ⟨vb, voff, none⟩) m vc] w fun e w' =>
   e = .returned (.slice (some ⟨b, off, none⟩) (n + m) c) /\ w' = (w.drew.setCells b (off + (i + m)) (cs.drop (i))).setCells b (off + i) vs := by
 have hz1 : ¬ ((m : Int) = 0) := by omega
 have hz2 : ¬ ((i : Int) = (n : Int)) := by omega
 obtain ⟨i0, hi0, hz0, hzs, hzb⟩ := insS_info
 have hsz : (Tryz.prog.info? 9).map (·.size) = some 1 := by rw [hi0]; simp [hzs]
 have hov : ∀ lb cb, (callFunc 114 #[.slice (some ⟨vb, voff, none⟩) m vc, .slice (some ⟨b, off + (i + m), none⟩) lb cb]).run Tryz.prog w = .ok (.value (.bool false)) w := fun lb cb => by
  rw [run_callFunc_extern Tryz.func114 (by kernel_rfl) (by kernel_rfl) (by kernel_rfl) (e := Extern.SlicesOverlaps.overlaps #[26, 26] #[4]) (by kernel_rfl),
   Lib.run_overlaps_apart w 26 4 9 Tryz.underlying26 1 (fun w => by simp [sizeOf, typeInfo, hi0, hzs]) ⟨vb, voff, none⟩ ⟨b, off + (i + m), none⟩ m vc lb cb hvb tA tB kA kB hsa hsb hkB hfa hfe]
  rfl
 have hdl : (cs.drop (i)).length = (n - i) := by have := List.length_drop (i := i) (l := cs); omega
 have mixed : Tryz.prog.follows .mixedOrders = true := by kernel_rfl
 have hw1 : IntKind.i64.wrap ((i : Int) + (m : Int)) = (i : Int) + (m : Int) := by rw [IntKind.wrap_i64]; omega
 have hb1 : (0 : Int) <= (i : Int) + (m : Int) := by omega
 have hin : i <= n := by omega
 have htn : ((i : Int) + (m : Int)).toNat = i + m := by omega
 have hb2 : ¬ (c = i + m) := by omega
 have hb3 : (i : Int) <= (n : Int) + (m : Int) := by omega
 have hb4 : ¬ (c = i) := by omega
 have hcp1 : ∀ ty dc sc, (Builtin.copy_ #[26, 26] ty #[.slice (some ⟨b, off + (i + m), none⟩) (n + m - (i + m)) dc, .slice (some ⟨b, off + i, none⟩) (n + m - i) sc]).run Tryz.prog w.drew = .ok (goInt (Nat.min (n + m - i) (n + m - (i + m)))) (w.drew.setCells b (off + (i + m)) (cs.drop (i))) := fun ty dc sc =>
  run_copy_cellsN w.drew _ _ ty 9 1 b (off + (i + m)) (n + m - (i + m)) dc ⟨b, off + i, none⟩ (n + m - i) sc (cs.drop (i)) Tryz.underlying26 hsz (by rw [hdl]; simp only [Nat.min_def]; split <;> omega)
   (fun j v hj => by rw [Addr.add_lit, Nat.add_assoc]; exact hcs (i + j) v (by rwa [List.getElem?_drop] at hj))
   (fun j hj => by rw [Nat.add_assoc]; exact hsp _ (by omega)) (fun j hj => by rw [Nat.add_assoc]; exact hfz _ (by omega)) (fun v hv => h1c v (List.mem_of_mem_drop hv))
 obtain ⟨W1, hW1⟩ : ∃ W1, W1 = w.drew.setCells b (off + (i + m)) (cs.drop (i)) := ⟨_, rfl⟩
 have hsp1 : ∀ k, k < (n + m) -> (W1.cell? ⟨b, off + k, none⟩).isSome = true := fun k hk => by
  rw [hW1]
  exact isSome_setCells b _ _ _ (fun j hj => by rw [Nat.add_assoc]; exact hsp _ (by omega)) _ (hsp k hk)
 have hcp2 : ∀ (W : World), (∀ x, W.cell? x = W1.cell? x) -> (∀ x, W.frozen? x = W1.frozen? x) -> ∀ ty dc, (Builtin.copy_ #[26, 26] ty #[.slice (some ⟨b, off + i, none⟩) (n + m - i) dc, .slice (some ⟨vb, voff, none⟩) m vc]).run Tryz.prog W = .ok (goInt (Nat.min m (n + m - i))) (W.setCells b (off + i) vs) := fun W hWc hWf ty dc =>
  run_copy_cellsN W _ _ ty 9 1 b (off + i) (n + m - i) dc ⟨vb, voff, none⟩ m vc vs Tryz.underlying26 hsz (by rw [hvl]; simp only [Nat.min_def]; split <;> omega)
   (fun j v hj => by
    rw [Addr.add_lit, hWc, hW1, World.cell?_setCells_out b _ _ _ _ (fun h _ => absurd h hvb)]
    exact hvs j v hj)
   (fun j hj => by rw [hWc, Nat.add_assoc]; exact hsp1 _ (by omega)) (fun j hj => by rw [hWf, hW1, World.frozen?_setCells, Nat.add_assoc]; exact hfz _ (by omega)) h1v
 rw [<- hW1] at hcp1
 go_enter Tryz.func97, Tryz.ntmps97
 go_wp2_with (simp only [hov])
 go_region_law_o (refine step_copy_runI rfl _ _ 26 26 rfl _ _ (by simp [Act.eval, Act.put]) (by simp [Act.eval, Act.put]) (hcp1 _ _ _) ?_)
 go_wp2_with (at_builtin; refine wpList_copy_runI _ rfl _ _ 26 26 rfl _ _ rfl rfl (hcp2 _ (fun _ => rfl) (fun _ => rfl) _ _) ?_)
 go_ret
 first | exact ⟨rfl, rfl⟩ | exact ⟨rfl, by rw [hW1]⟩
set_option maxHeartbeats 4000000 in
set_option maxRecDepth 100000 in
theorem insS_end_room (b off n c vb voff m vc : Nat) (vs : List Value) (w : World) (hm : 0 < m) (hroom : n + m <= c) (hc63 : c <= 9223372036854775807)
  (hvl : vs.length = m) (hsp : ∀ j, j < m -> (w.cell? ⟨b, off + n + j, none⟩).isSome = true) (hfz : ∀ j, j < m -> w.frozen? ⟨b, off + n + j, none⟩ = false)
  (hvs : ∀ j v, vs[j]? = some v -> w.cell? ⟨vb, voff + j, none⟩ = some v) (h1v : ∀ v ∈ vs, v.oneCell' = true) :
  Calls Tryz.prog 97 #[.slice (some ⟨b, off, none⟩) n c, .int .i64 n, .slice (some ⟨vb, voff, none⟩) m vc] w fun e w' =>
   e = .returned (.slice (some ⟨b, off, none⟩) (n + m) c) /\ w' = w.setCells b (off + n) vs := by
 have mixed : Tryz.prog.follows .mixedOrders = true := by kernel_rfl
 obtain ⟨i0, hi0, hz0, hzs, hzb⟩ := insS_info
 have hz1 : ¬ ((m : Int) = 0) := by omega
 have hsrc : Src Tryz.prog i0.size 26 (.slice (some ⟨vb, voff, none⟩) m vc) m vs w := by
  rw [hzs]
  exact Src.ofSlice w Tryz.underlying26 ⟨vb, voff, none⟩ m vc vs (by omega) (fun j u hj => by rw [Addr.add_lit]; exact hvs j u hj) h1v
 have hrun : ∀ ty, (Builtin.append_ #[26, 26] ty #[.slice (some ⟨b, off, none⟩) n c, .slice (some ⟨vb, voff, none⟩) m vc]).run Tryz.prog w = .ok (.slice (some ⟨b, off, none⟩) (n + m) c) (w.setCells b (off + n) vs) := fun ty => by
  have := run_append_room_src w 26 26 ty 9 i0 Tryz.underlying26 hi0 b off n c _ m vs hsrc hroom (by simp only [hzs, hvl, Nat.mul_one]; exact hsp) (by simp only [hzs, hvl, Nat.mul_one]; exact hfz)
  simp only [hzs, Nat.mul_one] at this
  exact this
 go_enter Tryz.func97, Tryz.ntmps97
 go_wp2_with (at_builtin; refine Lib.wpList_append_run _ rfl _ _ _ _ rfl _ _ rfl rfl _ _ (hrun _) ?_)
 go_ret
 exact ⟨rfl, rfl⟩
set_option maxHeartbeats 4000000 in
set_option maxRecDepth 100000 in
theorem insS_end_grow (base : Option Addr) (n c vb voff m vc : Nat) (cs vs : List Value) (w : World) (hm : 0 < m) (hnc : n <= c) (hroom : c < n + m) (hbig : (n + m) * 16 <= 140737488355328)
  (hcl : cs.length = n) (hvl : vs.length = m) (hnil : base = none -> n = 0)
  (hcs : ∀ a, base = some a -> ∀ j v, cs[j]? = some v -> w.cell? (a.add j) = some v)
  (hvs : ∀ j v, vs[j]? = some v -> w.cell? ⟨vb, voff + j, none⟩ = some v) (h1v : ∀ v ∈ vs, v.oneCell' = true) :
  Calls Tryz.prog 97 #[.slice base n c, .int .i64 n, .slice (some ⟨vb, voff, none⟩) m vc] w fun e w' =>
   e = .returned (.slice (some ⟨w.heap.size, 0, none⟩) (n + m) (grownCap w (n + m) c 9)) /\
   w' = w.drew.alloc (.cells ((cs ++ vs).toArray ++ Builtin.zeroCells (.string ⟨#[]⟩ : Value).cells (grownCap w (n + m) c 9 - (n + m))) 9) := by
 have mixed : Tryz.prog.follows .mixedOrders = true := by kernel_rfl
 obtain ⟨i0, hi0, hz0, hzs, hzb⟩ := insS_info
 have hz1 : ¬ ((m : Int) = 0) := by omega
 have hsrc : Src Tryz.prog i0.size 26 (.slice (some ⟨vb, voff, none⟩) m vc) m vs w := by
  rw [hzs]
  exact Src.ofSlice w Tryz.underlying26 ⟨vb, voff, none⟩ m vc vs (by omega) (fun j u hj => by rw [Addr.add_lit]; exact hvs j u hj) h1v
 have hold : (Builtin.firstCells i0.size n (.slice base n c)).run Tryz.prog w.drew = .ok cs.toArray w.drew := by
  rw [hzs]
  cases base with
  | none =>
   have h0 := hnil rfl
   subst h0
   have hc0 : cs = [] := List.length_eq_zero_iff.1 (by omega)
   rw [hc0]
   exact run_firstCells_none w.drew 1 0 0 c
  | some a => exact run_firstCells_some w.drew 1 n a n c cs (by omega) (fun j v hj => hcs a rfl j v hj)
 have hrun : ∀ ty, (Builtin.append_ #[26, 26] ty #[.slice base n c, .slice (some ⟨vb, voff, none⟩) m vc]).run Tryz.prog w = _ := fun ty =>
  run_append_grow_src w 26 26 ty 9 i0 _ Tryz.underlying26 hi0 hz0 base n c cs hold _ m vs hsrc hroom (by omega) (by rw [hzb]; exact growslice_fits hroom hbig)
 go_enter Tryz.func97, Tryz.ntmps97
 cases base with
 | none =>
  have h0 := hnil rfl
  subst h0
  go_wp2_with (at_builtin; refine Lib.wpList_append_run _ rfl _ _ _ _ rfl _ _ rfl rfl _ _ (hrun _) ?_)
  go_ret
  exact ⟨rfl, rfl⟩
 | some a =>
  obtain ⟨ab, ao, asp⟩ := a
  go_wp2_with (at_builtin; refine Lib.wpList_append_run _ rfl _ _ _ _ rfl _ _ rfl rfl _ _ (hrun _) ?_)
  all_goals (go_ret; exact ⟨rfl, rfl⟩)
set_option maxHeartbeats 4000000 in
set_option maxRecDepth 100000 in
theorem insS_grow (b off n c i vb voff m vc : Nat) (cs vs : List Value) (w : World) (hi : i < n) (hm : 0 < m) (hnc : n <= c) (hroom : c < n + m) (hbig : (n + m) * 16 <= 140737488355328)
  (hcl : cs.length = n) (hvl : vs.length = m)
  (hcs : ∀ j v, cs[j]? = some v -> w.cell? ⟨b, off + j, none⟩ = some v)
  (hvs : ∀ j v, vs[j]? = some v -> w.cell? ⟨vb, voff + j, none⟩ = some v) (h1c : ∀ v ∈ cs, v.oneCell' = true) (h1v : ∀ v ∈ vs, v.oneCell' = true) :
  Calls Tryz.prog 97 #[.slice (some ⟨b, off, none⟩) n c, .int .i64 i, .slice (some ⟨vb, voff, none⟩) m vc] w fun e w' =>
   e = .returned (.slice (some ⟨w.heap.size, 0, none⟩) (n + m) (grownCap w (n + m) c 9)) /\
   w' = (((w.alloc (.cells ((cs.take (i)).toArray ++ Builtin.zeroCells (.string ⟨#[]⟩ : Value).cells (n + m - i) ++ Builtin.zeroCells (.string ⟨#[]⟩ : Value).cells (grownCap w (n + m) c 9 - (n + m))) 9)).drew.setCells w.heap.size (i) vs).drew).setCells w.heap.size ((i + m)) (cs.drop (i)) := by
 have mixed : Tryz.prog.follows .mixedOrders = true := by kernel_rfl
 obtain ⟨i0, hi0, hz0, hzs, hzb⟩ := insS_info
 have hz1 : ¬ ((m : Int) = 0) := by omega
 have hz2 : ¬ ((i : Int) = (n : Int)) := by omega
 have hz3 : (c : Int) < (n : Int) + (m : Int) := by omega
 have hsz : (Tryz.prog.info? 9).map (·.size) = some 1 := by rw [hi0]; simp [hzs]
 have hbw : b < w.heap.size := block_lt_of_cell (hcs 0 _ (List.getElem?_eq_getElem (by omega)))
 have hvw : vb < w.heap.size := block_lt_of_cell (hvs 0 _ (List.getElem?_eq_getElem (by omega)))
 have hkk : (n : Int) + (m : Int) - (i : Int) = ((n + m - i : Nat) : Int) := by omega
 have hik : i + (n + m - i) = n + m := by omega
 have hold : (Builtin.firstCells i0.size i (.slice (some ⟨b, off, none⟩) i c)).run Tryz.prog w.drew = .ok (cs.take (i)).toArray w.drew := by
  rw [hzs]
  exact run_firstCells_some w.drew 1 i ⟨b, off, none⟩ i c (cs.take (i)) (by rw [List.length_take]; omega) (fun j v hj => by
   rw [Addr.add_lit]
   rw [List.getElem?_take] at hj
   split at hj
   ·exact hcs j v hj
   ·cases hj)
 have hrz : ∀ ty, (Builtin.append_ #[26, 3] ty #[.slice (some ⟨b, off, none⟩) i c, .int .i64 ((n : Int) + (m : Int) - (i : Int))]).run Tryz.prog w =
   .ok (.slice (some ⟨w.heap.size, 0, none⟩) (n + m) (grownCap w (n + m) c 9)) (w.drew.alloc (.cells ((cs.take (i)).toArray ++ Builtin.zeroCells (.string ⟨#[]⟩ : Value).cells (n + m - i) ++ Builtin.zeroCells (.string ⟨#[]⟩ : Value).cells (grownCap w (n + m) c 9 - (n + m))) 9)) := fun ty => by
  have h := Lib.run_append_grow_zeros w 26 3 ty 9 i0 _ .i64 .i64 Tryz.underlying26 Tryz.underlying3 hi0 hz0 (some ⟨b, off, none⟩) i c (cs.take (i)) hold (n + m - i) (by omega) (by omega) (by omega) (by omega) (by rw [hzb]; omega) (by rw [hzb, hik]; exact growslice_fits hroom hbig)
  rw [hik] at h
  rw [hkk]
  exact h
 obtain ⟨G, hG⟩ : ∃ G, G = grownCap w (n + m) c 9 := ⟨_, rfl⟩
 obtain ⟨ROW, hROW⟩ : ∃ ROW : Array Value, ROW = (cs.take (i)).toArray ++ Builtin.zeroCells (.string ⟨#[]⟩ : Value).cells (n + m - i) ++ Builtin.zeroCells (.string ⟨#[]⟩ : Value).cells (G - (n + m)) := ⟨_, rfl⟩
 rw [<- hG] at hrz ⊢
 rw [<- hROW] at hrz ⊢
 have hRl : (n + m) <= ROW.size := by
  rw [hROW]
  simp [Builtin.zeroCells, Value.cells]
  omega
 obtain ⟨W1, hW1⟩ : ∃ W1, W1 = w.drew.alloc (.cells ROW 9) := ⟨_, rfl⟩
 rw [<- hW1] at hrz
 have hN : ∀ j, j < (n + m) -> (W1.cell? ⟨w.heap.size, j, none⟩).isSome = true := fun j hj => by
  rw [hW1, World.cell?_alloc_at (w := w.drew) ROW _ w.heap.size j rfl, Array.getElem?_eq_getElem (by omega)]; rfl
 have hNf : ∀ j, W1.frozen? ⟨w.heap.size, j, none⟩ = false := fun j => by rw [hW1]; exact World.frozen?_alloc_at (w := w.drew) ROW _ w.heap.size j rfl
 have hOb : ∀ j v, w.cell? ⟨b, j, none⟩ = some v -> W1.cell? ⟨b, j, none⟩ = some v := fun j v h => by rw [hW1, World.cell?_alloc_past (w := w.drew) _ b j hbw]; exact h
 have hOv : ∀ j v, w.cell? ⟨vb, j, none⟩ = some v -> W1.cell? ⟨vb, j, none⟩ = some v := fun j v h => by rw [hW1, World.cell?_alloc_past (w := w.drew) _ vb j hvw]; exact h
 have hcpA : ∀ (W : World), (∀ x, W.cell? x = W1.cell? x) -> (∀ x, W.frozen? x = W1.frozen? x) -> ∀ ty dc, (Builtin.copy_ #[26, 26] ty #[.slice (some ⟨w.heap.size, i, none⟩) (n + m - i) dc, .slice (some ⟨vb, voff, none⟩) m vc]).run Tryz.prog W = .ok (goInt (Nat.min m (n + m - i))) (W.setCells w.heap.size (i) vs) := fun W hWc hWf ty dc =>
  run_copy_cellsN W _ _ ty 9 1 w.heap.size (i) (n + m - i) dc ⟨vb, voff, none⟩ m vc vs Tryz.underlying26 hsz (by rw [hvl]; simp only [Nat.min_def]; split <;> omega)
   (fun j v hj => by rw [Addr.add_lit, hWc]; exact hOv _ v (hvs j v hj))
   (fun j hj => by rw [hWc]; exact hN _ (by omega)) (fun j hj => by rw [hWf]; exact hNf _) h1v
 have hGn : n + m <= G := by rw [hG]; exact grownCap_ge w _ _ _
 have hG63 : G <= 9223372036854775807 := by
  have := grownCap_le_maxLen w (n + m) c 9 (by unfold maxLen; omega)
  rw [<- hG] at this
  unfold maxLen at this
  omega
 have hGi : ¬ (G = i) := by omega
 have hGim : ¬ (G = i + m) := by omega
 have hci : ¬ (c = i) := by omega
 have hbN : b ≠ w.heap.size := by omega
 have hdl : (cs.drop (i)).length = (n - i) := by have := List.length_drop (i := i) (l := cs); omega
 have hcpB : ∀ (W : World), (∀ x, W.cell? x = (W1.setCells w.heap.size (i) vs).cell? x) -> (∀ x, W.frozen? x = (W1.setCells w.heap.size (i) vs).frozen? x) -> ∀ ty dc sc, (Builtin.copy_ #[26, 26] ty #[.slice (some ⟨w.heap.size, (i + m), none⟩) (n + m - (i + m)) dc, .slice (some ⟨b, off + i, none⟩) (n - i) sc]).run Tryz.prog W = .ok (goInt (Nat.min (n - i) (n + m - (i + m)))) (W.setCells w.heap.size ((i + m)) (cs.drop (i))) := fun W hWc hWf ty dc sc =>
  run_copy_cellsN W _ _ ty 9 1 w.heap.size ((i + m)) (n + m - (i + m)) dc ⟨b, off + i, none⟩ (n - i) sc (cs.drop (i)) Tryz.underlying26 hsz (by rw [hdl]; simp only [Nat.min_def]; split <;> omega)
   (fun j v hj => by
    rw [Addr.add_lit, hWc, World.cell?_setCells_out _ _ _ _ _ (fun h _ => absurd h hbN), Nat.add_assoc]
    exact hOb _ v (hcs (i + j) v (by rwa [List.getElem?_drop] at hj)))
   (fun j hj => by rw [hWc]; exact isSome_setCells _ _ _ _ (fun t ht => hN _ (by omega)) _ (hN _ (by omega)))
   (fun j hj => by rw [hWf, World.frozen?_setCells]; exact hNf _) (fun v hv => h1c v (List.mem_of_mem_drop hv))
 subst hW1
 have hE1 : ∀ x, ((w.alloc (.cells ROW 9)).drew).cell? x = (w.drew.alloc (.cells ROW 9)).cell? x := fun x => rfl
 have hE2 : ∀ x, ((w.alloc (.cells ROW 9)).drew).frozen? x = (w.drew.alloc (.cells ROW 9)).frozen? x := fun x => rfl
 have hF1 : ∀ x, (((w.alloc (.cells ROW 9)).drew.setCells w.heap.size (i) vs).drew).cell? x = ((w.drew.alloc (.cells ROW 9)).setCells w.heap.size (i) vs).cell? x := fun x => rfl
 have hF2 : ∀ x, (((w.alloc (.cells ROW 9)).drew.setCells w.heap.size (i) vs).drew).frozen? x = ((w.drew.alloc (.cells ROW 9)).setCells w.heap.size (i) vs).frozen? x := fun x => rfl
 have hw1 : IntKind.i64.wrap ((i : Int) + (m : Int)) = (i : Int) + (m : Int) := by rw [IntKind.wrap_i64]; omega
 have hb1 : (0 : Int) <= (i : Int) + (m : Int) := by omega
 have hin : i <= n := by omega
 have htn : ((i : Int) + (m : Int)).toNat = i + m := by omega
 have hb3 : (i : Int) <= (n : Int) := by omega
 clear hkk hik hold hROW hG hRl
 go_enter Tryz.func97, Tryz.ntmps97
 go_wp2_with (first
  |(at_builtin; refine Lib.wpList_append_run _ rfl _ _ _ _ rfl _ _ rfl rfl _ _ (hrz _) ?_)
  |(at_builtin; refine wpList_copy_runI _ rfl _ _ 26 26 rfl _ _ rfl rfl (hcpA _ hE1 hE2 _ _) ?_)
  |(at_builtin; refine wpList_copy_runI _ rfl _ _ 26 26 rfl _ _ rfl rfl (hcpB _ (fun _ => rfl) (fun _ => rfl) _ _ _) ?_))
 go_region_law_o (refine step_copy_runI rfl _ _ 26 26 rfl (.slice (some ⟨w.heap.size, (i + m), none⟩) (n + m - (i + m)) (G - (i + m))) (.slice (some ⟨b, off + i, none⟩) (n - i) (c - i)) (by simp [Act.eval, Act.put]) (by simp [Act.eval, Act.put]) (hcpB _ hF1 hF2 3 (G - (i + m)) (c - i)) ?_)
 go_wp2
 go_ret
 exact ⟨rfl, rfl⟩
end Go.Proofs.YtcgmpcbkndpmbaaGreatDoor

end
section
open Go Go.Proofs Go.RowKit Go.Lib
namespace Go.Proofs.YtcgmpcbkndpmbaaGreatDoor
set_option maxRecDepth 4000
set_option linter.unusedVariables false
set_option linter.unusedSimpArgs false
theorem insV_info : ∃ i0, Tryz.prog.info? 33 = some i0 /\ i0.zero = some (.agg #[.int .i64 0, .bool false, .int .i64 0, .string ⟨#[]⟩, .slice none 0 0, .slice none 0 0]) /\ i0.size = 6 /\ i0.bytes = 88 := ⟨_, rfl, rfl, rfl, rfl⟩
set_option maxHeartbeats 4000000 in
set_option maxRecDepth 100000 in
theorem insV_shift (b off n c i vb voff m vc : Nat) (cs vs : List Value) (w : World) (hi : i < n) (hm : 0 < m) (hroom : n + m <= c) (hc63 : c <= 9223372036854775807) (hvb : vb ≠ b)
  (hcl : cs.length = n * 6) (hvl : vs.length = m * 6)
  (hcs : ∀ j v, cs[j]? = some v -> w.cell? ⟨b, off + j, none⟩ = some v) (hsp : ∀ j, j < (n + m) * 6 -> (w.cell? ⟨b, off + j, none⟩).isSome = true) (hfz : ∀ j, j < (n + m) * 6 -> w.frozen? ⟨b, off + j, none⟩ = false)
  (hvs : ∀ j v, vs[j]? = some v -> w.cell? ⟨vb, voff + j, none⟩ = some v) (h1c : ∀ v ∈ cs, v.oneCell' = true) (h1v : ∀ v ∈ vs, v.oneCell' = true)
  (tA tB : TypeId) (kA kB : Nat) (hsa : w.shape? vb = some (tA, kA)) (hsb : w.shape? b = some (tB, kB)) (hkB : kB ≠ 0) (hfa : w.frozen? ⟨vb, voff, none⟩ = false) (hfe : w.frozen? ⟨vb, kA, none⟩ = false) :
  Calls Tryz.prog 98 #[.slice (some ⟨b, off, none⟩) n c, .int .i64 i, .slice (some ⟨vb, voff, none⟩) m vc] w fun e w' =>
   e = .returned (.slice (some ⟨b, off, none⟩) (n + m) c) /\ w' = (w.drew.setCells b (off + (i + m) * 6) (cs.drop (i * 6))).setCells b (off + i * 6) vs := by
 have hz1 : ¬ ((m : Int) = 0) := by omega
 have hz2 : ¬ ((i : Int) = (n : Int)) := by omega
 obtain ⟨i0, hi0, hz0, hzs, hzb⟩ := insV_info
 have hsz : (Tryz.prog.info? 33).map (·.size) = some 6 := by rw [hi0]; simp [hzs]
 have hov : ∀ lb cb, (callFunc 116 #[.slice (some ⟨vb, voff, none⟩) m vc, .slice (some ⟨b, off + (i + m) * 6, none⟩) lb cb]).run Tryz.prog w = .ok (.value (.bool false)) w := fun lb cb => by
  rw [run_callFunc_extern Tryz.func116 (by kernel_rfl) (by kernel_rfl) (by kernel_rfl) (e := Extern.SlicesOverlaps.overlaps #[31, 31] #[4]) (by kernel_rfl),
   Lib.run_overlaps_apart w 31 4 33 Tryz.underlying31 6 (fun w => by simp [sizeOf, typeInfo, hi0, hzs]) ⟨vb, voff, none⟩ ⟨b, off + (i + m) * 6, none⟩ m vc lb cb hvb tA tB kA kB hsa hsb hkB hfa hfe]
  rfl
 have hdl : (cs.drop (i * 6)).length = (n - i) * 6 := by have := List.length_drop (i := i * 6) (l := cs); omega
 have mixed : Tryz.prog.follows .mixedOrders = true := by kernel_rfl
 have hw1 : IntKind.i64.wrap ((i : Int) + (m : Int)) = (i : Int) + (m : Int) := by rw [IntKind.wrap_i64]; omega
 have hb1 : (0 : Int) <= (i : Int) + (m : Int) := by omega
 have hin : i <= n := by omega
 have htn : ((i : Int) + (m : Int)).toNat = i + m := by omega
 have hb2 : ¬ (c = i + m) := by omega
 have hb3 : (i : Int) <= (n : Int) + (m : Int) := by omega
 have hb4 : ¬ (c = i) := by omega
 have hcp1 : ∀ ty dc sc, (Builtin.copy_ #[31, 31] ty #[.slice (some ⟨b, off + (i + m) * 6, none⟩) (n + m - (i + m)) dc, .slice (some ⟨b, off + i * 6, none⟩) (n + m - i) sc]).run Tryz.prog w.drew = .ok (goInt (Nat.min (n + m - i) (n + m - (i + m)))) (w.drew.setCells b (off + (i + m) * 6) (cs.drop (i * 6))) := fun ty dc sc =>
  run_copy_cellsN w.drew _ _ ty 33 6 b (off + (i + m) * 6) (n + m - (i + m)) dc ⟨b, off + i * 6, none⟩ (n + m - i) sc (cs.drop (i * 6)) Tryz.underlying31 hsz (by rw [hdl]; simp only [Nat.min_def]; split <;> omega)
   (fun j v hj => by rw [Addr.add_lit, Nat.add_assoc]; exact hcs (i * 6 + j) v (by rwa [List.getElem?_drop] at hj))
   (fun j hj => by rw [Nat.add_assoc]; exact hsp _ (by omega)) (fun j hj => by rw [Nat.add_assoc]; exact hfz _ (by omega)) (fun v hv => h1c v (List.mem_of_mem_drop hv))
 obtain ⟨W1, hW1⟩ : ∃ W1, W1 = w.drew.setCells b (off + (i + m) * 6) (cs.drop (i * 6)) := ⟨_, rfl⟩
 have hsp1 : ∀ k, k < (n + m) * 6 -> (W1.cell? ⟨b, off + k, none⟩).isSome = true := fun k hk => by
  rw [hW1]
  exact isSome_setCells b _ _ _ (fun j hj => by rw [Nat.add_assoc]; exact hsp _ (by omega)) _ (hsp k hk)
 have hcp2 : ∀ (W : World), (∀ x, W.cell? x = W1.cell? x) -> (∀ x, W.frozen? x = W1.frozen? x) -> ∀ ty dc, (Builtin.copy_ #[31, 31] ty #[.slice (some ⟨b, off + i * 6, none⟩) (n + m - i) dc, .slice (some ⟨vb, voff, none⟩) m vc]).run Tryz.prog W = .ok (goInt (Nat.min m (n + m - i))) (W.setCells b (off + i * 6) vs) := fun W hWc hWf ty dc =>
  run_copy_cellsN W _ _ ty 33 6 b (off + i * 6) (n + m - i) dc ⟨vb, voff, none⟩ m vc vs Tryz.underlying31 hsz (by rw [hvl]; simp only [Nat.min_def]; split <;> omega)
   (fun j v hj => by
    rw [Addr.add_lit, hWc, hW1, World.cell?_setCells_out b _ _ _ _ (fun h _ => absurd h hvb)]
    exact hvs j v hj)
   (fun j hj => by rw [hWc, Nat.add_assoc]; exact hsp1 _ (by omega)) (fun j hj => by rw [hWf, hW1, World.frozen?_setCells, Nat.add_assoc]; exact hfz _ (by omega)) h1v
 rw [<- hW1] at hcp1
 go_enter Tryz.func98, Tryz.ntmps98
 go_wp2_with (simp only [hov])
 go_region_law_o (refine step_copy_runI rfl _ _ 31 31 rfl _ _ (by simp [Act.eval, Act.put]) (by simp [Act.eval, Act.put]) (hcp1 _ _ _) ?_)
 go_wp2_with (at_builtin; refine wpList_copy_runI _ rfl _ _ 31 31 rfl _ _ rfl rfl (hcp2 _ (fun _ => rfl) (fun _ => rfl) _ _) ?_)
 go_ret
 first | exact ⟨rfl, rfl⟩ | exact ⟨rfl, by rw [hW1]⟩
set_option maxHeartbeats 4000000 in
set_option maxRecDepth 100000 in
theorem insV_end_room (b off n c vb voff m vc : Nat) (vs : List Value) (w : World) (hm : 0 < m) (hroom : n + m <= c) (hc63 : c <= 9223372036854775807)
  (hvl : vs.length = m * 6) (hsp : ∀ j, j < m * 6 -> (w.cell? ⟨b, off + n * 6 + j, none⟩).isSome = true) (hfz : ∀ j, j < m * 6 -> w.frozen? ⟨b, off + n * 6 + j, none⟩ = false)
  (hvs : ∀ j v, vs[j]? = some v -> w.cell? ⟨vb, voff + j, none⟩ = some v) (h1v : ∀ v ∈ vs, v.oneCell' = true) :
  Calls Tryz.prog 98 #[.slice (some ⟨b, off, none⟩) n c, .int .i64 n, .slice (some ⟨vb, voff, none⟩) m vc] w fun e w' =>
   e = .returned (.slice (some ⟨b, off, none⟩) (n + m) c) /\ w' = w.setCells b (off + n * 6) vs := by
 have mixed : Tryz.prog.follows .mixedOrders = true := by kernel_rfl
 obtain ⟨i0, hi0, hz0, hzs, hzb⟩ := insV_info
 have hz1 : ¬ ((m : Int) = 0) := by omega
 have hsrc : Src Tryz.prog i0.size 31 (.slice (some ⟨vb, voff, none⟩) m vc) m vs w := by
  rw [hzs]
  exact Src.ofSlice w Tryz.underlying31 ⟨vb, voff, none⟩ m vc vs (by omega) (fun j u hj => by rw [Addr.add_lit]; exact hvs j u hj) h1v
 have hrun : ∀ ty, (Builtin.append_ #[31, 31] ty #[.slice (some ⟨b, off, none⟩) n c, .slice (some ⟨vb, voff, none⟩) m vc]).run Tryz.prog w = .ok (.slice (some ⟨b, off, none⟩) (n + m) c) (w.setCells b (off + n * 6) vs) := fun ty => by
  have := run_append_room_src w 31 31 ty 33 i0 Tryz.underlying31 hi0 b off n c _ m vs hsrc hroom (by simp only [hzs, hvl, Nat.mul_one]; exact hsp) (by simp only [hzs, hvl, Nat.mul_one]; exact hfz)
  simp only [hzs, Nat.mul_one] at this
  exact this
 go_enter Tryz.func98, Tryz.ntmps98
 go_wp2_with (at_builtin; refine Lib.wpList_append_run _ rfl _ _ _ _ rfl _ _ rfl rfl _ _ (hrun _) ?_)
 go_ret
 exact ⟨rfl, rfl⟩
set_option maxHeartbeats 4000000 in
set_option maxRecDepth 100000 in
theorem insV_end_grow (base : Option Addr) (n c vb voff m vc : Nat) (cs vs : List Value) (w : World) (hm : 0 < m) (hnc : n <= c) (hroom : c < n + m) (hbig : (n + m) * 88 <= 140737488355328)
  (hcl : cs.length = n * 6) (hvl : vs.length = m * 6) (hnil : base = none -> n = 0)
  (hcs : ∀ a, base = some a -> ∀ j v, cs[j]? = some v -> w.cell? (a.add j) = some v)
  (hvs : ∀ j v, vs[j]? = some v -> w.cell? ⟨vb, voff + j, none⟩ = some v) (h1v : ∀ v ∈ vs, v.oneCell' = true) :
  Calls Tryz.prog 98 #[.slice base n c, .int .i64 n, .slice (some ⟨vb, voff, none⟩) m vc] w fun e w' =>
   e = .returned (.slice (some ⟨w.heap.size, 0, none⟩) (n + m) (grownCap w (n + m) c 33)) /\
   w' = w.drew.alloc (.cells ((cs ++ vs).toArray ++ Builtin.zeroCells (.agg #[.int .i64 0, .bool false, .int .i64 0, .string ⟨#[]⟩, .slice none 0 0, .slice none 0 0] : Value).cells (grownCap w (n + m) c 33 - (n + m))) 33) := by
 have mixed : Tryz.prog.follows .mixedOrders = true := by kernel_rfl
 obtain ⟨i0, hi0, hz0, hzs, hzb⟩ := insV_info
 have hz1 : ¬ ((m : Int) = 0) := by omega
 have hsrc : Src Tryz.prog i0.size 31 (.slice (some ⟨vb, voff, none⟩) m vc) m vs w := by
  rw [hzs]
  exact Src.ofSlice w Tryz.underlying31 ⟨vb, voff, none⟩ m vc vs (by omega) (fun j u hj => by rw [Addr.add_lit]; exact hvs j u hj) h1v
 have hold : (Builtin.firstCells i0.size n (.slice base n c)).run Tryz.prog w.drew = .ok cs.toArray w.drew := by
  rw [hzs]
  cases base with
  | none =>
   have h0 := hnil rfl
   subst h0
   have hc0 : cs = [] := List.length_eq_zero_iff.1 (by omega)
   rw [hc0]
   exact run_firstCells_none w.drew 6 0 0 c
  | some a => exact run_firstCells_some w.drew 6 n a n c cs (by omega) (fun j v hj => hcs a rfl j v hj)
 have hrun : ∀ ty, (Builtin.append_ #[31, 31] ty #[.slice base n c, .slice (some ⟨vb, voff, none⟩) m vc]).run Tryz.prog w = _ := fun ty =>
  run_append_grow_src w 31 31 ty 33 i0 _ Tryz.underlying31 hi0 hz0 base n c cs hold _ m vs hsrc hroom (by omega) (by rw [hzb]; exact growslice_fits hroom hbig)
 go_enter Tryz.func98, Tryz.ntmps98
 cases base with
 | none =>
  have h0 := hnil rfl
  subst h0
  go_wp2_with (at_builtin; refine Lib.wpList_append_run _ rfl _ _ _ _ rfl _ _ rfl rfl _ _ (hrun _) ?_)
  go_ret
  exact ⟨rfl, rfl⟩
 | some a =>
  obtain ⟨ab, ao, asp⟩ := a
  go_wp2_with (at_builtin; refine Lib.wpList_append_run _ rfl _ _ _ _ rfl _ _ rfl rfl _ _ (hrun _) ?_)
  all_goals (go_ret; exact ⟨rfl, rfl⟩)
set_option maxHeartbeats 4000000 in
set_option maxRecDepth 100000 in
theorem insV_grow (b off n c i vb voff m vc : Nat) (cs vs : List Value) (w : World) (hi : i < n) (hm : 0 < m) (hnc : n <= c) (hroom : c < n + m) (hbig : (n + m) * 88 <= 140737488355328)
  (hcl : cs.length = n * 6) (hvl : vs.length = m * 6)
  (hcs : ∀ j v, cs[j]? = some v -> w.cell? ⟨b, off + j, none⟩ = some v)
  (hvs : ∀ j v, vs[j]? = some v -> w.cell? ⟨vb, voff + j, none⟩ = some v) (h1c : ∀ v ∈ cs, v.oneCell' = true) (h1v : ∀ v ∈ vs, v.oneCell' = true) :
  Calls Tryz.prog 98 #[.slice (some ⟨b, off, none⟩) n c, .int .i64 i, .slice (some ⟨vb, voff, none⟩) m vc] w fun e w' =>
   e = .returned (.slice (some ⟨w.heap.size, 0, none⟩) (n + m) (grownCap w (n + m) c 33)) /\
   w' = (((w.alloc (.cells ((cs.take (i * 6)).toArray ++ Builtin.zeroCells (.agg #[.int .i64 0, .bool false, .int .i64 0, .string ⟨#[]⟩, .slice none 0 0, .slice none 0 0] : Value).cells (n + m - i) ++ Builtin.zeroCells (.agg #[.int .i64 0, .bool false, .int .i64 0, .string ⟨#[]⟩, .slice none 0 0, .slice none 0 0] : Value).cells (grownCap w (n + m) c 33 - (n + m))) 33)).drew.setCells w.heap.size (i * 6) vs).drew).setCells w.heap.size ((i + m) * 6) (cs.drop (i * 6)) := by
 have mixed : Tryz.prog.follows .mixedOrders = true := by kernel_rfl
 obtain ⟨i0, hi0, hz0, hzs, hzb⟩ := insV_info
 have hz1 : ¬ ((m : Int) = 0) := by omega
 have hz2 : ¬ ((i : Int) = (n : Int)) := by omega
 have hz3 : (c : Int) < (n : Int) + (m : Int) := by omega
 have hsz : (Tryz.prog.info? 33).map (·.size) = some 6 := by rw [hi0]; simp [hzs]
 have hbw : b < w.heap.size := block_lt_of_cell (hcs 0 _ (List.getElem?_eq_getElem (by omega)))
 have hvw : vb < w.heap.size := block_lt_of_cell (hvs 0 _ (List.getElem?_eq_getElem (by omega)))
 have hkk : (n : Int) + (m : Int) - (i : Int) = ((n + m - i : Nat) : Int) := by omega
 have hik : i + (n + m - i) = n + m := by omega
 have hold : (Builtin.firstCells i0.size i (.slice (some ⟨b, off, none⟩) i c)).run Tryz.prog w.drew = .ok (cs.take (i * 6)).toArray w.drew := by
  rw [hzs]
  exact run_firstCells_some w.drew 6 i ⟨b, off, none⟩ i c (cs.take (i * 6)) (by rw [List.length_take]; omega) (fun j v hj => by
   rw [Addr.add_lit]
   rw [List.getElem?_take] at hj
   split at hj
   ·exact hcs j v hj
   ·cases hj)
 have hrz : ∀ ty, (Builtin.append_ #[31, 3] ty #[.slice (some ⟨b, off, none⟩) i c, .int .i64 ((n : Int) + (m : Int) - (i : Int))]).run Tryz.prog w =
   .ok (.slice (some ⟨w.heap.size, 0, none⟩) (n + m) (grownCap w (n + m) c 33)) (w.drew.alloc (.cells ((cs.take (i * 6)).toArray ++ Builtin.zeroCells (.agg #[.int .i64 0, .bool false, .int .i64 0, .string ⟨#[]⟩, .slice none 0 0, .slice none 0 0] : Value).cells (n + m - i) ++ Builtin.zeroCells (.agg #[.int .i64 0, .bool false, .int .i64 0, .string ⟨#[]⟩, .slice none 0 0, .slice none 0 0] : Value).cells (grownCap w (n + m) c 33 - (n + m))) 33)) := fun ty => by
  have h := Lib.run_append_grow_zeros w 31 3 ty 33 i0 _ .i64 .i64 Tryz.underlying31 Tryz.underlying3 hi0 hz0 (some ⟨b, off, none⟩) i c (cs.take (i * 6)) hold (n + m - i) (by omega) (by omega) (by omega) (by omega) (by rw [hzb]; omega) (by rw [hzb, hik]; exact growslice_fits hroom hbig)
  rw [hik] at h
  rw [hkk]
  exact h
 obtain ⟨G, hG⟩ : ∃ G, G = grownCap w (n + m) c 33 := ⟨_, rfl⟩
 obtain ⟨ROW, hROW⟩ : ∃ ROW : Array Value, ROW = (cs.take (i * 6)).toArray ++ Builtin.zeroCells (.agg #[.int .i64 0, .bool false, .int .i64 0, .string ⟨#[]⟩, .slice none 0 0, .slice none 0 0] : Value).cells (n + m - i) ++ Builtin.zeroCells (.agg #[.int .i64 0, .bool false, .int .i64 0, .string ⟨#[]⟩, .slice none 0 0, .slice none 0 0] : Value).cells (G - (n + m)) := ⟨_, rfl⟩
 rw [<- hG] at hrz ⊢
 rw [<- hROW] at hrz ⊢
 have hRl : (n + m) * 6 <= ROW.size := by
  rw [hROW]
  simp [Builtin.zeroCells, Value.cells]
  omega
 obtain ⟨W1, hW1⟩ : ∃ W1, W1 = w.drew.alloc (.cells ROW 33) := ⟨_, rfl⟩
 rw [<- hW1] at hrz
 have hN : ∀ j, j < (n + m) * 6 -> (W1.cell? ⟨w.heap.size, j, none⟩).isSome = true := fun j hj => by
  rw [hW1, World.cell?_alloc_at (w := w.drew) ROW _ w.heap.size j rfl, Array.getElem?_eq_getElem (by omega)]; rfl
 have hNf : ∀ j, W1.frozen? ⟨w.heap.size, j, none⟩ = false := fun j => by rw [hW1]; exact World.frozen?_alloc_at (w := w.drew) ROW _ w.heap.size j rfl
 have hOb : ∀ j v, w.cell? ⟨b, j, none⟩ = some v -> W1.cell? ⟨b, j, none⟩ = some v := fun j v h => by rw [hW1, World.cell?_alloc_past (w := w.drew) _ b j hbw]; exact h
 have hOv : ∀ j v, w.cell? ⟨vb, j, none⟩ = some v -> W1.cell? ⟨vb, j, none⟩ = some v := fun j v h => by rw [hW1, World.cell?_alloc_past (w := w.drew) _ vb j hvw]; exact h
 have hcpA : ∀ (W : World), (∀ x, W.cell? x = W1.cell? x) -> (∀ x, W.frozen? x = W1.frozen? x) -> ∀ ty dc, (Builtin.copy_ #[31, 31] ty #[.slice (some ⟨w.heap.size, i * 6, none⟩) (n + m - i) dc, .slice (some ⟨vb, voff, none⟩) m vc]).run Tryz.prog W = .ok (goInt (Nat.min m (n + m - i))) (W.setCells w.heap.size (i * 6) vs) := fun W hWc hWf ty dc =>
  run_copy_cellsN W _ _ ty 33 6 w.heap.size (i * 6) (n + m - i) dc ⟨vb, voff, none⟩ m vc vs Tryz.underlying31 hsz (by rw [hvl]; simp only [Nat.min_def]; split <;> omega)
   (fun j v hj => by rw [Addr.add_lit, hWc]; exact hOv _ v (hvs j v hj))
   (fun j hj => by rw [hWc]; exact hN _ (by omega)) (fun j hj => by rw [hWf]; exact hNf _) h1v
 have hGn : n + m <= G := by rw [hG]; exact grownCap_ge w _ _ _
 have hG63 : G <= 9223372036854775807 := by
  have := grownCap_le_maxLen w (n + m) c 33 (by unfold maxLen; omega)
  rw [<- hG] at this
  unfold maxLen at this
  omega
 have hGi : ¬ (G = i) := by omega
 have hGim : ¬ (G = i + m) := by omega
 have hci : ¬ (c = i) := by omega
 have hbN : b ≠ w.heap.size := by omega
 have hdl : (cs.drop (i * 6)).length = (n - i) * 6 := by have := List.length_drop (i := i * 6) (l := cs); omega
 have hcpB : ∀ (W : World), (∀ x, W.cell? x = (W1.setCells w.heap.size (i * 6) vs).cell? x) -> (∀ x, W.frozen? x = (W1.setCells w.heap.size (i * 6) vs).frozen? x) -> ∀ ty dc sc, (Builtin.copy_ #[31, 31] ty #[.slice (some ⟨w.heap.size, (i + m) * 6, none⟩) (n + m - (i + m)) dc, .slice (some ⟨b, off + i * 6, none⟩) (n - i) sc]).run Tryz.prog W = .ok (goInt (Nat.min (n - i) (n + m - (i + m)))) (W.setCells w.heap.size ((i + m) * 6) (cs.drop (i * 6))) := fun W hWc hWf ty dc sc =>
  run_copy_cellsN W _ _ ty 33 6 w.heap.size ((i + m) * 6) (n + m - (i + m)) dc ⟨b, off + i * 6, none⟩ (n - i) sc (cs.drop (i * 6)) Tryz.underlying31 hsz (by rw [hdl]; simp only [Nat.min_def]; split <;> omega)
   (fun j v hj => by
    rw [Addr.add_lit, hWc, World.cell?_setCells_out _ _ _ _ _ (fun h _ => absurd h hbN), Nat.add_assoc]
    exact hOb _ v (hcs (i * 6 + j) v (by rwa [List.getElem?_drop] at hj)))
   (fun j hj => by rw [hWc]; exact isSome_setCells _ _ _ _ (fun t ht => hN _ (by omega)) _ (hN _ (by omega)))
   (fun j hj => by rw [hWf, World.frozen?_setCells]; exact hNf _) (fun v hv => h1c v (List.mem_of_mem_drop hv))
 subst hW1
 have hE1 : ∀ x, ((w.alloc (.cells ROW 33)).drew).cell? x = (w.drew.alloc (.cells ROW 33)).cell? x := fun x => rfl
 have hE2 : ∀ x, ((w.alloc (.cells ROW 33)).drew).frozen? x = (w.drew.alloc (.cells ROW 33)).frozen? x := fun x => rfl
 have hF1 : ∀ x, (((w.alloc (.cells ROW 33)).drew.setCells w.heap.size (i * 6) vs).drew).cell? x = ((w.drew.alloc (.cells ROW 33)).setCells w.heap.size (i * 6) vs).cell? x := fun x => rfl
 have hF2 : ∀ x, (((w.alloc (.cells ROW 33)).drew.setCells w.heap.size (i * 6) vs).drew).frozen? x = ((w.drew.alloc (.cells ROW 33)).setCells w.heap.size (i * 6) vs).frozen? x := fun x => rfl
 have hw1 : IntKind.i64.wrap ((i : Int) + (m : Int)) = (i : Int) + (m : Int) := by rw [IntKind.wrap_i64]; omega
 have hb1 : (0 : Int) <= (i : Int) + (m : Int) := by omega
 have hin : i <= n := by omega
 have htn : ((i : Int) + (m : Int)).toNat = i + m := by omega
 have hb3 : (i : Int) <= (n : Int) := by omega
 clear hkk hik hold hROW hG hRl
 go_enter Tryz.func98, Tryz.ntmps98
 go_wp2_with (first
  |(at_builtin; refine Lib.wpList_append_run _ rfl _ _ _ _ rfl _ _ rfl rfl _ _ (hrz _) ?_)
  |(at_builtin; refine wpList_copy_runI _ rfl _ _ 31 31 rfl _ _ rfl rfl (hcpA _ hE1 hE2 _ _) ?_)
  |(at_builtin; refine wpList_copy_runI _ rfl _ _ 31 31 rfl _ _ rfl rfl (hcpB _ (fun _ => rfl) (fun _ => rfl) _ _ _) ?_))
 go_region_law_o (refine step_copy_runI rfl _ _ 31 31 rfl (.slice (some ⟨w.heap.size, (i + m) * 6, none⟩) (n + m - (i + m)) (G - (i + m))) (.slice (some ⟨b, off + i * 6, none⟩) (n - i) (c - i)) (by simp [Act.eval, Act.put]) (by simp [Act.eval, Act.put]) (hcpB _ hF1 hF2 3 (G - (i + m)) (c - i)) ?_)
 go_wp2
 go_ret
 exact ⟨rfl, rfl⟩
end Go.Proofs.YtcgmpcbkndpmbaaGreatDoor

end
