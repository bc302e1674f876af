/-
  Contracts and plain laws on the way to the statement; each says its own conditions.
-/
import Derived.Test.YtmfaejdnaippkaaDoorGQ6
import Derived.Test.YtmfaejdnaippkaaDoorGQ7
import Derived.Lib.AppendIntMem
import Derived.Lib.AtoiErrMem
import Derived.Test.YtmfaejdnaippkaaDoorGQ5
import Derived.Lib.TrimUEq
import Derived.Lib.ItoaLen
import Derived.Test.YtmfaejdnaippkaaDoorGQ4
import Derived.Lib.DecodeN
import Derived.Laws.RangeAny
import Derived.Lib.RuneCountTail
import Derived.Lib.QuoteLoop
import Derived.Sort.Walk0
import Derived.Shelf.Spec.SlicesInsertGrow
import Derived.Test.YtmfaejdnaippkaaDoorProg
section
/-
  Contracts of the library's functions on numbers' texts, out of the kit's shelf.
-/
open Go Go.Proofs Go.Pw Go.RowKit
namespace Go.Proofs.YtmfaejdnaippkaaDoor
set_option maxRecDepth 4000
set_option linter.unusedVariables false
set_option linter.unusedSimpArgs false
theorem stable_below {S : Cells} {w w' : World} (hS : Stable S w) (hb : Below w.heap.size w w') : Stable S w' := fun b o u hu => by
  have h1 := hS b o u hu
  have hlt : b < w.heap.size := by
    rcases Nat.lt_or_ge b w.heap.size with h' | h'
    · exact h'
    · simp [World.cell?, Array.getElem?_eq_none h'] at h1
  rw [World.cell?_of_block (hb.block b hlt)]
  exact h1
/-- A function that is handed plain values, and hands back what reads so wherever it stands. -/
theorem Ok.of_plain {P : Program} {f : FuncId} {l : List Value} {r : PV} (hent : enters P f = true) (h : ∀ w, Known w → Calls P f l.toArray w fun e w' => ∃ v, e = .returned v ∧ (∀ S, RepA S v r) ∧ Below w.heap.size w w') : Ok P f (l.map .val) r := by
  refine ⟨hent, fun S w vals hk hS hn hr => ?_⟩
  have e : vals = l.toArray := by
    apply Array.ext (by simpa using hn)
    intro i h1 h2
    have hl : i < l.length := by simpa using h2
    have := (rep_val (hr i vals[i] (.val l[i]) (Array.getElem?_eq_getElem h1) (by simp [hl]))).1
    simpa using this
  subst e
  refine (h w hk).mono ?_
  rintro e w' ⟨v, rfl, hv, hb⟩
  exact ⟨v, S, rfl, SLe.refl _, stable_below hS hb, fun b o u hu => .inl hu, hv S, hb⟩
theorem formatInt_ok (n : Int) (h : fits n) : Ok Tryd.prog 57 [vI n, vI 10] (vS ⟨(Lib.itoa n).toArray⟩) :=
  Ok.of_plain (l := [.int .i64 n, .int .i64 10]) (by kernel_rfl) fun w hk => (Tryd.strconv_FormatInt_10 n h.1 h.2 w (hasW_tab (by kernel_rfl) hk.2)).mono (by
    rintro e w' ⟨rfl, k, os, rfl⟩
    exact ⟨_, rfl, fun S => .frz (.val rfl), Lib.below_grow _ _ (Nat.le_refl _) _ _⟩)
end Go.Proofs.YtmfaejdnaippkaaDoor

end
section
/-
  A text in quotation marks: the program's.
-/
open Go Go.Proofs Go.Pw Go.RowKit
namespace Go.Proofs.YtmfaejdnaippkaaDoor
set_option maxRecDepth 4000
set_option linter.unusedVariables false
set_option linter.unusedSimpArgs false
theorem indexByte_ok (s : ByteArray) (c : Int) : Ok Tryd.prog 38 [vS s, vC c] (vI (Lib.indexByte s.data.toList c.toNat.toUInt8)) :=
  Ok.of_plain (l := [.string s, .int .u8 c]) (by kernel_rfl) fun w hk => (Tryd.strings_IndexByte s c w).mono (by
    rintro e w' ⟨rfl, rfl⟩
    exact ⟨_, rfl, fun S => .frz (.val rfl), Below.refl _ _⟩)
def sgnL : List UInt8 := [34, 92, 8, 12, 10, 13, 9]
def mrkL : List UInt8 := [34, 92, 98, 102, 110, 114, 116]
def hexL : List UInt8 := [48, 49, 50, 51, 52, 53, 54, 55, 56, 57, 97, 98, 99, 100, 101, 102]
/-- What is written for a byte. -/
def escL (c : Nat) : List UInt8 := if 0 ≤ Lib.indexByte sgnL c.toUInt8 then [92, mrkL.getD (Lib.indexByte sgnL c.toUInt8).toNat 0] else if c < 32 then [92, 117, 48, 48, hexL.getD (c / 16) 0, hexL.getD (c % 16) 0] else [c.toUInt8]
def escA (c : Nat) : ByteArray := ⟨(escL c).toArray⟩
theorem escL_len : ∀ c : Fin 256, (escL c.1).length ≤ 6 := by decide +kernel
theorem escA_size (c : Nat) (h : c < 256) : (escA c).size ≤ 6 := by
  have := escL_len ⟨c, h⟩
  show (escA c).data.size ≤ 6
  simpa [escA] using this
/-- What is written for a text's first bytes. -/
def escS (s : ByteArray) : Nat → ByteArray
  | 0 => ByteArray.empty
  | i + 1 => escS s i ++ escA (s.data.toList.getD i 0).toNat
theorem escS_size (s : ByteArray) : ∀ i, (escS s i).size ≤ 6 * i
  | 0 => by simp [escS]
  | i + 1 => by
    have := escS_size s i
    have h2 := escA_size (s.data.toList.getD i 0).toNat (UInt8.toNat_lt _)
    rw [escS, ByteArray.size_append]
    omega
/-- A text in quotation marks. -/
def qF (s : ByteArray) : ByteArray := bC 34 ++ escS s s.size ++ bC 34
theorem qF_size (s : ByteArray) : (qF s).size ≤ 6 * s.size + 2 := by
  have := escS_size s s.size
  rw [qF, ByteArray.size_append, ByteArray.size_append, bC_size]
  omega
theorem bt_eq (s : ByteArray) (i : Nat) : bt s (i : Int) = ((s.data.toList.getD i 0).toNat : Int) := by unfold bt; rw [Int.toNat_natCast]
theorem sgn_facts : ∀ c : Fin 256, -1 ≤ Lib.indexByte sgnL c.1.toUInt8 ∧ Lib.indexByte sgnL c.1.toUInt8 < 7 := by decide +kernel
theorem lkp_tokS {k : Nat} {e : TypeId} {s : ByteArray} (h : s.size ≠ 0) : lkp (tokS k e s) k = some ⟨e, 1, s.size⟩ := by
  unfold tokS
  rw [if_neg h]
  simp [lkp]
theorem dropK_tokS (k : Nat) (e : TypeId) (s : ByteArray) : dropK [k] (tokS k e s) = [] := by
  unfold tokS
  split
  · rfl
  · simp [dropK, inL]
theorem tokS_weak (k nt : Nat) (t : TypeId) (s : ByteArray) (hk : k < nt) : ∀ e ∈ tokS k t s, lkp (tokS k t s) e.1 = some e.2 ∧ e.1 < nt := by
  unfold tokS
  split
  · intro e he; cases he
  · intro e he
    simp only [List.mem_singleton] at he
    subst he
    exact ⟨by simp [lkp], hk⟩
theorem esc_2 (m : UInt8) : (bC 92 : ByteArray) ++ bC (m.toNat : Int) = ⟨[92, m].toArray⟩ := by
  apply ByteArray.ext
  simp [bC]
theorem esc_6 (m n : UInt8) : (⟨[92, 117, 48, 48].toArray⟩ : ByteArray) ++ bC (m.toNat : Int) ++ bC (n.toNat : Int) = ⟨[92, 117, 48, 48, m, n].toArray⟩ := by
  apply ByteArray.ext
  simp [bC]
theorem heads_writer : Heads 55 5 := ⟨by decide, by kernel_rfl⟩
theorem wr_weak {L : Nat × Nat} {E E' : List (Nat × PV)} {k nt nx0 nt0 : Nat} {s : ByteArray} {r1 r2 r3 : PV} (hr : PV.ltL 0 0 [r1, r2, r3] = true) (hk : k < nt) (hE : ∀ e ∈ E', bindO (lkp E e.1) (fun q => Frz q e.2) ∧ e.2.lt 1 nt = true) (h1 : 1 ≤ nx0) (h2 : nt ≤ nt0) (h3 : L.1 ≤ 1) (h4 : L.2 ≤ nt) :
    Weak L ⟨E, [(0, .box 55 [.ptr 0 0, rowS k s, r1, r2, r3])], tokS k 5 s, nx0, nt0⟩ ⟨E', [(0, .box 55 [.ptr 0 0, rowS k s, r1, r2, r3])], tokS k 5 s, 1, nt⟩ := by
  have hl := ltL_low (Nat.zero_le 1) (Nat.zero_le nt) _ hr
  refine ⟨hE, fun e he => ?_, tokS_weak _ _ _ _ hk, h1, h2, h3, h4⟩
  rw [List.mem_singleton] at he
  subst he
  refine ⟨by simp [lkp, bindO, FrzO.refl], Nat.zero_lt_one, ?_⟩
  simp only [PObj.lt, PV.ltL, PV.lt, rowS_lt _ _ _ _ hk, Bool.true_and, Nat.zero_lt_one, decide_true]
  simpa [PV.ltL] using hl
/-- The state in which a text is being written: the writer's number is 0. -/
def wrS (E : List (Nat × PV)) (k nt : Nat) (s : ByteArray) (rest : List PV) : PS := ⟨E, [(0, .box 55 (.ptr 0 0 :: rowS k s :: rest))], tokS k 5 s, 1, nt⟩
/-- A byte, a text, written into the writer. -/
theorem wB {k nt nx : Nat} {s : ByteArray} {c : Int} {r1 r2 r3 : PV} (hr : PV.ltL 0 0 [r1, r2, r3] = true) (h0 : 0 ≤ c) (h1 : c ≤ 255) (hl : s.size ≤ 1000000) (hx : 0 < nx) (hk : k < nt) :
    OkI Tryd.prog 37 [.ptr 0 0, vC c] ⟨[], [(0, .box 55 [.ptr 0 0, rowS k s, r1, r2, r3])], tokS k 5 s, nx, nt⟩ (fun r st' => r = .val .nilIface ∧ ∃ k' nt', k' < nt' ∧ nt ≤ nt' ∧ st' = ⟨[], [(0, .box 55 [.ptr 0 0, rowS k' (s ++ bC c), r1, r2, r3])], tokS k' 5 (s ++ bC c), nx, nt'⟩) := by
  refine OkI.mono' (writeB_at heads_writer hr 0 k h0 h1 hl hx hk (.inr rfl) rfl lkp_tokS) ?_
  rintro r st' ⟨rfl, k', nt', g1, g2, rfl⟩
  refine ⟨rfl, k', nt', g1, g2, ?_⟩
  simp only [dropK_tokS, List.append_nil]
  rfl
theorem wS {k nt nx : Nat} {s t : ByteArray} {r1 r2 r3 : PV} (hr : PV.ltL 0 0 [r1, r2, r3] = true) (hl : s.size + t.size ≤ 1000000) (hx : 0 < nx) (hk : k < nt) :
    OkI Tryd.prog 39 [.ptr 0 0, vS t] ⟨[], [(0, .box 55 [.ptr 0 0, rowS k s, r1, r2, r3])], tokS k 5 s, nx, nt⟩ (fun r st' => r = .tup [vI t.size, .val .nilIface] ∧ ∃ k' nt', k' < nt' ∧ nt ≤ nt' ∧ st' = ⟨[], [(0, .box 55 [.ptr 0 0, rowS k' (s ++ t), r1, r2, r3])], tokS k' 5 (s ++ t), nx, nt'⟩) := by
  refine OkI.mono' (writeS_at heads_writer hr 0 k hl hx hk (.inr rfl) rfl lkp_tokS) ?_
  rintro r st' ⟨rfl, k', nt', g1, g2, rfl⟩
  refine ⟨rfl, k', nt', g1, g2, ?_⟩
  simp only [dropK_tokS, List.append_nil]
  rfl
set_option maxHeartbeats 8000000 in
theorem quote_ok {r1 r2 r3 : PV} (hrest : PV.ltL 0 0 [r1, r2, r3] = true) (s t : ByteArray) (hl : s.size + 6 * t.size ≤ 900000) (a : PV) (ha : a = vNP ∨ a = .ptr 0 0) :
    OkI Tryd.prog 19 [.ptr 0 0, vS t] ⟨[], bldB 55 0 a s [r1, r2, r3], tokS 0 5 s, 1, 1⟩ (bldQ 55 (s ++ qF t) [r1, r2, r3] (.tup [])) := by
  refine OkI.of_pwpB (by kernel_rfl) Tryd.func19 rfl (by kernel_rfl) (by kernel_rfl) (bar := bar2 9 5 (bar2 12 6 (bar2 13 6 noBar))) ?_
  have hlt : ∀ (a b : Nat), PV.ltL a b [r1, r2, r3] = true := fun a b => ltL_low (Nat.zero_le a) (Nat.zero_le b) _ hrest
  simp only [bldB]
  simp (implicitDefEqProofs := false) (disch := omega) only [go_sem, simprocAttr, go_sem, Nat.le_refl, Tryd.results19, dropK_tokS, List.append_nil]
  refine CallOk.ofI (writeB_at (st := ⟨[], _, _, _, _⟩) heads_writer hrest 0 0 (by decide) (by decide) (by omega) (by simp) (by simp) ha rfl lkp_tokS) rfl rfl rfl rfl ?_
  rintro r st' ⟨rfl, k', nt', g1, g2, rfl⟩
  simp only at g1 g2
  simp (implicitDefEqProofs := false) (disch := omega) only [go_sem, simprocAttr, go_sem, Nat.le_refl, Tryd.results19, dropK_tokS, List.append_nil]
  refine p_loop (ι := { p : Nat × Nat × Nat // p.1 ≤ t.size ∧ p.2.1 < p.2.2 ∧ 1 ≤ p.2.2 }) (fun p => wrS [(13, vI p.1.1), (12, vI t.size), (0, .ptr 0 0), (1, vS t)] p.1.2.1 p.1.2.2 (s ++ bC 34 ++ escS t p.1.1) [r1, r2, r3]) (fun p => t.size - p.1.1) ⟨(0, k', nt'), Nat.zero_le _, g1, by simp only; omega⟩ ?_ ?_
  · simp only [wrS, escS, ByteArray.append_empty]
    exact wr_weak hrest g1 (by (simp only [go_sem, simprocAttr, decide_eq_true_eq, Int.natCast_zero, Int.natCast_add, Int.natCast_one]; try omega)) (by (first | omega | (simp only; omega) | (simp; done) | (simp; omega))) (by (first | omega | (simp only; omega) | (simp; done) | (simp; omega))) (by (first | omega | (simp only; omega) | (simp; done) | (simp; omega))) (by (first | omega | (simp only; omega) | (simp; done) | (simp; omega)))
  · rintro ⟨⟨i, k, nt⟩, h1, h2, h3⟩
    simp only at h1 h2 h3 ⊢
    have hes := escS_size t i
    have hsz : (s ++ bC 34 ++ escS t i).size ≤ 900100 := by rw [ByteArray.size_append, ByteArray.size_append, bC_size]; omega
    have hstep : s ++ bC 34 ++ escS t (i + 1) = s ++ bC 34 ++ escS t i ++ escA (t.data.toList.getD i 0).toNat := by rw [escS, ← ByteArray.append_assoc]
    have hend : s ++ qF t = s ++ bC 34 ++ escS t t.size ++ bC 34 := by rw [qF, ← ByteArray.append_assoc, ← ByteArray.append_assoc]
    unfold wrS
    by_cases hi : i < t.size
    · have hb := bt_eq t i
      have hn := UInt8.toNat_lt (t.data.toList.getD i 0)
      generalize hx : s ++ bC 34 ++ escS t i = x at *
      have ci := indexByte_ok ⟨#[34, 92, 8, 12, 10, 13, 9]⟩ (bt t i)
      rw [hb, Int.toNat_natCast] at ci
      generalize (t.data.toList.getD i 0).toNat = n at *
      have hf := sgn_facts ⟨n, hn⟩
      simp only at hf
      have ea : escA n = ⟨(escL n).toArray⟩ := rfl
      unfold escL at ea
      generalize hat : Lib.indexByte sgnL n.toUInt8 = z at *
      have hat' : Lib.indexByte (⟨#[34, 92, 8, 12, 10, 13, 9]⟩ : ByteArray).data.toList n.toUInt8 = z := hat
      rw [hat'] at ci
      have go : ∀ (k2 nt2 : Nat), k2 < nt2 → nt ≤ nt2 → ∀ (E : List (Nat × PV)), True := fun _ _ _ _ _ => trivial
      simp (implicitDefEqProofs := false) (disch := omega) only [go_sem, simprocAttr, go_sem, Nat.le_refl, Tryd.results19, dropK_tokS, List.append_nil]
      rw [hb]
      with_reducible refine CallOk.of ci rfl ?_
      by_cases hz : 0 ≤ z
      · rw [if_pos hz] at ea
        simp (implicitDefEqProofs := false) (disch := omega) only [go_sem, simprocAttr, go_sem, Nat.le_refl, Tryd.results19, dropK_tokS, List.append_nil]
        refine CallOk.ofI (wB hrest (by omega) (by omega) ?_ ?_ ?_) rfl rfl rfl rfl ?_
        · first | omega | (simp only [ByteArray.size_append, bC_size]; omega) | (simp only [ByteArray.size_append, bC_size]; show x.size + 4 ≤ _; omega) | (simp only [ByteArray.size_append, bC_size]; show x.size + 4 + 1 ≤ _; omega)
        · (first | omega | (simp only; omega) | (simp; done) | (simp; omega))
        · (first | omega | (simp only; omega) | (simp; done) | (simp; omega))
        rintro r st' ⟨rfl, k1, nt1, q1, q2, rfl⟩
        try simp only at q1 q2
        simp (implicitDefEqProofs := false) (disch := omega) only [go_sem, simprocAttr, go_sem, Nat.le_refl, Tryd.results19, dropK_tokS, List.append_nil]
        refine p_bar2 (by kernel_rfl) ?_
        have hm : bt ⟨#[34, 92, 98, 102, 110, 114, 116]⟩ z = ((mrkL.getD z.toNat 0).toNat : Int) := rfl
        have hm2 := UInt8.toNat_lt (mrkL.getD z.toNat 0)
        simp (implicitDefEqProofs := false) (disch := omega) only [go_sem, simprocAttr, go_sem, Nat.le_refl, Tryd.results19, dropK_tokS, List.append_nil, hm]
        refine ⟨by show z < 7; omega, ?_⟩
        refine CallOk.ofI (wB hrest (by omega) (by omega) ?_ ?_ ?_) rfl rfl rfl rfl ?_
        · first | omega | (simp only [ByteArray.size_append, bC_size]; omega) | (simp only [ByteArray.size_append, bC_size]; show x.size + 4 ≤ _; omega) | (simp only [ByteArray.size_append, bC_size]; show x.size + 4 + 1 ≤ _; omega)
        · (first | omega | (simp only; omega) | (simp; done) | (simp; omega))
        · (first | omega | (simp only; omega) | (simp; done) | (simp; omega))
        rintro r st' ⟨rfl, k2, nt2, q3, q4, rfl⟩
        try simp only at q3 q4
        simp (implicitDefEqProofs := false) (disch := omega) only [go_sem, simprocAttr, go_sem, Nat.le_refl, Tryd.results19, dropK_tokS, List.append_nil]
        refine ⟨⟨(i + 1, k2, nt2), hi, q3, by simp only; omega⟩, by simp only; omega, ?_⟩
        rw [hstep, ea, ← esc_2, ← ByteArray.append_assoc]
        exact wr_weak hrest q3 (by (simp only [go_sem, simprocAttr, decide_eq_true_eq, Int.natCast_zero, Int.natCast_add, Int.natCast_one]; try omega)) (by (first | omega | (simp only; omega) | (simp; done) | (simp; omega))) (by (first | omega | (simp only; omega) | (simp; done) | (simp; omega))) (by (first | omega | (simp only; omega) | (simp; done) | (simp; omega))) (by (first | omega | (simp only; omega) | (simp; done) | (simp; omega)))
      · rw [if_neg hz] at ea
        by_cases hc : n < 32
        · rw [if_pos hc] at ea
          have hh : ∀ y : Int, bt ⟨#[48, 49, 50, 51, 52, 53, 54, 55, 56, 57, 97, 98, 99, 100, 101, 102]⟩ y = ((hexL.getD y.toNat 0).toNat : Int) := fun y => rfl
          have hd : ((n : Int).tdiv 16) = ((n / 16 : Nat) : Int) := by rw [tdivE (by omega)]; rfl
          have hmo : ((n : Int).tmod 16) = ((n % 16 : Nat) : Int) := by rw [tmodE (by omega)]; rfl
          have u1 := UInt8.toNat_lt (hexL.getD (n / 16) 0)
          have u2 := UInt8.toNat_lt (hexL.getD (n % 16) 0)
          simp (implicitDefEqProofs := false) (disch := omega) only [go_sem, simprocAttr, go_sem, Nat.le_refl, Tryd.results19, dropK_tokS, List.append_nil]
          refine CallOk.ofI (wS hrest ?_ ?_ ?_) rfl rfl rfl rfl ?_
          · show x.size + 4 ≤ 1000000; omega
          · (first | omega | (simp only; omega) | (simp; done) | (simp; omega))
          · (first | omega | (simp only; omega) | (simp; done) | (simp; omega))
          rintro r st' ⟨rfl, k1, nt1, q1, q2, rfl⟩
          try simp only at q1 q2
          simp (implicitDefEqProofs := false) (disch := omega) only [go_sem, simprocAttr, go_sem, Nat.le_refl, Tryd.results19, dropK_tokS, List.append_nil]
          refine p_bar2 (by kernel_rfl) ?_
          simp (implicitDefEqProofs := false) (disch := omega) only [go_sem, simprocAttr, go_sem, Nat.le_refl, Tryd.results19, dropK_tokS, List.append_nil, hh, hd, Int.toNat_natCast, wrap8]
          refine ⟨by show _ < (16 : Int); omega, ?_⟩
          refine CallOk.ofI (wB hrest (by omega) (by omega) ?_ ?_ ?_) rfl rfl rfl rfl ?_
          · first | omega | (simp only [ByteArray.size_append, bC_size]; omega) | (simp only [ByteArray.size_append, bC_size]; show x.size + 4 ≤ _; omega) | (simp only [ByteArray.size_append, bC_size]; show x.size + 4 + 1 ≤ _; omega)
          · (first | omega | (simp only; omega) | (simp; done) | (simp; omega))
          · (first | omega | (simp only; omega) | (simp; done) | (simp; omega))
          rintro r st' ⟨rfl, k2, nt2, q3, q4, rfl⟩
          try simp only at q3 q4
          simp (implicitDefEqProofs := false) (disch := omega) only [go_sem, simprocAttr, go_sem, Nat.le_refl, Tryd.results19, dropK_tokS, List.append_nil]
          refine p_bar2 (by kernel_rfl) ?_
          simp (implicitDefEqProofs := false) (disch := omega) only [go_sem, simprocAttr, go_sem, Nat.le_refl, Tryd.results19, dropK_tokS, List.append_nil, hh, hmo, Int.toNat_natCast, wrap8]
          refine ⟨by show _ < (16 : Int); omega, ?_⟩
          refine CallOk.ofI (wB hrest (by omega) (by omega) ?_ ?_ ?_) rfl rfl rfl rfl ?_
          · first | omega | (simp only [ByteArray.size_append, bC_size]; omega) | (simp only [ByteArray.size_append, bC_size]; show x.size + 4 ≤ _; omega) | (simp only [ByteArray.size_append, bC_size]; show x.size + 4 + 1 ≤ _; omega)
          · (first | omega | (simp only; omega) | (simp; done) | (simp; omega))
          · (first | omega | (simp only; omega) | (simp; done) | (simp; omega))
          rintro r st' ⟨rfl, k3, nt3, q5, q6, rfl⟩
          try simp only at q5 q6
          simp (implicitDefEqProofs := false) (disch := omega) only [go_sem, simprocAttr, go_sem, Nat.le_refl, Tryd.results19, dropK_tokS, List.append_nil]
          refine ⟨⟨(i + 1, k3, nt3), hi, q5, by simp only; omega⟩, by simp only; omega, ?_⟩
          rw [hstep, ea, ← esc_6, ← ByteArray.append_assoc, ← ByteArray.append_assoc]
          exact wr_weak hrest q5 (by (simp only [go_sem, simprocAttr, decide_eq_true_eq, Int.natCast_zero, Int.natCast_add, Int.natCast_one]; try omega)) (by (first | omega | (simp only; omega) | (simp; done) | (simp; omega))) (by (first | omega | (simp only; omega) | (simp; done) | (simp; omega))) (by (first | omega | (simp only; omega) | (simp; done) | (simp; omega))) (by (first | omega | (simp only; omega) | (simp; done) | (simp; omega)))
        · rw [if_neg hc] at ea
          simp (implicitDefEqProofs := false) (disch := omega) only [go_sem, simprocAttr, go_sem, Nat.le_refl, Tryd.results19, dropK_tokS, List.append_nil]
          refine CallOk.ofI (wB hrest (by omega) (by omega) ?_ ?_ ?_) rfl rfl rfl rfl ?_
          · first | omega | (simp only [ByteArray.size_append, bC_size]; omega) | (simp only [ByteArray.size_append, bC_size]; show x.size + 4 ≤ _; omega) | (simp only [ByteArray.size_append, bC_size]; show x.size + 4 + 1 ≤ _; omega)
          · (first | omega | (simp only; omega) | (simp; done) | (simp; omega))
          · (first | omega | (simp only; omega) | (simp; done) | (simp; omega))
          rintro r st' ⟨rfl, k2, nt2, q3, q4, rfl⟩
          try simp only at q3 q4
          simp (implicitDefEqProofs := false) (disch := omega) only [go_sem, simprocAttr, go_sem, Nat.le_refl, Tryd.results19, dropK_tokS, List.append_nil]
          refine ⟨⟨(i + 1, k2, nt2), hi, q3, by simp only; omega⟩, by simp only; omega, ?_⟩
          rw [hstep, ea]
          exact wr_weak hrest q3 (by (simp only [go_sem, simprocAttr, decide_eq_true_eq, Int.natCast_zero, Int.natCast_add, Int.natCast_one]; try omega)) (by (first | omega | (simp only; omega) | (simp; done) | (simp; omega))) (by (first | omega | (simp only; omega) | (simp; done) | (simp; omega))) (by (first | omega | (simp only; omega) | (simp; done) | (simp; omega))) (by (first | omega | (simp only; omega) | (simp; done) | (simp; omega)))
    · have hi' : i = t.size := by omega
      subst hi'
      generalize hx : s ++ bC 34 ++ escS t t.size = x at *
      simp (implicitDefEqProofs := false) (disch := omega) only [go_sem, simprocAttr, go_sem, Nat.le_refl, Tryd.results19, dropK_tokS, List.append_nil]
      refine CallOk.ofI (wB hrest (by omega) (by omega) ?_ ?_ ?_) rfl rfl rfl rfl ?_
      · first | omega | (simp only [ByteArray.size_append, bC_size]; omega) | (simp only [ByteArray.size_append, bC_size]; show x.size + 4 ≤ _; omega) | (simp only [ByteArray.size_append, bC_size]; show x.size + 4 + 1 ≤ _; omega)
      · (first | omega | (simp only; omega) | (simp; done) | (simp; omega))
      · (first | omega | (simp only; omega) | (simp; done) | (simp; omega))
      rintro r st' ⟨rfl, k1, nt1, q1, q2, rfl⟩
      try simp only at q1 q2
      simp (implicitDefEqProofs := false) (disch := omega) only [go_sem, simprocAttr, go_sem, Nat.le_refl, Tryd.results19, dropK_tokS, List.append_nil]
      rw [hend]
      refine ⟨⟨[], [(0, .box 55 (.ptr 0 0 :: rowS k1 (x ++ bC 34) :: [r1, r2, r3]))], tokS k1 5 (x ++ bC 34), 1, nt1⟩, ⟨rfl, k1, q1, by simp only; omega, rfl, rfl, rfl⟩, ?_⟩
      exact wr_weak hrest q1 (by (simp only [go_sem, simprocAttr, decide_eq_true_eq, Int.natCast_zero, Int.natCast_add, Int.natCast_one]; try omega)) (by (first | omega | (simp only; omega) | (simp; done) | (simp; omega))) (by (first | omega | (simp only; omega) | (simp; done) | (simp; omega))) (by (first | omega | (simp only; omega) | (simp; done) | (simp; omega))) (by (first | omega | (simp only; omega) | (simp; done) | (simp; omega)))
end Go.Proofs.YtmfaejdnaippkaaDoor

end
section
/-
  A text in quotation marks: the document's.
-/
open Go Go.Proofs Go.Pw Go.RowKit
namespace Go.Proofs.YtmfaejdnaippkaaDoor
set_option maxRecDepth 4000
set_option linter.unusedVariables false
set_option linter.unusedSimpArgs false
def escI (c : Nat) : List Int := (escL c).map fun b => (b.toNat : Int)
def rowQ (s : ByteArray) : Nat → List Int
  | 0 => [34]
  | i + 1 => rowQ s i ++ escI (s.data.toList.getD i 0).toNat
theorem rowQ_len (s : ByteArray) : ∀ i, (rowQ s i).length ≤ 6 * i + 1
  | 0 => Nat.le_refl _
  | i + 1 => by
    have := rowQ_len s i
    have h2 := escL_len ⟨(s.data.toList.getD i 0).toNat, UInt8.toNat_lt _⟩
    simp only at h2
    rw [rowQ, List.length_append, escI, List.length_map]
    omega
theorem strN_app (a b : List Int) : strOfNums (a ++ b) = strOfNums a ++ strOfNums b := by
  apply ByteArray.ext
  simp [strOfNums]
theorem strN_esc (c : Nat) : strOfNums (escI c) = escA c := by
  apply ByteArray.ext
  have h : (fun n : Int => UInt8.ofNat n.toNat) ∘ (fun b : UInt8 => (b.toNat : Int)) = id := by funext b; simp
  simp [strOfNums, escI, escA, h]
theorem rowQ_str (s : ByteArray) : ∀ i, strOfNums (rowQ s i) = bC 34 ++ escS s i
  | 0 => by apply ByteArray.ext; simp [rowQ, strOfNums, escS, bC]
  | i + 1 => by rw [rowQ, strN_app, rowQ_str s i, strN_esc, escS, ByteArray.append_assoc]
theorem rowQ_end (s : ByteArray) : strOfNums (rowQ s s.size ++ [34]) = qF s := by
  rw [strN_app, rowQ_str, qF]
  rfl
theorem sgn_at : ∀ c : Fin 256, ∀ j : Fin 7, ((c.1 : Int) = ((sgnL.getD j.1 0).toNat : Int)) ↔ Lib.indexByte sgnL c.1.toUInt8 = (j.1 : Int) := by decide +kernel
theorem hs7 : (((#[34, 92, 8, 12, 10, 13, 9] : Array UInt8).size : Nat) : Int) = 7 := rfl
theorem hs7m : (((#[34, 92, 98, 102, 110, 114, 116] : Array UInt8).size : Nat) : Int) = 7 := rfl
def zb (z : Int) (j : Nat) : Bool := decide (0 ≤ z ∧ z < j)
def zl (z : Int) (j : Nat) (l : List Int) : List Int := if zb z j = true then l ++ [92, ((mrkL.getD z.toNat 0).toNat : Int)] else l
theorem zb_t {z : Int} {j : Nat} (h : 0 ≤ z ∧ z < j) : zb z j = true := decide_eq_true h
theorem zb_f {z : Int} {j : Nat} (h : ¬ (0 ≤ z ∧ z < j)) : zb z j = false := decide_eq_false h
theorem zb_s {z : Int} {j : Nat} (h : z ≠ j) : zb z (j + 1) = zb z j := decide_eq_decide.2 (by omega)
theorem zl_t {z : Int} {j : Nat} {l : List Int} (h : zb z j = true) : zl z j l = l ++ [92, ((mrkL.getD z.toNat 0).toNat : Int)] := if_pos h
theorem zl_f {z : Int} {j : Nat} {l : List Int} (h : zb z j = false) : zl z j l = l := if_neg (by rw [h]; decide)
theorem zl_s {z : Int} {j : Nat} {l : List Int} (h : z ≠ j) : zl z (j + 1) l = zl z j l := by unfold zl; rw [zb_s h]
theorem encC_two (l : List Int) (a b : Int) : encC l ++ [[.val (.int .u8 a)], [.val (.int .u8 b)]] = encC (l ++ [a, b]) := by simp [encC]
theorem encC_six (l : List Int) (a b c d e f : Int) : encC l ++ [[.val (.int .u8 a)], [.val (.int .u8 b)], [.val (.int .u8 c)], [.val (.int .u8 d)], [.val (.int .u8 e)], [.val (.int .u8 f)]] = encC (l ++ [a, b, c, d, e, f]) := by simp [encC]
/-- The state in the outer loop. -/
def qS (s : ByteArray) (i tk : Nat) (l : List Int) : PS := ⟨[(3, .row tk (encC l)), (4, vS ⟨#[34, 92, 8, 12, 10, 13, 9]⟩), (5, vS ⟨#[34, 92, 98, 102, 110, 114, 116]⟩), (6, vI i), (0, vS s)], [], [(tk, ⟨5, 1, l.length⟩)], 0, tk + 1⟩
def qS2 (s : ByteArray) (i tk j : Nat) (c : Nat) (b : Bool) (l : List Int) : PS := ⟨[(9, vI j), (8, vB b), (7, vC c), (3, .row tk (encC l)), (4, vS ⟨#[34, 92, 8, 12, 10, 13, 9]⟩), (5, vS ⟨#[34, 92, 98, 102, 110, 114, 116]⟩), (6, vI i), (0, vS s)], [], [(tk, ⟨5, 1, l.length⟩)], 0, tk + 1⟩
set_option maxHeartbeats 8000000 in
theorem rquote_ok (s : ByteArray) (hl : s.size ≤ 100000) : Ok Tryd.prog 8 [vS s] (vS (qF s)) := by
  refine Ok.of_pwp (by kernel_rfl) Tryd.func8 rfl (by kernel_rfl) (by kernel_rfl) ?_
  generalize hR : vS (qF s) = R
  simp (implicitDefEqProofs := false) (disch := omega) only [go_sem, simprocAttr, go_sem, Nat.le_refl, Tryd.results8, hs7, hs7m]
  refine p_loop (ι := { p : Nat × Nat // p.1 ≤ s.size }) (fun p => qS s p.1.1 p.1.2 (rowQ s p.1.1)) (fun p => s.size - p.1.1) ⟨(0, 1), Nat.zero_le _⟩ ?_ ?_
  · simp only [qS, rowQ, List.length_singleton]
    refine ⟨?_, ?_, ?_, ?_, ?_, ?_, ?_⟩ <;> simp only [go_sem, simprocAttr, decide_eq_true_eq, Int.natCast_zero, encC, List.map_cons, List.map_nil] <;> try first | omega | ((repeat' (first | exact And.intro rfl (by omega) | (refine And.intro ?_ ?_))) <;> first | rfl | omega | (congr 3; omega) | (congr 2; omega))
  · rintro ⟨⟨i, tk⟩, hi⟩
    simp only at hi ⊢
    have hql := rowQ_len s i
    by_cases hlt : i < s.size
    · have hb := bt_eq s i
      have hn := UInt8.toNat_lt (s.data.toList.getD i 0)
      have hstep : rowQ s (i + 1) = rowQ s i ++ escI (s.data.toList.getD i 0).toNat := rfl
      have hz1 := sgn_facts ⟨(s.data.toList.getD i 0).toNat, hn⟩
      have hz2 := sgn_at ⟨(s.data.toList.getD i 0).toNat, hn⟩
      simp only at hz1 hz2
      have hesc : escI (s.data.toList.getD i 0).toNat = (escL (s.data.toList.getD i 0).toNat).map fun b => (b.toNat : Int) := rfl
      generalize (s.data.toList.getD i 0).toNat = n at *
      unfold escL at hesc
      generalize Lib.indexByte sgnL n.toUInt8 = z at *
      generalize hx : rowQ s i = l at *
      unfold qS
      simp (implicitDefEqProofs := false) (disch := omega) only [go_sem, simprocAttr, go_sem, Nat.le_refl, Tryd.results8, hs7, hs7m, hb]
      refine p_loop (ι := { p : Nat × Nat // p.1 ≤ 7 }) (fun p => qS2 s i p.1.2 p.1.1 n (zb z p.1.1) (zl z p.1.1 l)) (fun p => 7 - p.1.1) ⟨(0, tk), by simp⟩ ?_ ?_
      · have h0 : zb z 0 = false := zb_f (by omega)
        simp only [qS2, h0, zl_f h0]
        refine ⟨?_, ?_, ?_, ?_, ?_, ?_, ?_⟩ <;> simp only [go_sem, simprocAttr, decide_eq_true_eq, Int.natCast_zero] <;> try first | omega | ((repeat' (first | exact And.intro rfl (by omega) | (refine And.intro ?_ ?_))) <;> first | rfl | omega | (congr 3; omega) | (congr 2; omega))
      · rintro ⟨⟨j, tk⟩, hj⟩
        simp only at hj ⊢
        by_cases hj7 : j < 7
        · have hz3 := hz2 ⟨j, hj7⟩
          simp only at hz3
          have hbj : bt ⟨#[34, 92, 8, 12, 10, 13, 9]⟩ j = ((sgnL.getD j 0).toNat : Int) := rfl
          unfold qS2
          by_cases hzj : z = j
          · have h0 : zb z j = false := zb_f (by omega)
            have h1 : zb z (j + 1) = true := zb_t (by omega)
            have hjz : j = z.toNat := by omega
            rw [zl_f h0, h0]
            have hbm : bt ⟨#[34, 92, 98, 102, 110, 114, 116]⟩ j = ((mrkL.getD z.toNat 0).toNat : Int) := by rw [hjz]; rfl
            simp (implicitDefEqProofs := false) (disch := omega) only [go_sem, simprocAttr, go_sem, Nat.le_refl, Tryd.results8, hs7, hs7m, hbj, decide_eq_true (hz3.2 hzj), hbm]
            refine ⟨⟨(j + 1, tk), hj7⟩, by simp only; omega, ?_⟩
            simp only [h1, zl_t h1, encC_two]
            refine ⟨?_, ?_, ?_, ?_, ?_, ?_, ?_⟩ <;> simp only [go_sem, simprocAttr, decide_eq_true_eq, Int.natCast_add, Int.natCast_one, List.length_append] <;> try first | omega | ((repeat' (first | exact And.intro rfl (by omega) | (refine And.intro ?_ ?_))) <;> first | rfl | omega | (congr 3; omega) | (congr 2; omega))
          · generalize hzl : zl z j l = l2 at *
            generalize hzb : zb z j = b2 at *
            simp (implicitDefEqProofs := false) (disch := omega) only [go_sem, simprocAttr, go_sem, Nat.le_refl, Tryd.results8, hs7, hs7m, hbj, decide_eq_false (fun h => hzj (hz3.1 h))]
            refine ⟨⟨(j + 1, tk), hj7⟩, by simp only; omega, ?_⟩
            simp only [zb_s hzj, zl_s hzj, hzl, hzb]
            refine ⟨?_, ?_, ?_, ?_, ?_, ?_, ?_⟩ <;> simp only [go_sem, simprocAttr, decide_eq_true_eq, Int.natCast_add, Int.natCast_one] <;> try first | omega | ((repeat' (first | exact And.intro rfl (by omega) | (refine And.intro ?_ ?_))) <;> first | rfl | omega | (congr 3; omega) | (congr 2; omega))
        · obtain rfl : j = 7 := by omega
          unfold qS2
          by_cases hz : 0 ≤ z
          · have h1 : zb z 7 = true := zb_t (by omega)
            rw [h1, zl_t h1]
            rw [if_pos hz] at hesc
            have hfin : l ++ [92, ((mrkL.getD z.toNat 0).toNat : Int)] = rowQ s (i + 1) := by rw [hstep, hesc]; rfl
            rw [hfin]
            simp (implicitDefEqProofs := false) (disch := omega) only [go_sem, simprocAttr, go_sem, Nat.le_refl, Tryd.results8, hs7, hs7m]
            refine ⟨⟨(i + 1, tk), hlt⟩, by simp only; omega, ?_⟩
            simp only [qS]
            refine ⟨?_, ?_, ?_, ?_, ?_, ?_, ?_⟩ <;> simp only [go_sem, simprocAttr, decide_eq_true_eq, Int.natCast_add, Int.natCast_one] <;> try first | omega | ((repeat' (first | exact And.intro rfl (by omega) | (refine And.intro ?_ ?_))) <;> first | rfl | omega | (congr 3; omega) | (congr 2; omega))
          · have h1 : zb z 7 = false := zb_f (by omega)
            rw [h1, zl_f h1]
            rw [if_neg hz] at hesc
            by_cases hc : n < 32
            · rw [if_pos hc] at hesc
              have hh : ∀ y : Int, bt ⟨#[48, 49, 50, 51, 52, 53, 54, 55, 56, 57, 97, 98, 99, 100, 101, 102]⟩ y = ((hexL.getD y.toNat 0).toNat : Int) := fun y => rfl
              have hd : ((n : Int).tdiv 16) = ((n / 16 : Nat) : Int) := by rw [tdivE (by omega)]; rfl
              have hmo : ((n : Int).tmod 16) = ((n % 16 : Nat) : Int) := by rw [tmodE (by omega)]; rfl
              have u1 := UInt8.toNat_lt (hexL.getD (n / 16) 0)
              have u2 := UInt8.toNat_lt (hexL.getD (n % 16) 0)
              simp (implicitDefEqProofs := false) (disch := omega) only [go_sem, simprocAttr, go_sem, Nat.le_refl, Tryd.results8, hs7, hs7m, hh, hd, hmo, Int.toNat_natCast, wrap8]
              refine ⟨by show _ < (16 : Int); omega, by show _ < (16 : Int); omega, ?_⟩
              have hfin : l ++ [92, 117, 48, 48, ((hexL.getD (n / 16) 0).toNat : Int), ((hexL.getD (n % 16) 0).toNat : Int)] = rowQ s (i + 1) := by rw [hstep, hesc]; rfl
              rw [encC_six, hfin]
              have hll := congrArg List.length hfin
              rw [List.length_append] at hll
              simp only [List.length_cons, List.length_nil] at hll
              refine ⟨⟨(i + 1, tk), hlt⟩, by simp only; omega, ?_⟩
              simp only [qS]
              refine ⟨?_, ?_, ?_, ?_, ?_, ?_, ?_⟩ <;> simp only [go_sem, simprocAttr, decide_eq_true_eq, Int.natCast_add, Int.natCast_one, hll] <;> try first | omega | ((repeat' (first | exact And.intro rfl (by omega) | (refine And.intro ?_ ?_))) <;> first | rfl | omega | (congr 3; omega) | (congr 2; omega))
            · rw [if_neg hc] at hesc
              have hn8 : n.toUInt8.toNat = n := by
                rw [UInt8.toNat_ofNat']; omega
              have hfin : l ++ [(n : Int)] = rowQ s (i + 1) := by rw [hstep, hesc]; simp only [List.map_cons, List.map_nil, hn8]
              simp (implicitDefEqProofs := false) (disch := omega) only [go_sem, simprocAttr, go_sem, Nat.le_refl, Tryd.results8, hs7, hs7m, hfin]
              have hll := congrArg List.length hfin
              rw [List.length_append, List.length_singleton] at hll
              refine ⟨⟨(i + 1, tk), hlt⟩, by simp only; omega, ?_⟩
              simp only [qS]
              refine ⟨?_, ?_, ?_, ?_, ?_, ?_, ?_⟩ <;> simp only [go_sem, simprocAttr, decide_eq_true_eq, Int.natCast_add, Int.natCast_one, hll] <;> try first | omega | ((repeat' (first | exact And.intro rfl (by omega) | (refine And.intro ?_ ?_))) <;> first | rfl | omega | (congr 3; omega) | (congr 2; omega))
    · have hi' : i = s.size := by omega
      subst hi'
      unfold qS
      simp (implicitDefEqProofs := false) (disch := omega) only [go_sem, simprocAttr, go_sem, Nat.le_refl, Tryd.results8, hs7, hs7m]
      rw [rowQ_end]
      exact hR
end Go.Proofs.YtmfaejdnaippkaaDoor

end
section
/-
  Numbers' texts: the document's Form, Number, Parse; the program's form, Parse, Text.
-/
open Go Go.Proofs Go.Pw
namespace Go.Proofs.YtmfaejdnaippkaaDoor
set_option maxRecDepth 4000
set_option linter.unusedVariables false
set_option linter.unusedSimpArgs false
end Go.Proofs.YtmfaejdnaippkaaDoor

end
section
/-
  Numbers' texts: the document's Number, Parse.
-/
open Go Go.Proofs Go.Pw
namespace Go.Proofs.YtmfaejdnaippkaaDoor
set_option maxRecDepth 4000
set_option linter.unusedVariables false
set_option linter.unusedSimpArgs false
end Go.Proofs.YtmfaejdnaippkaaDoor

end
section
/-
  Numbers' texts: the program's form, Parse, Text.
-/
open Go Go.Proofs Go.Pw
namespace Go.Proofs.YtmfaejdnaippkaaDoor
set_option maxRecDepth 4000
set_option linter.unusedVariables false
set_option linter.unusedSimpArgs false
/-- An integer's text. -/
def sOf (n : Int) : ByteArray := ⟨(Lib.itoa n).toArray⟩
theorem wtext_ok (n : Int) (h : fits n) : Ok Tryd.prog 40 [vI n] (vS (sOf n)) := by
  have c0 := formatInt_ok n h
  refine Ok.of_pwp (by kernel_rfl) Tryd.func40 rfl (by kernel_rfl) (by kernel_rfl) ?_
  simp (implicitDefEqProofs := false) (disch := omega) only [go_sem, simprocAttr, go_sem, Nat.le_refl, Int.toNat_natCast, Int.toNat_zero, Int.toNat_one, str_eq, Tryd.results40]
  with_reducible refine CallOk.of c0 rfl ?_
  simp (implicitDefEqProofs := false) (disch := omega) only [go_sem, simprocAttr, go_sem, Nat.le_refl, Int.toNat_natCast, Int.toNat_zero, Int.toNat_one, str_eq, Tryd.results40]
  rfl
end Go.Proofs.YtmfaejdnaippkaaDoor

end
section
/-
  A number's text, by the document.
-/
open Go Go.Proofs Go.Pw
namespace Go.Proofs.YtmfaejdnaippkaaDoor
set_option maxRecDepth 4000
set_option linter.unusedVariables false
set_option linter.unusedSimpArgs false
/-- The last so many digits. -/
def padD : Nat → Nat → List UInt8
  | _, 0 => []
  | n, k + 1 => padD (n / 10) k ++ [UInt8.ofNat (48 + n % 10)]
theorem decD_pad (n : Nat) : Lib.decDigits n = padD n (Lib.nDigits n) := by
  induction n using Nat.strongRecOn with
  | _ n ih =>
    by_cases h : n < 10
    · rw [Lib.decDigits, dif_pos h, Lib.nDigits_small h]
      simp [padD, Nat.mod_eq_of_lt h]
    · rw [Lib.decDigits, dif_neg h, Lib.nDigits_big h, padD, ih (n / 10) (by omega)]
theorem sOf_pos {n : Int} (h : 0 ≤ n) : sOf n = ⟨(Lib.decDigits n.natAbs).toArray⟩ := by
  unfold sOf Lib.itoa
  rw [if_neg (by omega), show n.toNat = n.natAbs by omega]
end Go.Proofs.YtmfaejdnaippkaaDoor

end
section
/-
  An integer's text is a number's text, and says it.
-/
open Go Go.Proofs Go.Pw
namespace Go.Proofs.YtmfaejdnaippkaaDoor
set_option maxRecDepth 4000
set_option linter.unusedVariables false
set_option linter.unusedSimpArgs false
theorem sOf_size (n : Int) (h : fits n) : (sOf n).size ≤ 21 := by
  show (Lib.itoa n).toArray.size ≤ 21
  rw [List.size_toArray]
  exact Lib.itoa_length_le n h.1 h.2
end Go.Proofs.YtmfaejdnaippkaaDoor

end
section
/-
  Contracts and plain laws on the way to the statement; each says its own conditions.
-/
open Go Go.Proofs Go.Pw
namespace Go.Proofs.YtmfaejdnaippkaaDoor
set_option maxRecDepth 4000
set_option linter.unusedVariables false
set_option linter.unusedSimpArgs false
def isF (n : Int) : Bool := decide (0 ≤ n ∧ n < 55296 ∨ 57344 ≤ n ∧ n ≤ 1114111)
theorem ris_ok (n : Int) : Ok Tryd.prog 54 [vI n] (vB (isF n)) := by
  refine Ok.of_pwp (by kernel_rfl) Tryd.func54 rfl (by kernel_rfl) (by kernel_rfl) ?_
  simp (implicitDefEqProofs := false) (disch := omega) only [go_sem, simprocAttr, go_sem, ↓ix_enc, encI_len, encI_take, Nat.le_refl, Tryd.results54]
  repeat' ((first
    | with_reducible refine ifK_split (fun _ => ?_) (fun _ => ?_)) <;> try simp (implicitDefEqProofs := false) (disch := omega) only [go_sem, simprocAttr, go_sem, ↓ix_enc, encI_len, encI_take, Nat.le_refl, Tryd.results54])
  all_goals (congr 2; simp only [isF]; first | (rw [eq_comm, decide_eq_false_iff_not]; omega) | (rw [eq_comm, decide_eq_true_eq]; omega) | (congr 1; apply propext; constructor <;> intro <;> omega))
def bytesF (n : Int) : List Int :=
  if n < 128 then [n] else if n < 2048 then [192 + n / 64, 128 + n % 64] else if n < 65536 then [224 + n / 4096, 128 + n / 64 % 64, 128 + n % 64]
  else [240 + n / 262144, 128 + n / 4096 % 64, 128 + n / 64 % 64, 128 + n % 64]
theorem bytes_ok (n : Int) (h0 : 0 ≤ n) (h1 : n ≤ 1114111) : Ok Tryd.prog 45 [vI n] (.sl (encI (bytesF n))) := by
  refine Ok.of_pwp (by kernel_rfl) Tryd.func45 rfl (by kernel_rfl) (by kernel_rfl) ?_
  unfold bytesF
  simp (implicitDefEqProofs := false) (disch := omega) only [go_sem, simprocAttr, go_sem, ↓ix_enc, encI_len, encI_take, Nat.le_refl, tdivE, tmodE, Tryd.results45]
  repeat' ((first
    | with_reducible refine ifK_split (fun _ => ?_) (fun _ => ?_)) <;> try simp (implicitDefEqProofs := false) (disch := omega) only [go_sem, simprocAttr, go_sem, ↓ix_enc, encI_len, encI_take, Nat.le_refl, tdivE, tmodE, Tryd.results45])
  · rw [if_pos (by omega)]; rfl
  · rw [if_neg (by omega), if_pos (by omega)]; rfl
  · rw [if_neg (by omega), if_neg (by omega), if_pos (by omega)]; rfl
  · rw [if_neg (by omega), if_neg (by omega), if_neg (by omega)]; rfl
theorem bt_range (s : ByteArray) (i : Int) : 0 ≤ bt s i ∧ bt s i ≤ 255 := by
  unfold bt
  have := UInt8.toNat_lt (s.data.toList.getD i.toNat 0)
  omega
def headF : Nat → Int
  | 2 => 192
  | 3 => 224
  | 4 => 240
  | _ => 0
def accF (s : ByteArray) (a : Int) (m : Nat) : Nat → Int
  | 0 => bt s a - headF m
  | j + 1 => accF s a m j * 64 + bt s (a + (j + 1)) - 128
def sameF (b : List Int) (s : ByteArray) (a : Int) (m : Nat) : Nat → Bool
  | 0 => decide ((b.length : Int) = (m : Int))
  | j + 1 => sameF b s a m j && decide (b.getD j 0 = bt s (a + j))
def firstF (s : ByteArray) (a : Int) : Nat → Nat → Int × Int
  | 0, _ => (-1, 0)
  | f + 1, m => if (s.size : Int) < a + m then (-1, 0) else if isF (accF s a m (m - 1)) && sameF (bytesF (accF s a m (m - 1))) s a m m then (accF s a m (m - 1), m) else firstF s a f (m + 1)
theorem accF_step (s : ByteArray) (a : Int) (m j : Nat) (B : Int) (h : -B ≤ accF s a m j ∧ accF s a m j ≤ B) : -(B * 64 + 400) ≤ accF s a m (j + 1) ∧ accF s a m (j + 1) ≤ B * 64 + 400 := by
  have := bt_range s (a + (j + 1))
  simp only [accF]
  omega
theorem accF_range (s : ByteArray) (a : Int) (m : Nat) (j : Nat) (hj : j ≤ 3) : -1000000000 ≤ accF s a m j ∧ accF s a m j ≤ 1000000000 := by
  have b0 := bt_range s a
  have hh : 0 ≤ headF m ∧ headF m ≤ 240 := by unfold headF; split <;> decide
  have h0 : -300 ≤ accF s a m 0 ∧ accF s a m 0 ≤ 300 := by simp only [accF]; omega
  have h1 := accF_step s a m 0 _ h0
  have h2 := accF_step s a m 1 _ h1
  have h3 := accF_step s a m 2 _ h2
  have : j = 0 ∨ j = 1 ∨ j = 2 ∨ j = 3 := by omega
  rcases this with rfl | rfl | rfl | rfl
  · omega
  · simp only [Nat.zero_add] at h1; omega
  · simp only [Nat.reduceAdd] at h2; omega
  · simp only [Nat.reduceAdd] at h3; omega
theorem sameF_false {b : List Int} {s : ByteArray} {a : Int} {m j : Nat} (h : sameF b s a m j = false) : ∀ k, sameF b s a m (j + k) = false
  | 0 => h
  | k + 1 => by rw [← Nat.add_assoc, sameF, sameF_false h k, Bool.false_and]
theorem sameF_len {b : List Int} {s : ByteArray} {a : Int} {m : Nat} : ∀ {j : Nat}, sameF b s a m j = true → b.length = m
  | 0, h => by simp only [sameF, decide_eq_true_eq] at h; omega
  | j + 1, h => by
    simp only [sameF, Bool.and_eq_true] at h
    exact sameF_len h.1
abbrev twoP (n e : Int) : PV := .tup [vI n, vI e]
set_option maxHeartbeats 8000000 in
theorem first_ok (s : ByteArray) (a : Int) (h0 : 0 ≤ a) (h1 : a ≤ s.size) (hs : s.size ≤ 140737488351232) : Ok Tryd.prog 36 [vS s, vI a] (twoP (firstF s a 4 1).1 (firstF s a 4 1).2) := by
  refine Ok.of_pwp (by kernel_rfl) Tryd.func36 rfl (by kernel_rfl) (by kernel_rfl) ?_
  generalize hr : firstF s a 4 1 = r
  simp (implicitDefEqProofs := false) (disch := omega) only [go_sem, simprocAttr, go_sem, ↓ix_enc, encI_len, encI_take, Nat.le_refl]
  refine p_loop (ι := { m : Nat // 1 ≤ m ∧ m ≤ 5 ∧ r = firstF s a (5 - m) m }) (fun m => ⟨[(6, vI m.1), (0, vS s), (1, vI a)], [], [], 0, 0⟩) (fun m => 5 - m.1) ⟨1, by decide, by decide, hr.symm⟩ ?_ ?_
  · refine ⟨?_, ?_, ?_, ?_, ?_, ?_, ?_⟩ <;> simp only [go_sem, simprocAttr, decide_eq_true_eq, Int.natCast_one] <;> try first | omega | ((repeat' (first | exact And.intro rfl (by omega) | (refine And.intro ?_ ?_))) <;> first | rfl | omega | (congr 3; omega) | (congr 2; omega))
  · rintro ⟨m, g1, g2, g3⟩
    have hm : m = 1 ∨ m = 2 ∨ m = 3 ∨ m = 4 ∨ m = 5 := by omega
    simp only
    rcases hm with rfl | rfl | rfl | rfl | rfl
    · simp only [Int.natCast_one]
      simp (implicitDefEqProofs := false) (disch := omega) only [go_sem, simprocAttr, go_sem, ↓ix_enc, encI_len, encI_take, Nat.le_refl]
      with_reducible refine ifK_split (fun hge => ?_) (fun hlt => ?_)
      · simp (implicitDefEqProofs := false) (disch := omega) only [go_sem, simprocAttr, go_sem, ↓ix_enc, encI_len, encI_take, Nat.le_refl, Tryd.results36]
        rw [g3]
        simp only [firstF]
        rw [if_pos (by omega)]
      · have hb := bt_range s a
        simp (implicitDefEqProofs := false) (disch := omega) only [go_sem, simprocAttr, go_sem, ↓ix_enc, encI_len, encI_take, Nat.le_refl]
        refine p_loop (ι := { i : Nat // i < 1 }) (fun i => ⟨[(9, vI (i.1 + 1 : Nat)), (8, vI (accF s a 1 i.1)), (6, vI 1), (0, vS s), (1, vI a)], [], [], 9, 9⟩) (fun i => 1 - i.1) ⟨0, by omega⟩ ?_ ?_
        · simp only [accF, headF]
          refine ⟨?_, ?_, ?_, ?_, ?_, ?_, ?_⟩ <;> simp only [go_sem, simprocAttr, decide_eq_true_eq, Int.natCast_one, Nat.zero_add] <;> try first | omega | ((repeat' (first | exact And.intro rfl (by omega) | (refine And.intro ?_ ?_))) <;> first | rfl | omega | (congr 3; omega) | (congr 2; omega))
        · rintro ⟨i, hi⟩
          simp only
          have hacc := accF_range s a 1 i (by omega)
          simp (implicitDefEqProofs := false) (disch := omega) only [go_sem, simprocAttr, go_sem, ↓ix_enc, encI_len, encI_take, Nat.le_refl]
          · have hi2 : i = 1 - 1 := by omega
            subst hi2
            simp only [Nat.reduceSub] at hacc ⊢
            simp (implicitDefEqProofs := false) (disch := omega) only [go_sem, simprocAttr, go_sem, ↓ix_enc, encI_len, encI_take, Nat.le_refl]
            with_reducible refine CallOk.of (ris_ok _) rfl ?_
            simp (implicitDefEqProofs := false) (disch := omega) only [go_sem, simprocAttr, go_sem, ↓ix_enc, encI_len, encI_take, Nat.le_refl]
            with_reducible refine ifK_bsplit (fun hn => ?_) (fun hn => ?_)
            · have hn' : isF (accF s a 1 (1 - 1)) = false := by simpa using hn
              simp (implicitDefEqProofs := false) (disch := omega) only [go_sem, simprocAttr, go_sem, ↓ix_enc, encI_len, encI_take, Nat.le_refl]
              refine ⟨⟨2, by omega, by omega, ?_⟩, by simp only; omega, ?_⟩
              · rw [g3]
                simp only [firstF]
                rw [if_neg (by omega), hn', Bool.false_and]
                rfl
              · refine ⟨?_, ?_, ?_, ?_, ?_, ?_, ?_⟩ <;> simp only [go_sem, simprocAttr, decide_eq_true_eq, Int.cast_ofNat_Int] <;> try first | omega | ((repeat' (first | exact And.intro rfl (by omega) | (refine And.intro ?_ ?_))) <;> first | rfl | omega | (congr 3; omega) | (congr 2; omega))
            · have hn' : isF (accF s a 1 (1 - 1)) = true := by simpa using hn
              have hp : 0 ≤ accF s a 1 (1 - 1) ∧ accF s a 1 (1 - 1) ≤ 1114111 := by
                unfold isF at hn'
                simp only [decide_eq_true_eq] at hn'
                omega
              simp only [Nat.reduceSub] at hp
              simp (implicitDefEqProofs := false) (disch := omega) only [go_sem, simprocAttr, go_sem, ↓ix_enc, encI_len, encI_take, Nat.le_refl]
              with_reducible refine CallOk.of (bytes_ok _ hp.1 hp.2) rfl ?_
              simp (implicitDefEqProofs := false) (disch := omega) only [go_sem, simprocAttr, go_sem, ↓ix_enc, encI_len, encI_take, Nat.le_refl]
              refine p_loop (ι := { j : Nat // j ≤ 1 }) (fun j => ⟨[(12, vI j.1), (11, vB (sameF (bytesF (accF s a 1 (1 - 1))) s a 1 j.1)), (10, .sl (encI (bytesF (accF s a 1 (1 - 1))))), (8, vI (accF s a 1 (1 - 1))), (6, vI 1), (0, vS s), (1, vI a)], [], [], 9, 9⟩) (fun j => 1 - j.1) ⟨0, by omega⟩ ?_ ?_
              · simp only [sameF, Int.cast_ofNat_Int, Int.natCast_one]
                refine ⟨?_, ?_, ?_, ?_, ?_, ?_, ?_⟩ <;> simp only [go_sem, simprocAttr, decide_eq_true_eq, Int.natCast_zero] <;> try first | omega | ((repeat' (first | exact And.intro rfl (by omega) | (refine And.intro ?_ ?_))) <;> first | rfl | omega | (congr 3; omega) | (congr 2; omega))
              · rintro ⟨j, hj⟩
                simp only
                generalize hbs : bytesF (accF s a 1 (1 - 1)) = B at *
                have hbj := bt_range s (a + j)
                simp (implicitDefEqProofs := false) (disch := omega) only [go_sem, simprocAttr, go_sem, ↓ix_enc, encI_len, encI_take, Nat.le_refl]
                with_reducible refine ifK_bsplit (fun hs1 => ?_) (fun hs1 => ?_)
                · have hlen := sameF_len hs1
                  simp (implicitDefEqProofs := false) (disch := omega) only [go_sem, simprocAttr, go_sem, ↓ix_enc, encI_len, encI_take, Nat.le_refl, hs1]
                  with_reducible refine ifK_split (fun hj1 => ?_) (fun hj1 => ?_)
                  · simp (implicitDefEqProofs := false) (disch := omega) only [go_sem, simprocAttr, go_sem, ↓ix_enc, encI_len, encI_take, Nat.le_refl, hs1]
                    have e3 : sameF B s a 1 (j + 1) = decide (B.getD j 0 = bt s (a + j)) := by simp only [sameF, hs1, Bool.true_and]
                    refine ⟨⟨j + 1, by omega⟩, by simp only; omega, ?_⟩
                    simp only [e3]
                    refine ⟨?_, ?_, ?_, ?_, ?_, ?_, ?_⟩ <;> simp only [go_sem, simprocAttr, decide_eq_true_eq, Int.natCast_add, Int.natCast_one] <;> try first | omega | ((repeat' (first | exact And.intro rfl (by omega) | (refine And.intro ?_ ?_))) <;> first | rfl | omega | (congr 3; omega) | (congr 2; omega))
                  · have hj2 : j = 1 := by omega
                    subst hj2
                    simp (implicitDefEqProofs := false) (disch := omega) only [go_sem, simprocAttr, go_sem, ↓ix_enc, encI_len, encI_take, Nat.le_refl, hs1, Tryd.results36]
                    rw [g3]
                    simp only [firstF]
                    rw [if_neg (by omega), hn', hbs, hs1]
                    rfl
                · have hs2 := sameF_false hs1 (1 - j)
                  rw [show j + (1 - j) = 1 by omega] at hs2
                  simp (implicitDefEqProofs := false) (disch := omega) only [go_sem, simprocAttr, go_sem, ↓ix_enc, encI_len, encI_take, Nat.le_refl, hs1]
                  refine ⟨⟨2, by omega, by omega, ?_⟩, by simp only; omega, ?_⟩
                  · rw [g3]
                    simp only [firstF]
                    rw [if_neg (by omega), hn', hbs, hs2]
                    rfl
                  · refine ⟨?_, ?_, ?_, ?_, ?_, ?_, ?_⟩ <;> simp only [go_sem, simprocAttr, decide_eq_true_eq, Int.cast_ofNat_Int] <;> try first | omega | ((repeat' (first | exact And.intro rfl (by omega) | (refine And.intro ?_ ?_))) <;> first | rfl | omega | (congr 3; omega) | (congr 2; omega))
    · simp only [Int.cast_ofNat_Int]
      simp (implicitDefEqProofs := false) (disch := omega) only [go_sem, simprocAttr, go_sem, ↓ix_enc, encI_len, encI_take, Nat.le_refl]
      with_reducible refine ifK_split (fun hge => ?_) (fun hlt => ?_)
      · simp (implicitDefEqProofs := false) (disch := omega) only [go_sem, simprocAttr, go_sem, ↓ix_enc, encI_len, encI_take, Nat.le_refl, Tryd.results36]
        rw [g3]
        simp only [firstF]
        rw [if_pos (by omega)]
      · have hb := bt_range s a
        simp (implicitDefEqProofs := false) (disch := omega) only [go_sem, simprocAttr, go_sem, ↓ix_enc, encI_len, encI_take, Nat.le_refl]
        refine p_loop (ι := { i : Nat // i < 2 }) (fun i => ⟨[(9, vI (i.1 + 1 : Nat)), (8, vI (accF s a 2 i.1)), (6, vI 2), (0, vS s), (1, vI a)], [], [], 9, 9⟩) (fun i => 2 - i.1) ⟨0, by omega⟩ ?_ ?_
        · simp only [accF, headF]
          refine ⟨?_, ?_, ?_, ?_, ?_, ?_, ?_⟩ <;> simp only [go_sem, simprocAttr, decide_eq_true_eq, Int.natCast_one, Nat.zero_add] <;> try first | omega | ((repeat' (first | exact And.intro rfl (by omega) | (refine And.intro ?_ ?_))) <;> first | rfl | omega | (congr 3; omega) | (congr 2; omega))
        · rintro ⟨i, hi⟩
          simp only
          have hacc := accF_range s a 2 i (by omega)
          simp (implicitDefEqProofs := false) (disch := omega) only [go_sem, simprocAttr, go_sem, ↓ix_enc, encI_len, encI_take, Nat.le_refl]
          with_reducible refine ifK_split (fun hlt2 => ?_) (fun hge2 => ?_)
          · have hacc2 := accF_range s a 2 (i + 1) (by omega)
            have hb2 := bt_range s (a + (i + 1 : Nat))
            have e2 : accF s a 2 (i + 1) = accF s a 2 i * 64 + bt s (a + (i + 1 : Nat)) - 128 := by simp only [accF]; rfl
            simp (implicitDefEqProofs := false) (disch := omega) only [go_sem, simprocAttr, go_sem, ↓ix_enc, encI_len, encI_take, Nat.le_refl]
            refine ⟨⟨i + 1, by omega⟩, by simp only; omega, ?_⟩
            simp only [e2]
            refine ⟨?_, ?_, ?_, ?_, ?_, ?_, ?_⟩ <;> simp only [go_sem, simprocAttr, decide_eq_true_eq, Int.natCast_add, Int.natCast_one] <;> try first | omega | ((repeat' (first | exact And.intro rfl (by omega) | (refine And.intro ?_ ?_))) <;> first | rfl | omega | (congr 3; omega) | (congr 2; omega))
          · have hi2 : i = 2 - 1 := by omega
            subst hi2
            simp only [Nat.reduceSub] at hacc ⊢
            simp (implicitDefEqProofs := false) (disch := omega) only [go_sem, simprocAttr, go_sem, ↓ix_enc, encI_len, encI_take, Nat.le_refl]
            with_reducible refine CallOk.of (ris_ok _) rfl ?_
            simp (implicitDefEqProofs := false) (disch := omega) only [go_sem, simprocAttr, go_sem, ↓ix_enc, encI_len, encI_take, Nat.le_refl]
            with_reducible refine ifK_bsplit (fun hn => ?_) (fun hn => ?_)
            · have hn' : isF (accF s a 2 (2 - 1)) = false := by simpa using hn
              simp (implicitDefEqProofs := false) (disch := omega) only [go_sem, simprocAttr, go_sem, ↓ix_enc, encI_len, encI_take, Nat.le_refl]
              refine ⟨⟨3, by omega, by omega, ?_⟩, by simp only; omega, ?_⟩
              · rw [g3]
                simp only [firstF]
                rw [if_neg (by omega), hn', Bool.false_and]
                rfl
              · refine ⟨?_, ?_, ?_, ?_, ?_, ?_, ?_⟩ <;> simp only [go_sem, simprocAttr, decide_eq_true_eq, Int.cast_ofNat_Int] <;> try first | omega | ((repeat' (first | exact And.intro rfl (by omega) | (refine And.intro ?_ ?_))) <;> first | rfl | omega | (congr 3; omega) | (congr 2; omega))
            · have hn' : isF (accF s a 2 (2 - 1)) = true := by simpa using hn
              have hp : 0 ≤ accF s a 2 (2 - 1) ∧ accF s a 2 (2 - 1) ≤ 1114111 := by
                unfold isF at hn'
                simp only [decide_eq_true_eq] at hn'
                omega
              simp only [Nat.reduceSub] at hp
              simp (implicitDefEqProofs := false) (disch := omega) only [go_sem, simprocAttr, go_sem, ↓ix_enc, encI_len, encI_take, Nat.le_refl]
              with_reducible refine CallOk.of (bytes_ok _ hp.1 hp.2) rfl ?_
              simp (implicitDefEqProofs := false) (disch := omega) only [go_sem, simprocAttr, go_sem, ↓ix_enc, encI_len, encI_take, Nat.le_refl]
              refine p_loop (ι := { j : Nat // j ≤ 2 }) (fun j => ⟨[(12, vI j.1), (11, vB (sameF (bytesF (accF s a 2 (2 - 1))) s a 2 j.1)), (10, .sl (encI (bytesF (accF s a 2 (2 - 1))))), (8, vI (accF s a 2 (2 - 1))), (6, vI 2), (0, vS s), (1, vI a)], [], [], 9, 9⟩) (fun j => 2 - j.1) ⟨0, by omega⟩ ?_ ?_
              · simp only [sameF, Int.cast_ofNat_Int, Int.natCast_one]
                refine ⟨?_, ?_, ?_, ?_, ?_, ?_, ?_⟩ <;> simp only [go_sem, simprocAttr, decide_eq_true_eq, Int.natCast_zero] <;> try first | omega | ((repeat' (first | exact And.intro rfl (by omega) | (refine And.intro ?_ ?_))) <;> first | rfl | omega | (congr 3; omega) | (congr 2; omega))
              · rintro ⟨j, hj⟩
                simp only
                generalize hbs : bytesF (accF s a 2 (2 - 1)) = B at *
                have hbj := bt_range s (a + j)
                simp (implicitDefEqProofs := false) (disch := omega) only [go_sem, simprocAttr, go_sem, ↓ix_enc, encI_len, encI_take, Nat.le_refl]
                with_reducible refine ifK_bsplit (fun hs1 => ?_) (fun hs1 => ?_)
                · have hlen := sameF_len hs1
                  simp (implicitDefEqProofs := false) (disch := omega) only [go_sem, simprocAttr, go_sem, ↓ix_enc, encI_len, encI_take, Nat.le_refl, hs1]
                  with_reducible refine ifK_split (fun hj1 => ?_) (fun hj1 => ?_)
                  · simp (implicitDefEqProofs := false) (disch := omega) only [go_sem, simprocAttr, go_sem, ↓ix_enc, encI_len, encI_take, Nat.le_refl, hs1]
                    have e3 : sameF B s a 2 (j + 1) = decide (B.getD j 0 = bt s (a + j)) := by simp only [sameF, hs1, Bool.true_and]
                    refine ⟨⟨j + 1, by omega⟩, by simp only; omega, ?_⟩
                    simp only [e3]
                    refine ⟨?_, ?_, ?_, ?_, ?_, ?_, ?_⟩ <;> simp only [go_sem, simprocAttr, decide_eq_true_eq, Int.natCast_add, Int.natCast_one] <;> try first | omega | ((repeat' (first | exact And.intro rfl (by omega) | (refine And.intro ?_ ?_))) <;> first | rfl | omega | (congr 3; omega) | (congr 2; omega))
                  · have hj2 : j = 2 := by omega
                    subst hj2
                    simp (implicitDefEqProofs := false) (disch := omega) only [go_sem, simprocAttr, go_sem, ↓ix_enc, encI_len, encI_take, Nat.le_refl, hs1, Tryd.results36]
                    rw [g3]
                    simp only [firstF]
                    rw [if_neg (by omega), hn', hbs, hs1]
                    rfl
                · have hs2 := sameF_false hs1 (2 - j)
                  rw [show j + (2 - j) = 2 by omega] at hs2
                  simp (implicitDefEqProofs := false) (disch := omega) only [go_sem, simprocAttr, go_sem, ↓ix_enc, encI_len, encI_take, Nat.le_refl, hs1]
                  refine ⟨⟨3, by omega, by omega, ?_⟩, by simp only; omega, ?_⟩
                  · rw [g3]
                    simp only [firstF]
                    rw [if_neg (by omega), hn', hbs, hs2]
                    rfl
                  · refine ⟨?_, ?_, ?_, ?_, ?_, ?_, ?_⟩ <;> simp only [go_sem, simprocAttr, decide_eq_true_eq, Int.cast_ofNat_Int] <;> try first | omega | ((repeat' (first | exact And.intro rfl (by omega) | (refine And.intro ?_ ?_))) <;> first | rfl | omega | (congr 3; omega) | (congr 2; omega))
    · simp only [Int.cast_ofNat_Int]
      simp (implicitDefEqProofs := false) (disch := omega) only [go_sem, simprocAttr, go_sem, ↓ix_enc, encI_len, encI_take, Nat.le_refl]
      with_reducible refine ifK_split (fun hge => ?_) (fun hlt => ?_)
      · simp (implicitDefEqProofs := false) (disch := omega) only [go_sem, simprocAttr, go_sem, ↓ix_enc, encI_len, encI_take, Nat.le_refl, Tryd.results36]
        rw [g3]
        simp only [firstF]
        rw [if_pos (by omega)]
      · have hb := bt_range s a
        simp (implicitDefEqProofs := false) (disch := omega) only [go_sem, simprocAttr, go_sem, ↓ix_enc, encI_len, encI_take, Nat.le_refl]
        refine p_loop (ι := { i : Nat // i < 3 }) (fun i => ⟨[(9, vI (i.1 + 1 : Nat)), (8, vI (accF s a 3 i.1)), (6, vI 3), (0, vS s), (1, vI a)], [], [], 9, 9⟩) (fun i => 3 - i.1) ⟨0, by omega⟩ ?_ ?_
        · simp only [accF, headF]
          refine ⟨?_, ?_, ?_, ?_, ?_, ?_, ?_⟩ <;> simp only [go_sem, simprocAttr, decide_eq_true_eq, Int.natCast_one, Nat.zero_add] <;> try first | omega | ((repeat' (first | exact And.intro rfl (by omega) | (refine And.intro ?_ ?_))) <;> first | rfl | omega | (congr 3; omega) | (congr 2; omega))
        · rintro ⟨i, hi⟩
          simp only
          have hacc := accF_range s a 3 i (by omega)
          simp (implicitDefEqProofs := false) (disch := omega) only [go_sem, simprocAttr, go_sem, ↓ix_enc, encI_len, encI_take, Nat.le_refl]
          with_reducible refine ifK_split (fun hlt2 => ?_) (fun hge2 => ?_)
          · have hacc2 := accF_range s a 3 (i + 1) (by omega)
            have hb2 := bt_range s (a + (i + 1 : Nat))
            have e2 : accF s a 3 (i + 1) = accF s a 3 i * 64 + bt s (a + (i + 1 : Nat)) - 128 := by simp only [accF]; rfl
            simp (implicitDefEqProofs := false) (disch := omega) only [go_sem, simprocAttr, go_sem, ↓ix_enc, encI_len, encI_take, Nat.le_refl]
            refine ⟨⟨i + 1, by omega⟩, by simp only; omega, ?_⟩
            simp only [e2]
            refine ⟨?_, ?_, ?_, ?_, ?_, ?_, ?_⟩ <;> simp only [go_sem, simprocAttr, decide_eq_true_eq, Int.natCast_add, Int.natCast_one] <;> try first | omega | ((repeat' (first | exact And.intro rfl (by omega) | (refine And.intro ?_ ?_))) <;> first | rfl | omega | (congr 3; omega) | (congr 2; omega))
          · have hi2 : i = 3 - 1 := by omega
            subst hi2
            simp only [Nat.reduceSub] at hacc ⊢
            simp (implicitDefEqProofs := false) (disch := omega) only [go_sem, simprocAttr, go_sem, ↓ix_enc, encI_len, encI_take, Nat.le_refl]
            with_reducible refine CallOk.of (ris_ok _) rfl ?_
            simp (implicitDefEqProofs := false) (disch := omega) only [go_sem, simprocAttr, go_sem, ↓ix_enc, encI_len, encI_take, Nat.le_refl]
            with_reducible refine ifK_bsplit (fun hn => ?_) (fun hn => ?_)
            · have hn' : isF (accF s a 3 (3 - 1)) = false := by simpa using hn
              simp (implicitDefEqProofs := false) (disch := omega) only [go_sem, simprocAttr, go_sem, ↓ix_enc, encI_len, encI_take, Nat.le_refl]
              refine ⟨⟨4, by omega, by omega, ?_⟩, by simp only; omega, ?_⟩
              · rw [g3]
                simp only [firstF]
                rw [if_neg (by omega), hn', Bool.false_and]
                rfl
              · refine ⟨?_, ?_, ?_, ?_, ?_, ?_, ?_⟩ <;> simp only [go_sem, simprocAttr, decide_eq_true_eq, Int.cast_ofNat_Int] <;> try first | omega | ((repeat' (first | exact And.intro rfl (by omega) | (refine And.intro ?_ ?_))) <;> first | rfl | omega | (congr 3; omega) | (congr 2; omega))
            · have hn' : isF (accF s a 3 (3 - 1)) = true := by simpa using hn
              have hp : 0 ≤ accF s a 3 (3 - 1) ∧ accF s a 3 (3 - 1) ≤ 1114111 := by
                unfold isF at hn'
                simp only [decide_eq_true_eq] at hn'
                omega
              simp only [Nat.reduceSub] at hp
              simp (implicitDefEqProofs := false) (disch := omega) only [go_sem, simprocAttr, go_sem, ↓ix_enc, encI_len, encI_take, Nat.le_refl]
              with_reducible refine CallOk.of (bytes_ok _ hp.1 hp.2) rfl ?_
              simp (implicitDefEqProofs := false) (disch := omega) only [go_sem, simprocAttr, go_sem, ↓ix_enc, encI_len, encI_take, Nat.le_refl]
              refine p_loop (ι := { j : Nat // j ≤ 3 }) (fun j => ⟨[(12, vI j.1), (11, vB (sameF (bytesF (accF s a 3 (3 - 1))) s a 3 j.1)), (10, .sl (encI (bytesF (accF s a 3 (3 - 1))))), (8, vI (accF s a 3 (3 - 1))), (6, vI 3), (0, vS s), (1, vI a)], [], [], 9, 9⟩) (fun j => 3 - j.1) ⟨0, by omega⟩ ?_ ?_
              · simp only [sameF, Int.cast_ofNat_Int, Int.natCast_one]
                refine ⟨?_, ?_, ?_, ?_, ?_, ?_, ?_⟩ <;> simp only [go_sem, simprocAttr, decide_eq_true_eq, Int.natCast_zero] <;> try first | omega | ((repeat' (first | exact And.intro rfl (by omega) | (refine And.intro ?_ ?_))) <;> first | rfl | omega | (congr 3; omega) | (congr 2; omega))
              · rintro ⟨j, hj⟩
                simp only
                generalize hbs : bytesF (accF s a 3 (3 - 1)) = B at *
                have hbj := bt_range s (a + j)
                simp (implicitDefEqProofs := false) (disch := omega) only [go_sem, simprocAttr, go_sem, ↓ix_enc, encI_len, encI_take, Nat.le_refl]
                with_reducible refine ifK_bsplit (fun hs1 => ?_) (fun hs1 => ?_)
                · have hlen := sameF_len hs1
                  simp (implicitDefEqProofs := false) (disch := omega) only [go_sem, simprocAttr, go_sem, ↓ix_enc, encI_len, encI_take, Nat.le_refl, hs1]
                  with_reducible refine ifK_split (fun hj1 => ?_) (fun hj1 => ?_)
                  · simp (implicitDefEqProofs := false) (disch := omega) only [go_sem, simprocAttr, go_sem, ↓ix_enc, encI_len, encI_take, Nat.le_refl, hs1]
                    have e3 : sameF B s a 3 (j + 1) = decide (B.getD j 0 = bt s (a + j)) := by simp only [sameF, hs1, Bool.true_and]
                    refine ⟨⟨j + 1, by omega⟩, by simp only; omega, ?_⟩
                    simp only [e3]
                    refine ⟨?_, ?_, ?_, ?_, ?_, ?_, ?_⟩ <;> simp only [go_sem, simprocAttr, decide_eq_true_eq, Int.natCast_add, Int.natCast_one] <;> try first | omega | ((repeat' (first | exact And.intro rfl (by omega) | (refine And.intro ?_ ?_))) <;> first | rfl | omega | (congr 3; omega) | (congr 2; omega))
                  · have hj2 : j = 3 := by omega
                    subst hj2
                    simp (implicitDefEqProofs := false) (disch := omega) only [go_sem, simprocAttr, go_sem, ↓ix_enc, encI_len, encI_take, Nat.le_refl, hs1, Tryd.results36]
                    rw [g3]
                    simp only [firstF]
                    rw [if_neg (by omega), hn', hbs, hs1]
                    rfl
                · have hs2 := sameF_false hs1 (3 - j)
                  rw [show j + (3 - j) = 3 by omega] at hs2
                  simp (implicitDefEqProofs := false) (disch := omega) only [go_sem, simprocAttr, go_sem, ↓ix_enc, encI_len, encI_take, Nat.le_refl, hs1]
                  refine ⟨⟨4, by omega, by omega, ?_⟩, by simp only; omega, ?_⟩
                  · rw [g3]
                    simp only [firstF]
                    rw [if_neg (by omega), hn', hbs, hs2]
                    rfl
                  · refine ⟨?_, ?_, ?_, ?_, ?_, ?_, ?_⟩ <;> simp only [go_sem, simprocAttr, decide_eq_true_eq, Int.cast_ofNat_Int] <;> try first | omega | ((repeat' (first | exact And.intro rfl (by omega) | (refine And.intro ?_ ?_))) <;> first | rfl | omega | (congr 3; omega) | (congr 2; omega))
    · simp only [Int.cast_ofNat_Int]
      simp (implicitDefEqProofs := false) (disch := omega) only [go_sem, simprocAttr, go_sem, ↓ix_enc, encI_len, encI_take, Nat.le_refl]
      with_reducible refine ifK_split (fun hge => ?_) (fun hlt => ?_)
      · simp (implicitDefEqProofs := false) (disch := omega) only [go_sem, simprocAttr, go_sem, ↓ix_enc, encI_len, encI_take, Nat.le_refl, Tryd.results36]
        rw [g3]
        simp only [firstF]
        rw [if_pos (by omega)]
      · have hb := bt_range s a
        simp (implicitDefEqProofs := false) (disch := omega) only [go_sem, simprocAttr, go_sem, ↓ix_enc, encI_len, encI_take, Nat.le_refl]
        refine p_loop (ι := { i : Nat // i < 4 }) (fun i => ⟨[(9, vI (i.1 + 1 : Nat)), (8, vI (accF s a 4 i.1)), (6, vI 4), (0, vS s), (1, vI a)], [], [], 9, 9⟩) (fun i => 4 - i.1) ⟨0, by omega⟩ ?_ ?_
        · simp only [accF, headF]
          refine ⟨?_, ?_, ?_, ?_, ?_, ?_, ?_⟩ <;> simp only [go_sem, simprocAttr, decide_eq_true_eq, Int.natCast_one, Nat.zero_add] <;> try first | omega | ((repeat' (first | exact And.intro rfl (by omega) | (refine And.intro ?_ ?_))) <;> first | rfl | omega | (congr 3; omega) | (congr 2; omega))
        · rintro ⟨i, hi⟩
          simp only
          have hacc := accF_range s a 4 i (by omega)
          simp (implicitDefEqProofs := false) (disch := omega) only [go_sem, simprocAttr, go_sem, ↓ix_enc, encI_len, encI_take, Nat.le_refl]
          with_reducible refine ifK_split (fun hlt2 => ?_) (fun hge2 => ?_)
          · have hacc2 := accF_range s a 4 (i + 1) (by omega)
            have hb2 := bt_range s (a + (i + 1 : Nat))
            have e2 : accF s a 4 (i + 1) = accF s a 4 i * 64 + bt s (a + (i + 1 : Nat)) - 128 := by simp only [accF]; rfl
            simp (implicitDefEqProofs := false) (disch := omega) only [go_sem, simprocAttr, go_sem, ↓ix_enc, encI_len, encI_take, Nat.le_refl]
            refine ⟨⟨i + 1, by omega⟩, by simp only; omega, ?_⟩
            simp only [e2]
            refine ⟨?_, ?_, ?_, ?_, ?_, ?_, ?_⟩ <;> simp only [go_sem, simprocAttr, decide_eq_true_eq, Int.natCast_add, Int.natCast_one] <;> try first | omega | ((repeat' (first | exact And.intro rfl (by omega) | (refine And.intro ?_ ?_))) <;> first | rfl | omega | (congr 3; omega) | (congr 2; omega))
          · have hi2 : i = 4 - 1 := by omega
            subst hi2
            simp only [Nat.reduceSub] at hacc ⊢
            simp (implicitDefEqProofs := false) (disch := omega) only [go_sem, simprocAttr, go_sem, ↓ix_enc, encI_len, encI_take, Nat.le_refl]
            with_reducible refine CallOk.of (ris_ok _) rfl ?_
            simp (implicitDefEqProofs := false) (disch := omega) only [go_sem, simprocAttr, go_sem, ↓ix_enc, encI_len, encI_take, Nat.le_refl]
            with_reducible refine ifK_bsplit (fun hn => ?_) (fun hn => ?_)
            · have hn' : isF (accF s a 4 (4 - 1)) = false := by simpa using hn
              simp (implicitDefEqProofs := false) (disch := omega) only [go_sem, simprocAttr, go_sem, ↓ix_enc, encI_len, encI_take, Nat.le_refl]
              refine ⟨⟨5, by omega, by omega, ?_⟩, by simp only; omega, ?_⟩
              · rw [g3]
                simp only [firstF]
                rw [if_neg (by omega), hn', Bool.false_and]
                rfl
              · refine ⟨?_, ?_, ?_, ?_, ?_, ?_, ?_⟩ <;> simp only [go_sem, simprocAttr, decide_eq_true_eq, Int.cast_ofNat_Int] <;> try first | omega | ((repeat' (first | exact And.intro rfl (by omega) | (refine And.intro ?_ ?_))) <;> first | rfl | omega | (congr 3; omega) | (congr 2; omega))
            · have hn' : isF (accF s a 4 (4 - 1)) = true := by simpa using hn
              have hp : 0 ≤ accF s a 4 (4 - 1) ∧ accF s a 4 (4 - 1) ≤ 1114111 := by
                unfold isF at hn'
                simp only [decide_eq_true_eq] at hn'
                omega
              simp only [Nat.reduceSub] at hp
              simp (implicitDefEqProofs := false) (disch := omega) only [go_sem, simprocAttr, go_sem, ↓ix_enc, encI_len, encI_take, Nat.le_refl]
              with_reducible refine CallOk.of (bytes_ok _ hp.1 hp.2) rfl ?_
              simp (implicitDefEqProofs := false) (disch := omega) only [go_sem, simprocAttr, go_sem, ↓ix_enc, encI_len, encI_take, Nat.le_refl]
              refine p_loop (ι := { j : Nat // j ≤ 4 }) (fun j => ⟨[(12, vI j.1), (11, vB (sameF (bytesF (accF s a 4 (4 - 1))) s a 4 j.1)), (10, .sl (encI (bytesF (accF s a 4 (4 - 1))))), (8, vI (accF s a 4 (4 - 1))), (6, vI 4), (0, vS s), (1, vI a)], [], [], 9, 9⟩) (fun j => 4 - j.1) ⟨0, by omega⟩ ?_ ?_
              · simp only [sameF, Int.cast_ofNat_Int, Int.natCast_one]
                refine ⟨?_, ?_, ?_, ?_, ?_, ?_, ?_⟩ <;> simp only [go_sem, simprocAttr, decide_eq_true_eq, Int.natCast_zero] <;> try first | omega | ((repeat' (first | exact And.intro rfl (by omega) | (refine And.intro ?_ ?_))) <;> first | rfl | omega | (congr 3; omega) | (congr 2; omega))
              · rintro ⟨j, hj⟩
                simp only
                generalize hbs : bytesF (accF s a 4 (4 - 1)) = B at *
                have hbj := bt_range s (a + j)
                simp (implicitDefEqProofs := false) (disch := omega) only [go_sem, simprocAttr, go_sem, ↓ix_enc, encI_len, encI_take, Nat.le_refl]
                with_reducible refine ifK_bsplit (fun hs1 => ?_) (fun hs1 => ?_)
                · have hlen := sameF_len hs1
                  simp (implicitDefEqProofs := false) (disch := omega) only [go_sem, simprocAttr, go_sem, ↓ix_enc, encI_len, encI_take, Nat.le_refl, hs1]
                  with_reducible refine ifK_split (fun hj1 => ?_) (fun hj1 => ?_)
                  · simp (implicitDefEqProofs := false) (disch := omega) only [go_sem, simprocAttr, go_sem, ↓ix_enc, encI_len, encI_take, Nat.le_refl, hs1]
                    have e3 : sameF B s a 4 (j + 1) = decide (B.getD j 0 = bt s (a + j)) := by simp only [sameF, hs1, Bool.true_and]
                    refine ⟨⟨j + 1, by omega⟩, by simp only; omega, ?_⟩
                    simp only [e3]
                    refine ⟨?_, ?_, ?_, ?_, ?_, ?_, ?_⟩ <;> simp only [go_sem, simprocAttr, decide_eq_true_eq, Int.natCast_add, Int.natCast_one] <;> try first | omega | ((repeat' (first | exact And.intro rfl (by omega) | (refine And.intro ?_ ?_))) <;> first | rfl | omega | (congr 3; omega) | (congr 2; omega))
                  · have hj2 : j = 4 := by omega
                    subst hj2
                    simp (implicitDefEqProofs := false) (disch := omega) only [go_sem, simprocAttr, go_sem, ↓ix_enc, encI_len, encI_take, Nat.le_refl, hs1, Tryd.results36]
                    rw [g3]
                    simp only [firstF]
                    rw [if_neg (by omega), hn', hbs, hs1]
                    rfl
                · have hs2 := sameF_false hs1 (4 - j)
                  rw [show j + (4 - j) = 4 by omega] at hs2
                  simp (implicitDefEqProofs := false) (disch := omega) only [go_sem, simprocAttr, go_sem, ↓ix_enc, encI_len, encI_take, Nat.le_refl, hs1]
                  refine ⟨⟨5, by omega, by omega, ?_⟩, by simp only; omega, ?_⟩
                  · rw [g3]
                    simp only [firstF]
                    rw [if_neg (by omega), hn', hbs, hs2]
                    rfl
                  · refine ⟨?_, ?_, ?_, ?_, ?_, ?_, ?_⟩ <;> simp only [go_sem, simprocAttr, decide_eq_true_eq, Int.cast_ofNat_Int] <;> try first | omega | ((repeat' (first | exact And.intro rfl (by omega) | (refine And.intro ?_ ?_))) <;> first | rfl | omega | (congr 3; omega) | (congr 2; omega))
    · simp only [Int.cast_ofNat_Int]
      simp (implicitDefEqProofs := false) (disch := omega) only [go_sem, simprocAttr, go_sem, ↓ix_enc, encI_len, encI_take, Nat.le_refl, Tryd.results36]
      rw [g3]
      rfl

end Go.Proofs.YtmfaejdnaippkaaDoor

end
section
/-
  Contracts and plain laws on the way to the statement; each says its own conditions.
-/

open Go Go.Proofs Go.Pw
namespace Go.Proofs.YtmfaejdnaippkaaDoor
set_option maxRecDepth 4000
set_option linter.unusedVariables false
set_option linter.unusedSimpArgs false
def byteN (s : ByteArray) (i : Nat) : Nat := (s.data.toList.getD i 0).toNat
theorem byteN_lt (s : ByteArray) (i : Nat) : byteN s i < 256 := UInt8.toNat_lt _
theorem bt_byteN (s : ByteArray) (i : Nat) : bt s i = byteN s i := rfl
theorem get!_byteN (s : ByteArray) (i : Nat) : (s.get! i).toNat = byteN s i := by
  unfold byteN
  cases s with
  | mk a =>
    show (a[i]!).toNat = _
    rw [getElem!_def, List.getD_eq_getElem?_getD]
    simp only [Array.getElem?_toList]
    cases a[i]? <;> rfl
def goodN (r : Nat × Nat) : Int × Int := if r = (65533, 1) then (-1, 0) else (r.1, r.2)
theorem try1 (s : ByteArray) (i : Nat) : (isF (accF s i 1 0) && sameF (bytesF (accF s i 1 0)) s i 1 1) = decide (byteN s i < 128) := by
  have hb := byteN_lt s i
  have e : accF s i 1 0 = byteN s i := by simp [accF, headF, bt_byteN]
  rw [e]
  simp only [sameF, isF, Int.natCast_zero, Int.add_zero, bt_byteN]
  unfold bytesF
  rw [Bool.eq_iff_iff]
  simp only [Bool.and_eq_true, decide_eq_true_eq]
  split
  · simp; omega
  · rw [if_pos (by omega)]
    simp
    omega
theorem try2 (s : ByteArray) (i : Nat) : (isF (accF s i 2 1) && sameF (bytesF (accF s i 2 1)) s i 2 2) = decide (194 ≤ byteN s i ∧ byteN s i < 224 ∧ 128 ≤ byteN s (i + 1) ∧ byteN s (i + 1) < 192) := by
  have hb := byteN_lt s i
  have hb1 := byteN_lt s (i + 1)
  have e : accF s i 2 1 = ((byteN s i : Int) - 192) * 64 + byteN s (i + 1) - 128 := by
    have : ((i : Int) + (((0 : Nat) : Int) + 1)) = ((i + 1 : Nat) : Int) := by omega
    simp only [accF, headF, bt_byteN, this]
  rw [e]
  have e1 : ((i : Int) + ((1 : Nat) : Int)) = ((i + 1 : Nat) : Int) := by omega
  simp only [sameF, isF, Int.natCast_zero, Int.add_zero, bt_byteN, e1]
  generalize byteN s i = x at *
  generalize byteN s (i + 1) = y at *
  unfold bytesF
  rw [Bool.eq_iff_iff]
  simp only [Bool.and_eq_true, decide_eq_true_eq]
  repeat' split
  all_goals simp
  all_goals omega
theorem try3 (s : ByteArray) (i : Nat) : (isF (accF s i 3 2) && sameF (bytesF (accF s i 3 2)) s i 3 3) = decide (224 ≤ byteN s i ∧ byteN s i < 240 ∧ 128 ≤ byteN s (i + 1) ∧ byteN s (i + 1) < 192 ∧ 128 ≤ byteN s (i + 2) ∧ byteN s (i + 2) < 192 ∧
    2048 ≤ (byteN s i - 224) * 4096 + (byteN s (i + 1) - 128) * 64 + (byteN s (i + 2) - 128) ∧ ((byteN s i - 224) * 4096 + (byteN s (i + 1) - 128) * 64 + (byteN s (i + 2) - 128) < 55296 ∨ 57344 ≤ (byteN s i - 224) * 4096 + (byteN s (i + 1) - 128) * 64 + (byteN s (i + 2) - 128))) := by
  have hb := byteN_lt s i
  have hb1 := byteN_lt s (i + 1)
  have hb2 := byteN_lt s (i + 2)
  have e : accF s i 3 2 = (((byteN s i : Int) - 224) * 64 + byteN s (i + 1) - 128) * 64 + byteN s (i + 2) - 128 := by
    have h1 : ((i : Int) + (((0 : Nat) : Int) + 1)) = ((i + 1 : Nat) : Int) := by omega
    have h2 : ((i : Int) + (((1 : Nat) : Int) + 1)) = ((i + 2 : Nat) : Int) := by omega
    simp only [accF, headF, bt_byteN, h1, h2]
  rw [e]
  have e1 : ((i : Int) + ((1 : Nat) : Int)) = ((i + 1 : Nat) : Int) := by omega
  have e2 : ((i : Int) + ((2 : Nat) : Int)) = ((i + 2 : Nat) : Int) := by omega
  simp only [sameF, isF, Int.natCast_zero, Int.add_zero, bt_byteN, e1, e2]
  generalize byteN s i = x at *
  generalize byteN s (i + 1) = y at *
  generalize byteN s (i + 2) = z at *
  unfold bytesF
  rw [Bool.eq_iff_iff]
  simp only [Bool.and_eq_true, decide_eq_true_eq]
  repeat' split
  all_goals simp
  all_goals omega
theorem try4 (s : ByteArray) (i : Nat) : (isF (accF s i 4 3) && sameF (bytesF (accF s i 4 3)) s i 4 4) = decide (240 ≤ byteN s i ∧ byteN s i < 248 ∧ 128 ≤ byteN s (i + 1) ∧ byteN s (i + 1) < 192 ∧ 128 ≤ byteN s (i + 2) ∧ byteN s (i + 2) < 192 ∧ 128 ≤ byteN s (i + 3) ∧ byteN s (i + 3) < 192 ∧
    65536 ≤ (byteN s i - 240) * 262144 + (byteN s (i + 1) - 128) * 4096 + (byteN s (i + 2) - 128) * 64 + (byteN s (i + 3) - 128) ∧ (byteN s i - 240) * 262144 + (byteN s (i + 1) - 128) * 4096 + (byteN s (i + 2) - 128) * 64 + (byteN s (i + 3) - 128) ≤ 1114111) := by
  have hb := byteN_lt s i
  have hb1 := byteN_lt s (i + 1)
  have hb2 := byteN_lt s (i + 2)
  have hb3 := byteN_lt s (i + 3)
  have e : accF s i 4 3 = ((((byteN s i : Int) - 240) * 64 + byteN s (i + 1) - 128) * 64 + byteN s (i + 2) - 128) * 64 + byteN s (i + 3) - 128 := by
    have h1 : ((i : Int) + (((0 : Nat) : Int) + 1)) = ((i + 1 : Nat) : Int) := by omega
    have h2 : ((i : Int) + (((1 : Nat) : Int) + 1)) = ((i + 2 : Nat) : Int) := by omega
    have h3 : ((i : Int) + (((2 : Nat) : Int) + 1)) = ((i + 3 : Nat) : Int) := by omega
    simp only [accF, headF, bt_byteN, h1, h2, h3]
  rw [e]
  have e1 : ((i : Int) + ((1 : Nat) : Int)) = ((i + 1 : Nat) : Int) := by omega
  have e2 : ((i : Int) + ((2 : Nat) : Int)) = ((i + 2 : Nat) : Int) := by omega
  have e3 : ((i : Int) + ((3 : Nat) : Int)) = ((i + 3 : Nat) : Int) := by omega
  simp only [sameF, isF, Int.natCast_zero, Int.add_zero, bt_byteN, e1, e2, e3]
  generalize byteN s i = x at *
  generalize byteN s (i + 1) = y at *
  generalize byteN s (i + 2) = z at *
  generalize byteN s (i + 3) = t at *
  unfold bytesF
  rw [Bool.eq_iff_iff]
  simp only [Bool.and_eq_true, decide_eq_true_eq]
  repeat' split
  all_goals simp
  all_goals omega
theorem acc1 (s : ByteArray) (i : Nat) : accF s i 1 0 = byteN s i := by simp [accF, headF, bt_byteN]
theorem acc2 (s : ByteArray) (i : Nat) : accF s i 2 1 = ((byteN s i : Int) - 192) * 64 + byteN s (i + 1) - 128 := by
  have : ((i : Int) + (((0 : Nat) : Int) + 1)) = ((i + 1 : Nat) : Int) := by omega
  simp only [accF, headF, bt_byteN, this]
theorem acc3 (s : ByteArray) (i : Nat) : accF s i 3 2 = (((byteN s i : Int) - 224) * 64 + byteN s (i + 1) - 128) * 64 + byteN s (i + 2) - 128 := by
  have h1 : ((i : Int) + (((0 : Nat) : Int) + 1)) = ((i + 1 : Nat) : Int) := by omega
  have h2 : ((i : Int) + (((1 : Nat) : Int) + 1)) = ((i + 2 : Nat) : Int) := by omega
  simp only [accF, headF, bt_byteN, h1, h2]
theorem acc4 (s : ByteArray) (i : Nat) : accF s i 4 3 = ((((byteN s i : Int) - 240) * 64 + byteN s (i + 1) - 128) * 64 + byteN s (i + 2) - 128) * 64 + byteN s (i + 3) - 128 := by
  have h1 : ((i : Int) + (((0 : Nat) : Int) + 1)) = ((i + 1 : Nat) : Int) := by omega
  have h2 : ((i : Int) + (((1 : Nat) : Int) + 1)) = ((i + 2 : Nat) : Int) := by omega
  have h3 : ((i : Int) + (((2 : Nat) : Int) + 1)) = ((i + 3 : Nat) : Int) := by omega
  simp only [accF, headF, bt_byteN, h1, h2, h3]
set_option maxHeartbeats 4000000 in
/-- What the reference finds first is what the model's decode finds. -/
theorem first_decode (s : ByteArray) (i : Nat) (h : i < s.size) : firstF s i 4 1 = goodN (Utf8.decode s i) := by
  rw [Lib.decode_at]
  simp only [get!_byteN]
  have hb := byteN_lt s i
  have hb1 := byteN_lt s (i + 1)
  have hb2 := byteN_lt s (i + 2)
  have hb3 := byteN_lt s (i + 3)
  simp only [firstF, Nat.reduceSub, Nat.reduceAdd, try1, try2, try3, try4]
  simp only [acc1, acc2, acc3, acc4, decide_eq_true_eq]
  unfold Lib.decodeN
  generalize byteN s i = x at *
  generalize byteN s (i + 1) = y at *
  generalize byteN s (i + 2) = z at *
  generalize byteN s (i + 3) = t at *
  rw [if_neg (by omega)]
  unfold goodN
  repeat' split
  all_goals first
    | rfl
    | (exfalso; omega)
    | exact absurd rfl (by assumption)
    | exact Prod.ext (by simp only; omega) rfl
    | (simp only [Prod.mk.injEq] at *; omega)

end Go.Proofs.YtmfaejdnaippkaaDoor

end
section
/-
  Contracts and plain laws on the way to the statement; each says its own conditions.
-/
open Go Go.Proofs Go.Pw
namespace Go.Proofs.YtmfaejdnaippkaaDoor
set_option maxRecDepth 4000
set_option linter.unusedVariables false
set_option linter.unusedSimpArgs false
abbrev vR (n : Int) : PV := .val (.int .i32 n)
def runeLenF (n : Int) : Int := if n < 0 then -1 else if n ≤ 127 then 1 else if n ≤ 2047 then 2 else if 55296 ≤ n ∧ n ≤ 57343 then -1 else if n ≤ 65535 then 3 else if n ≤ 1114111 then 4 else -1
theorem runeLen_ok (n : Int) : Ok Tryd.prog 42 [vR n] (vI (runeLenF n)) := by
  refine Ok.of_pwp (by kernel_rfl) Tryd.func42 rfl (by kernel_rfl) (by kernel_rfl) ?_
  unfold runeLenF
  simp (implicitDefEqProofs := false) (disch := omega) only [go_sem, simprocAttr, go_sem, ↓ix_enc, encI_len, encI_take, Nat.le_refl, Tryd.results42]
  repeat' ((first
    | with_reducible refine ifK_split (fun _ => ?_) (fun _ => ?_)) <;> try simp (implicitDefEqProofs := false) (disch := omega) only [go_sem, simprocAttr, go_sem, ↓ix_enc, encI_len, encI_take, Nat.le_refl, Tryd.results42])
  all_goals (congr 2; repeat' split)
  all_goals first | rfl | (exfalso; omega)
def hasPF (s p : ByteArray) : Bool := decide (p.size ≤ s.size) && decide (s.extract 0 p.size = p)
theorem hasP2_ok (s p : ByteArray) : Ok Tryd.prog 58 [vS s, vS p] (vB (hasPF s p)) := by
  refine Ok.of_pwp (by kernel_rfl) Tryd.func58 rfl (by kernel_rfl) (by kernel_rfl) ?_
  simp (implicitDefEqProofs := false) (disch := omega) only [go_sem, simprocAttr, go_sem, ↓ix_enc, encI_len, encI_take, Nat.le_refl, Tryd.results58]
  with_reducible refine ifK_split (fun h => ?_) (fun h => ?_)
  · simp (implicitDefEqProofs := false) (disch := omega) only [go_sem, simprocAttr, go_sem, ↓ix_enc, encI_len, encI_take, Nat.le_refl, Tryd.results58]
    unfold hasPF
    rw [decide_eq_true (by omega : p.size ≤ s.size), Bool.true_and]
  · simp (implicitDefEqProofs := false) (disch := omega) only [go_sem, simprocAttr, go_sem, ↓ix_enc, encI_len, encI_take, Nat.le_refl, Tryd.results58]
    unfold hasPF
    rw [decide_eq_false (by omega : ¬ p.size ≤ s.size), Bool.false_and]
theorem hasP_ok (s p : ByteArray) : Ok Tryd.prog 43 [vS s, vS p] (vB (hasPF s p)) := by
  refine Ok.of_pwp (by kernel_rfl) Tryd.func43 rfl (by kernel_rfl) (by kernel_rfl) ?_
  simp (implicitDefEqProofs := false) (disch := omega) only [go_sem, simprocAttr, go_sem, ↓ix_enc, encI_len, encI_take, Nat.le_refl, Tryd.results43]
  with_reducible refine CallOk.of (hasP2_ok _ _) rfl ?_
  simp (implicitDefEqProofs := false) (disch := omega) only [go_sem, simprocAttr, go_sem, ↓ix_enc, encI_len, encI_take, Nat.le_refl, Tryd.results43]
def decF (s : ByteArray) : Int × Int := if s.size = 0 then (-1, 0) else if ((Utf8.decode s 0).1 : Int) = 65533 ∧ hasPF s ⟨#[239, 191, 189]⟩ = false then (-1, 0) else ((Utf8.decode s 0).1, runeLenF (Utf8.decode s 0).1)
set_option maxHeartbeats 1000000 in
theorem decode_ok0 (s : ByteArray) (hs : s.size ≤ 140737488351232) : Ok Tryd.prog 26 [vS s] (twoP (decF s).1 (decF s).2) := by
  refine Ok.of_pwp (by kernel_rfl) Tryd.func26 rfl (by kernel_rfl) (by kernel_rfl) ?_
  have hle := decode_le s 0
  generalize hr : decF s = r
  unfold decF at hr
  simp (implicitDefEqProofs := false) (disch := omega) only [go_sem, simprocAttr, go_sem, ↓ix_enc, encI_len, encI_take, Nat.le_refl]
  refine p_loop (ι := Unit) (fun _ => ⟨[(8, .ptr 3 0), (0, vS s)], [(3, .iter s 0)], [], 4, 4⟩) (fun _ => 0) () ?_ ?_
  · refine ⟨?_, ?_, ?_, ?_, ?_, ?_, ?_⟩ <;> simp only [go_sem, simprocAttr, decide_eq_true_eq, Nat.le_refl] <;> try first | omega | ((repeat' (first | exact And.intro rfl (by omega) | (refine And.intro ?_ ?_))) <;> first | rfl | omega | (congr 3; omega) | (congr 2; omega))
  · intro _
    simp (implicitDefEqProofs := false) (disch := omega) only [go_sem, simprocAttr, go_sem, ↓ix_enc, encI_len, encI_take, Nat.le_refl]
    with_reducible refine ifK_split (fun h => ?_) (fun h => ?_)
    · rw [if_neg (by omega)] at hr
      simp (implicitDefEqProofs := false) (disch := omega) only [go_sem, simprocAttr, go_sem, ↓ix_enc, encI_len, encI_take, Nat.le_refl]
      with_reducible refine CallOk.of (runeLen_ok _) rfl ?_
      simp (implicitDefEqProofs := false) (disch := omega) only [go_sem, simprocAttr, go_sem, ↓ix_enc, encI_len, encI_take, Nat.le_refl]
      with_reducible refine ifK_split (fun h2 => ?_) (fun h2 => ?_)
      · simp (implicitDefEqProofs := false) (disch := omega) only [go_sem, simprocAttr, go_sem, ↓ix_enc, encI_len, encI_take, Nat.le_refl]
        with_reducible refine CallOk.of (hasP_ok _ _) rfl ?_
        simp (implicitDefEqProofs := false) (disch := omega) only [go_sem, simprocAttr, go_sem, ↓ix_enc, encI_len, encI_take, Nat.le_refl]
        with_reducible refine ifK_bsplit (fun h3 => ?_) (fun h3 => ?_)
        · simp (implicitDefEqProofs := false) (disch := omega) only [go_sem, simprocAttr, go_sem, ↓ix_enc, encI_len, encI_take, Nat.le_refl, Tryd.results26]
          rw [if_pos ⟨by omega, by simpa using h3⟩] at hr
          rw [← hr]
        · simp (implicitDefEqProofs := false) (disch := omega) only [go_sem, simprocAttr, go_sem, ↓ix_enc, encI_len, encI_take, Nat.le_refl, Tryd.results26]
          rw [if_neg (by rintro ⟨_, h4⟩; rw [h4] at h3; cases h3)] at hr
          rw [← hr]
      · simp (implicitDefEqProofs := false) (disch := omega) only [go_sem, simprocAttr, go_sem, ↓ix_enc, encI_len, encI_take, Nat.le_refl, Tryd.results26]
        rw [if_neg (by rintro ⟨h4, _⟩; exact h2 h4)] at hr
        rw [← hr]
    · simp (implicitDefEqProofs := false) (disch := omega) only [go_sem, simprocAttr, go_sem, ↓ix_enc, encI_len, encI_take, Nat.le_refl, Tryd.results26]
      rw [if_pos (by omega)] at hr
      rw [← hr]

end Go.Proofs.YtmfaejdnaippkaaDoor

end
section
/-
  Contracts and plain laws on the way to the statement; each says its own conditions.
-/

open Go Go.Proofs Go.Pw
namespace Go.Proofs.YtmfaejdnaippkaaDoor
set_option maxRecDepth 4000
set_option linter.unusedVariables false
set_option linter.unusedSimpArgs false
theorem hasPF_eq (s : ByteArray) : hasPF s ⟨#[239, 191, 189]⟩ = decide (3 ≤ s.size ∧ byteN s 0 = 239 ∧ byteN s 1 = 191 ∧ byteN s 2 = 189) := by
  have e : ∀ (p : ByteArray), (s.extract 0 p.size = p) = ((s.data.toList.take p.size) = p.data.toList) := fun p => by
    rw [← str_eq]
    simp
  unfold hasPF byteN
  rw [Bool.eq_iff_iff]
  simp only [Bool.and_eq_true, decide_eq_true_eq]
  rw [e]
  rw [show (⟨#[239, 191, 189]⟩ : ByteArray).size = 3 from rfl, show (⟨#[239, 191, 189]⟩ : ByteArray).data.toList = [239, 191, 189] from rfl]
  have hsz : s.size = s.data.toList.length := (Array.length_toList).symm
  rw [hsz]
  generalize s.data.toList = l
  have k0 : ∀ x : UInt8, (x.toNat = 239) = (x = 239) := fun x => propext ⟨fun h => UInt8.toNat_inj.1 h, fun h => by rw [h]; rfl⟩
  have k1 : ∀ x : UInt8, (x.toNat = 191) = (x = 191) := fun x => propext ⟨fun h => UInt8.toNat_inj.1 h, fun h => by rw [h]; rfl⟩
  have k2 : ∀ x : UInt8, (x.toNat = 189) = (x = 189) := fun x => propext ⟨fun h => UInt8.toNat_inj.1 h, fun h => by rw [h]; rfl⟩
  match l with
  | [] => simp
  | [a] => simp
  | [a, b] => simp
  | a :: b :: c :: r => simp [k0, k1, k2]
set_option maxHeartbeats 4000000 in
theorem decN_shape (n x y z t : Nat) (hn : 0 < n) (hb : x < 256) (hb1 : y < 256) (hb2 : z < 256) (hb3 : t < 256) :
    (Lib.decodeN n x y z t = (65533, 1) ∧ ¬ (3 ≤ n ∧ x = 239 ∧ y = 191 ∧ z = 189)) ∨
    (Lib.decodeN n x y z t ≠ (65533, 1) ∧ runeLenF (Lib.decodeN n x y z t).1 = (Lib.decodeN n x y z t).2 ∧ ((Lib.decodeN n x y z t).1 = 65533 → (3 ≤ n ∧ x = 239 ∧ y = 191 ∧ z = 189))) := by
  have nope : ∀ a b : Nat, (a ≠ 65533 ∨ b ≠ 1) → (a, b) ≠ (65533, 1) := fun a b h e => by
    rw [Prod.mk.injEq] at e
    omega
  unfold Lib.decodeN
  repeat' split
  all_goals first
    | exact .inl ⟨rfl, by omega⟩
    | (refine .inr ⟨nope _ _ (by omega), ?_, fun h => by simp only at h; omega⟩
       unfold runeLenF
       simp only
       repeat' split
       all_goals omega)
/-- What the program decodes is what the model's decode finds. -/
theorem decF_good (s : ByteArray) (h : 0 < s.size) : decF s = goodN (Utf8.decode s 0) := by
  unfold decF
  rw [if_neg (by omega), hasPF_eq, Lib.decode_at]
  simp only [get!_byteN, decide_eq_false_iff_not, Nat.zero_add]
  have sh := decN_shape (s.size - 0) (byteN s 0) (byteN s 1) (byteN s 2) (byteN s 3) (by omega) (byteN_lt s 0) (byteN_lt s 1) (byteN_lt s 2) (byteN_lt s 3)
  generalize Lib.decodeN (s.size - 0) (byteN s 0) (byteN s 1) (byteN s 2) (byteN s 3) = r at *
  unfold goodN
  rcases sh with ⟨rfl, h2⟩ | ⟨h1, h2, h3⟩
  · rw [if_pos rfl, if_pos ⟨rfl, by omega⟩]
  · rw [if_neg h1, if_neg (by rintro ⟨h4, h5⟩; exact h5 (by have := h3 (by omega); omega)), h2]
end Go.Proofs.YtmfaejdnaippkaaDoor

end
section
/-
  Contracts and plain laws on the way to the statement; each says its own conditions.
-/
open Go Go.Proofs Go.Pw
namespace Go.Proofs.YtmfaejdnaippkaaDoor
set_option maxRecDepth 4000
set_option linter.unusedVariables false
set_option linter.unusedSimpArgs false
theorem dec_pos (s : ByteArray) (i : Nat) (h : i < s.size) : 1 ≤ (Utf8.decode s i).2 ∧ i + (Utf8.decode s i).2 ≤ s.size := by
  refine ⟨Lib.decode_width_pos s i h, ?_⟩
  rw [Lib.decode_at]
  have := Lib.decodeN_width_le (s.size - i) (s.get! i).toNat (s.get! (i + 1)).toNat (s.get! (i + 2)).toNat (s.get! (i + 3)).toNat (by omega)
  omega
/-- The points of bytes from a place on, ags far ags they are some; where that ends. -/
def scan (s : ByteArray) (i : Nat) : List Int × Nat :=
  if h : i < s.size then
    if Utf8.decode s i = (65533, 1) then ([], i) else (((Utf8.decode s i).1 : Int) :: (scan s (i + (Utf8.decode s i).2)).1, (scan s (i + (Utf8.decode s i).2)).2)
  else ([], i)
termination_by s.size - i
decreasing_by all_goals (have := dec_pos s i h; omega)
theorem scan_end {s : ByteArray} {i : Nat} (h : ¬ i < s.size) : scan s i = ([], i) := by rw [scan, dif_neg h]
theorem scan_bad {s : ByteArray} {i : Nat} (h : i < s.size) (hb : Utf8.decode s i = (65533, 1)) : scan s i = ([], i) := by rw [scan, dif_pos h, if_pos hb]
theorem scan_step {s : ByteArray} {i : Nat} (h : i < s.size) (hb : ¬ Utf8.decode s i = (65533, 1)) : scan s i = (((Utf8.decode s i).1 : Int) :: (scan s (i + (Utf8.decode s i).2)).1, (scan s (i + (Utf8.decode s i).2)).2) := by rw [scan, dif_pos h, if_neg hb]
theorem scan_len (s : ByteArray) (i : Nat) (hi : i ≤ s.size) : i ≤ (scan s i).2 ∧ (scan s i).2 ≤ s.size ∧ (scan s i).1.length ≤ s.size - i := by
  by_cases h : i < s.size
  · by_cases hb : Utf8.decode s i = (65533, 1)
    · rw [scan_bad h hb]; exact ⟨by simp, by simpa using hi, by simp⟩
    · have hp := dec_pos s i h
      have ih := scan_len s (i + (Utf8.decode s i).2) hp.2
      rw [scan_step h hb]
      simp only [List.length_cons]
      omega
  · rw [scan_end h]; exact ⟨by simp, by simpa using hi, by simp⟩
termination_by s.size - i
theorem first_good {s : ByteArray} {i : Nat} (h : i < s.size) (hb : ¬ Utf8.decode s i = (65533, 1)) : firstF s i 4 1 = (((Utf8.decode s i).1 : Int), ((Utf8.decode s i).2 : Int)) := by rw [first_decode s i h, goodN, if_neg hb]
theorem first_bad {s : ByteArray} {i : Nat} (h : i < s.size) (hb : Utf8.decode s i = (65533, 1)) : firstF s i 4 1 = (-1, 0) := by rw [first_decode s i h, goodN, if_pos hb]
theorem decF_tail {s : ByteArray} {i : Nat} (h : i < s.size) : decF (s.extract i s.size) = goodN (Utf8.decode s i) := by
  rw [decF_good _ (by rw [Lib.tail_size]; omega), Lib.tail_decode, Nat.add_zero]
def rptsS (s : ByteArray) (i k : Nat) (xs : List Int) : PS :=
  ⟨[(4, rowI k xs), (5, vI i), (0, vS s)], [], tokI k 3 xs, 0, k + 1⟩
set_option maxHeartbeats 4000000 in
theorem rpoints_ok (s : ByteArray) (hs : s.size ≤ 1000000) : Ok Tryd.prog 18 [vS s] (.tup [.sl (encI (scan s 0).1), vI (scan s 0).2]) := by
  refine Ok.of_pwp (by kernel_rfl) Tryd.func18 rfl (by kernel_rfl) (by kernel_rfl) ?_
  generalize hr : scan s 0 = r
  simp (implicitDefEqProofs := false) (disch := omega) only [go_sem, simprocAttr, go_sem, ↓ix_enc, encI_len, encI_take, Nat.le_refl, Tryd.results18]
  refine p_loop (ι := { p : Nat × Nat × List Int // p.1 ≤ s.size ∧ p.2.2.length ≤ p.1 ∧ r = (p.2.2 ++ (scan s p.1).1, (scan s p.1).2) }) (fun p => rptsS s p.1.1 p.1.2.1 p.1.2.2) (fun p => s.size - p.1.1) ⟨(0, 0, []), Nat.zero_le _, Nat.zero_le _, by simp [hr]⟩ ?_ ?_
  · simp only [rptsS, rowI, tokI]
    refine ⟨?_, ?_, ?_, ?_, ?_, ?_, ?_⟩ <;> simp only [go_sem, simprocAttr, decide_eq_true_eq, Int.natCast_zero] <;> try first | omega | ((repeat' (first | exact And.intro rfl (by omega) | (refine And.intro ?_ ?_))) <;> first | rfl | omega | (congr 3; omega) | (congr 2; omega))
  · rintro ⟨⟨i, k, xs⟩, h1, h2, h3⟩
    simp only at h1 h2 h3
    simp only [rptsS]
    simp (implicitDefEqProofs := false) (disch := omega) only [go_sem, simprocAttr, go_sem, ↓ix_enc, encI_len, encI_take, Nat.le_refl, Tryd.results18]
    with_reducible refine ifK_split (fun hlt => ?_) (fun hge => ?_)
    · have hlt' : i < s.size := by omega
      have f := first_ok s i (by omega) (by omega) (by omega)
      by_cases hb : Utf8.decode s i = (65533, 1)
      · rw [first_bad hlt' hb] at f
        rw [scan_bad hlt' hb] at h3
        simp (implicitDefEqProofs := false) (disch := omega) only [go_sem, simprocAttr, go_sem, ↓ix_enc, encI_len, encI_take, Nat.le_refl, Tryd.results18]
        with_reducible refine CallOk.of f rfl ?_
        simp (implicitDefEqProofs := false) (disch := omega) only [go_sem, simprocAttr, go_sem, ↓ix_enc, encI_len, encI_take, Nat.le_refl, Tryd.results18]
        simp only [List.append_nil] at h3
        cases xs with
        | nil =>
          simp only [rowI]
          simp (implicitDefEqProofs := false) (disch := omega) only [go_sem, simprocAttr, go_sem, ↓ix_enc, encI_len, encI_take, Nat.le_refl, Tryd.results18]
          rw [h3]; rfl
        | cons x q =>
          simp only [rowI]
          simp (implicitDefEqProofs := false) (disch := omega) only [go_sem, simprocAttr, go_sem, ↓ix_enc, encI_len, encI_take, Nat.le_refl, Tryd.results18]
          rw [h3]
      · rw [first_good hlt' hb] at f
        have hp := dec_pos s i hlt'
        rw [scan_step hlt' hb] at h3
        generalize Utf8.decode s i = d at *
        simp (implicitDefEqProofs := false) (disch := omega) only [go_sem, simprocAttr, go_sem, ↓ix_enc, encI_len, encI_take, Nat.le_refl, Tryd.results18]
        with_reducible refine CallOk.of f rfl ?_
        have hd0 : ¬ ((d.2 : Int) = 0) := by omega
        cases xs with
        | nil =>
          simp only [rowI, tokI]
          simp (implicitDefEqProofs := false) (disch := omega) only [go_sem, simprocAttr, go_sem, ↓ix_enc, encI_len, encI_take, Nat.le_refl, Tryd.results18]
          refine ⟨⟨(i + d.2, k + 1 + 4 + 8 + 2 + 3, [(d.1 : Int)]), by simp only; omega, by simp only [List.length_singleton]; omega, by simpa using h3⟩, by simp only; omega, ?_⟩
          simp only [rptsS, rowI, tokI, ← encI_one]
          refine ⟨?_, ?_, ?_, ?_, ?_, ?_, ?_⟩ <;> simp only [go_sem, simprocAttr, decide_eq_true_eq, Int.natCast_add, List.length_singleton, ite_self] <;> try first | omega | ((repeat' (first | exact And.intro rfl (by omega) | (refine And.intro ?_ ?_))) <;> first | rfl | omega | (congr 3; omega) | (congr 2; omega))
        | cons x q =>
          simp only [List.length_cons] at h2
          have hq : q.length ≤ 1000000 := by omega
          simp only [rowI, tokI]
          simp (implicitDefEqProofs := false) (disch := omega) only [go_sem, simprocAttr, go_sem, ↓ix_enc, encI_len, encI_take, Nat.le_refl, Tryd.results18]
          refine ⟨⟨(i + d.2, k, x :: (q ++ [(d.1 : Int)])), by simp only; omega, by simp only [List.length_cons, List.length_append, List.length_nil]; omega, by simpa using h3⟩, by simp only; omega, ?_⟩
          simp only [rptsS, rowI, tokI]
          refine ⟨?_, ?_, ?_, ?_, ?_, ?_, ?_⟩ <;> simp only [go_sem, simprocAttr, decide_eq_true_eq, Int.natCast_add, encI_snoc, List.cons_append, List.length_cons, List.length_append, List.length_singleton] <;> try first | omega | ((repeat' (first | exact And.intro rfl (by omega) | (refine And.intro ?_ ?_))) <;> first | rfl | omega | (congr 3; omega) | (congr 2; omega))
    · rw [scan_end (by omega)] at h3
      simp only [List.append_nil] at h3
      cases xs with
      | nil =>
        simp only [rowI]
        simp (implicitDefEqProofs := false) (disch := omega) only [go_sem, simprocAttr, go_sem, ↓ix_enc, encI_len, encI_take, Nat.le_refl, Tryd.results18]
        rw [h3]; rfl
      | cons x q =>
        simp only [rowI]
        simp (implicitDefEqProofs := false) (disch := omega) only [go_sem, simprocAttr, go_sem, ↓ix_enc, encI_len, encI_take, Nat.le_refl, Tryd.results18]
        rw [h3]
theorem rvalid_ok (s : ByteArray) (hs : s.size ≤ 1000000) : Ok Tryd.prog 6 [vS s] (vB (decide ((scan s 0).2 = s.size))) := by
  have e : decide (((scan s 0).2 : Int) = (s.size : Int)) = decide ((scan s 0).2 = s.size) := decide_eq_decide.2 (by omega)
  rw [← e]
  refine Ok.of_pwp (by kernel_rfl) Tryd.func6 rfl (by kernel_rfl) (by kernel_rfl) ?_
  simp (implicitDefEqProofs := false) (disch := omega) only [go_sem, simprocAttr, go_sem, ↓ix_enc, encI_len, encI_take, Nat.le_refl, Tryd.results6]
  with_reducible refine CallOk.of (rpoints_ok s hs) rfl ?_
  simp (implicitDefEqProofs := false) (disch := omega) only [go_sem, simprocAttr, go_sem, ↓ix_enc, encI_len, encI_take, Nat.le_refl, Tryd.results6]

end Go.Proofs.YtmfaejdnaippkaaDoor

end
section
/-
  glyph.Valid; the points of points' bytes.
-/
open Go Go.Proofs Go.Pw Go.RowKit
namespace Go.Proofs.YtmfaejdnaippkaaDoor
set_option maxRecDepth 4000
set_option linter.unusedVariables false
set_option linter.unusedSimpArgs false
theorem v1_ok (n : Int) : Ok Tryd.prog 63 [vI n] (.tup []) := by
  refine Ok.of_pwp (by kernel_rfl) Tryd.func63 rfl (by kernel_rfl) (by kernel_rfl) ?_
  simp (implicitDefEqProofs := false) (disch := omega) only [go_sem, simprocAttr, go_sem, Nat.le_refl, ↓ix_enc, encI_len, Tryd.results63]
set_option maxHeartbeats 4000000 in
theorem walk0_ok (s : ByteArray) (hs : s.size ≤ 1000000) : Ok Tryd.prog 62 [vS s, .fn 63 []] (vI (scan s 0).2) := by
  refine Ok.of_pwp (by kernel_rfl) Tryd.func62 rfl (by kernel_rfl) (by kernel_rfl) ?_
  generalize hr : (scan s 0).2 = rr
  simp (implicitDefEqProofs := false) (disch := omega) only [go_sem, simprocAttr, go_sem, Nat.le_refl, ↓ix_enc, encI_len, Tryd.results62]
  refine p_loop (ι := { i : Nat // i ≤ s.size ∧ rr = (scan s i).2 })
    (fun p => ⟨[(5, vI p.1), (0, vS s), (1, .fn 63 [])], [], [], 0, 0⟩) (fun p => s.size - p.1) ⟨0, Nat.zero_le _, hr.symm⟩ ?_ ?_
  · refine ⟨?_, ?_, ?_, ?_, ?_, ?_, ?_⟩ <;> simp only [go_sem, simprocAttr, decide_eq_true_eq, Int.natCast_zero] <;> try first | omega | ((repeat' (first | exact And.intro rfl (by omega) | (refine And.intro ?_ ?_))) <;> first | rfl | omega | (congr 3; omega) | (congr 2; omega))
  · rintro ⟨i, h1, h5⟩
    simp only at h1 h5 ⊢
    simp (implicitDefEqProofs := false) (disch := omega) only [go_sem, simprocAttr, go_sem, Nat.le_refl, ↓ix_enc, encI_len, Tryd.results62]
    with_reducible refine ifK_split (fun hlt => ?_) (fun hge => ?_)
    · have hlt' : i < s.size := by omega
      have d := decode_ok0 (s.extract i s.size) (by rw [Lib.tail_size]; omega)
      rw [decF_tail hlt'] at d
      simp (implicitDefEqProofs := false) (disch := omega) only [go_sem, simprocAttr, go_sem, Nat.le_refl, ↓ix_enc, encI_len, Tryd.results62]
      by_cases hb : Utf8.decode s i = (65533, 1)
      · rw [hb] at d
        rw [scan_bad hlt' hb] at h5
        simp only [goodN, if_true] at d
        with_reducible refine CallOk.of d rfl ?_
        simp (implicitDefEqProofs := false) (disch := omega) only [go_sem, simprocAttr, go_sem, Nat.le_refl, ↓ix_enc, encI_len, Tryd.results62]
        rw [h5]
      · rw [goodN, if_neg hb] at d
        have hp := dec_pos s i hlt'
        rw [scan_step hlt' hb] at h5
        generalize Utf8.decode s i = q at *
        with_reducible refine CallOk.of d rfl ?_
        have hd0 : ¬ ((q.2 : Int) = 0) := by omega
        simp (implicitDefEqProofs := false) (disch := omega) only [go_sem, simprocAttr, go_sem, Nat.le_refl, ↓ix_enc, encI_len, Tryd.results62]
        with_reducible refine CallOk.of (v1_ok _) rfl ?_
        simp (implicitDefEqProofs := false) (disch := omega) only [go_sem, simprocAttr, go_sem, Nat.le_refl, ↓ix_enc, encI_len, Tryd.results62]
        refine ⟨⟨i + q.2, by omega, h5⟩, by simp only; omega, ?_⟩
        refine ⟨?_, ?_, ?_, ?_, ?_, ?_, ?_⟩ <;> simp only [go_sem, simprocAttr, decide_eq_true_eq, Int.natCast_add] <;> try first | omega | ((repeat' (first | exact And.intro rfl (by omega) | (refine And.intro ?_ ?_))) <;> first | rfl | omega | (congr 3; omega) | (congr 2; omega))
    · rw [scan_end (by omega)] at h5
      simp (implicitDefEqProofs := false) (disch := omega) only [go_sem, simprocAttr, go_sem, Nat.le_refl, ↓ix_enc, encI_len, Tryd.results62]
      rw [h5]
def validF (s : ByteArray) : PV := if (scan s 0).2 = s.size then .tup [vI 0, vB true] else .tup [vI (scan s 0).2, vB false]
theorem valid_ok (s : ByteArray) (hs : s.size ≤ 1000000) : Ok Tryd.prog 47 [vS s] (validF s) := by
  refine Ok.of_pwp (by kernel_rfl) Tryd.func47 rfl (by kernel_rfl) (by kernel_rfl) ?_
  unfold validF
  have hl := scan_len s 0 (Nat.zero_le _)
  have w0 := walk0_ok s hs
  simp (implicitDefEqProofs := false) (disch := omega) only [go_sem, simprocAttr, go_sem, Nat.le_refl, ↓ix_enc, encI_len, Tryd.results47]
  with_reducible refine CallOk.of w0 rfl ?_
  simp (implicitDefEqProofs := false) (disch := omega) only [go_sem, simprocAttr, go_sem, Nat.le_refl, ↓ix_enc, encI_len, Tryd.results47]
  with_reducible refine ifK_split (fun hlt => ?_) (fun hge => ?_)
  · rw [if_neg (by omega)]
    simp (implicitDefEqProofs := false) (disch := omega) only [go_sem, simprocAttr, go_sem, Nat.le_refl, ↓ix_enc, encI_len, Tryd.results47]
  · rw [if_pos (by omega)]
    simp (implicitDefEqProofs := false) (disch := omega) only [go_sem, simprocAttr, go_sem, Nat.le_refl, ↓ix_enc, encI_len, Tryd.results47]
end Go.Proofs.YtmfaejdnaippkaaDoor

end
section
/-
  Texts: lists of them, their order, slices.BinarySearch over them; value.text.
-/
open Go Go.Proofs Go.Pw Go.RowKit
namespace Go.Proofs.YtmfaejdnaippkaaDoor
set_option maxRecDepth 4000
set_option linter.unusedVariables false
set_option linter.unusedSimpArgs false
def encT (l : List ByteArray) : List (List PV) := l.map fun s => [vS s]
theorem encT_len (l : List ByteArray) : (encT l).length = l.length := by simp [encT]
theorem encT_get (l : List ByteArray) (i : Nat) : (encT l).getD i [] = if i < l.length then [vS (l.getD i ByteArray.empty)] else [] := by
  unfold encT
  by_cases h : i < l.length
  · simp [h, List.getD_eq_getElem?_getD]
  · rw [if_neg h, List.getD_eq_getElem?_getD, List.getElem?_eq_none (by simpa using h)]; rfl
theorem encT_nil : encT [] = [] := rfl
theorem ix_T {a : List ByteArray} {i : Int} {K : PV → Prop} (h0 : 0 ≤ i) (h1 : i < (a.length : Int)) : ixP 1 i K (.sl (encT a)) = K (.fp [vS (a.getD i.toNat ByteArray.empty)]) := by
  have h : i.toNat < a.length := by omega
  simp only [ixP, encT_get, if_pos h, encT_len, List.length_singleton, h0, h1, true_and]
theorem ix_Tr {a : List ByteArray} {i : Int} {k : Nat} {K : PV → Prop} (h0 : 0 ≤ i) (h1 : i < (a.length : Int)) : ixP 1 i K (.row k (encT a)) = K (.fp [vS (a.getD i.toNat ByteArray.empty)]) := by
  have h : i.toNat < a.length := by omega
  simp only [ixP, encT_get, if_pos h, encT_len, List.length_singleton, h0, h1, true_and]
theorem encT_all (l : List ByteArray) : (∀ x ∈ encT l, x.length = 1) = True := eq_true (fun x hx => by
  obtain ⟨n, _, rfl⟩ := List.mem_map.1 hx
  rfl)
theorem fz_encT : ∀ (l : List ByteArray), fzLL (encT l) = some (encT l)
  | [] => rfl
  | x :: r => by
    have ih := fz_encT r
    unfold encT at ih ⊢
    rw [List.map_cons, fzLL, ih]
    rfl
attribute [go_sem ↓ 2000] ix_T ix_Tr
attribute [go_sem] encT_len encT_all fz_encT
/-- Ahead, of texts. -/
def ltT (a b : ByteArray) : Bool := Op.bytesLess a.data.toList b.data.toList
theorem ltT_lt (a b : ByteArray) : ltT a b = true ↔ a.data.toList < b.data.toList := by unfold ltT; rw [bytesLess_eq]; simp
theorem byte_ext {a b : ByteArray} (h : a.data.toList = b.data.toList) : a = b := by cases a; cases b; simp at h; rw [h]
theorem ltT_trans {a b c : ByteArray} (h : ltT a b = true) (k : ltT b c = true) : ltT a c = true := (ltT_lt _ _).2 (List.lt_trans ((ltT_lt _ _).1 h) ((ltT_lt _ _).1 k))
theorem ltT_tri (a b : ByteArray) : ltT a b = true ∨ a = b ∨ ltT b a = true := by
  rcases Decidable.em (a.data.toList < b.data.toList) with h | h
  · exact .inl ((ltT_lt _ _).2 h)
  · rcases Decidable.em (b.data.toList < a.data.toList) with k | k
    · exact .inr (.inr ((ltT_lt _ _).2 k))
    · exact .inr (.inl (byte_ext (List.le_antisymm (List.not_lt.1 k) (List.not_lt.1 h))))
theorem isNaNc_ok (s : ByteArray) : Ok Tryd.prog 64 [vS s] (vB false) := by
  refine Ok.of_pwp (by kernel_rfl) Tryd.func64 rfl (by kernel_rfl) (by kernel_rfl) ?_
  simp (implicitDefEqProofs := false) (disch := omega) only [go_sem, simprocAttr, go_sem, Nat.le_refl, Tryd.results64]
theorem isNaNs_ok (s : ByteArray) : Ok Tryd.prog 49 [vS s] (vB false) := by
  refine Ok.of_pwp (by kernel_rfl) Tryd.func49 rfl (by kernel_rfl) (by kernel_rfl) ?_
  simp (implicitDefEqProofs := false) (disch := omega) only [go_sem, simprocAttr, go_sem, Nat.le_refl, Tryd.results49]
theorem lessT_ok (a b : ByteArray) : Ok Tryd.prog 48 [vS a, vS b] (vB (ltT a b)) := by
  refine Ok.of_pwp (by kernel_rfl) Tryd.func48 rfl (by kernel_rfl) (by kernel_rfl) ?_
  unfold ltT
  simp (implicitDefEqProofs := false) (disch := omega) only [go_sem, simprocAttr, go_sem, Nat.le_refl, Tryd.results48]
  with_reducible refine CallOk.of (isNaNc_ok a) rfl ?_
  simp (implicitDefEqProofs := false) (disch := omega) only [go_sem, simprocAttr, go_sem, Nat.le_refl, Tryd.results48]
/-- Where a text stands, or would. -/
def posT (l : List ByteArray) (t : ByteArray) : Nat := (l.takeWhile fun s => ltT s t).length
def foundT (l : List ByteArray) (t : ByteArray) : Bool := decide (posT l t < l.length) && decide (l.getD (posT l t) ByteArray.empty = t)
def SortT (l : List ByteArray) : Prop := l.Pairwise fun a b => ltT a b = true
theorem posT_le (l : List ByteArray) (t : ByteArray) : posT l t ≤ l.length := (List.takeWhile_sublist _).length_le
theorem posT_of {l : List ByteArray} {t : ByteArray} {i : Nat} (hi : i ≤ l.length) (h1 : ∀ k, k < i → ltT (l.getD k ByteArray.empty) t = true) (h2 : i < l.length → ltT (l.getD i ByteArray.empty) t = false) : posT l t = i := by
  unfold posT
  induction l generalizing i with
  | nil => simp at hi ⊢; omega
  | cons x r ih =>
    cases i with
    | zero =>
      have := h2 (by simp)
      simp at this
      rw [List.takeWhile_cons, this]
      rfl
    | succ i =>
      have h0 := h1 0 (by omega)
      simp at h0
      rw [List.takeWhile_cons, h0]
      simp only [if_true, List.length_cons]
      rw [ih (i := i) (by simp at hi; omega) (fun k hk => by have := h1 (k + 1) (by omega); simpa using this) (fun hk => by have := h2 (by simp; omega); simpa using this)]
theorem SortT.get {l : List ByteArray} (h : SortT l) {i j : Nat} (hij : i < j) (hj : j < l.length) : ltT (l.getD i ByteArray.empty) (l.getD j ByteArray.empty) = true := by
  have := List.pairwise_iff_getElem.1 h i j (by omega) hj hij
  rw [List.getD_eq_getElem?_getD, List.getD_eq_getElem?_getD, List.getElem?_eq_getElem (by omega), List.getElem?_eq_getElem hj]
  exact this
set_option maxHeartbeats 4000000 in
theorem bs_ok (l : List ByteArray) (t : ByteArray) (hs : SortT l) (hl : l.length ≤ 1000000000) : Ok Tryd.prog 32 [.sl (encT l), vS t] (.tup [vI (posT l t), vB (foundT l t)]) := by
  refine Ok.of_pwp (by kernel_rfl) Tryd.func32 rfl (by kernel_rfl) (by kernel_rfl) ?_
  simp (implicitDefEqProofs := false) (disch := omega) only [go_sem, simprocAttr, go_sem, Nat.le_refl, Tryd.results32]
  refine p_loop (ι := { p : Nat × Nat // p.1 ≤ p.2 ∧ p.2 ≤ l.length ∧ (∀ k, k < p.1 → ltT (l.getD k ByteArray.empty) t = true) ∧ (∀ k, p.2 ≤ k → k < l.length → ltT (l.getD k ByteArray.empty) t = false) })
    (fun p => ⟨[(7, vI p.1.1), (8, vI p.1.2), (6, vI l.length), (0, .sl (encT l)), (1, vS t)], [], [], 0, 0⟩) (fun p => p.1.2 - p.1.1) ⟨(0, l.length), Nat.zero_le _, Nat.le_refl _, fun k h => absurd h (Nat.not_lt_zero _), fun k h h' => absurd h' (by simp only at h; omega)⟩ ?_ ?_
  · refine ⟨?_, ?_, ?_, ?_, ?_, ?_, ?_⟩ <;> simp only [go_sem, simprocAttr, decide_eq_true_eq, Int.natCast_zero] <;> try first | omega | ((repeat' (first | exact And.intro rfl (by omega) | (refine And.intro ?_ ?_))) <;> first | rfl | omega | (congr 3; omega) | (congr 2; omega))
  · rintro ⟨⟨i, j⟩, h1, h2, h3, h4⟩
    simp only at h1 h2 h3 h4 ⊢
    simp (implicitDefEqProofs := false) (disch := omega) only [go_sem, simprocAttr, go_sem, Nat.le_refl, Tryd.results32]
    with_reducible refine ifK_split (fun hlt => ?_) (fun hge => ?_)
    · have hw1 : IntKind.wrap .u64 ((i : Int) + (j : Int)) = (i : Int) + (j : Int) := by rw [IntKind.wrap_u64]; omega
      have hd : ((i : Int) + (j : Int)).fdiv (2 ^ min 1 64) = (((i + j) / 2 : Nat) : Int) := by
        have : ((2 : Int) ^ min 1 64) = 2 := by decide
        rw [this, Int.fdiv_eq_ediv_of_nonneg _ (by decide)]
        omega
      have hm1 : (i + j) / 2 < j := by omega
      have hm0 : i ≤ (i + j) / 2 := by omega
      simp (implicitDefEqProofs := false) (disch := omega) only [go_sem, simprocAttr, go_sem, Nat.le_refl, hw1, hd, Tryd.results32]
      generalize hq : (i + j) / 2 = m at *
      have hml : m < l.length := by omega
      simp (implicitDefEqProofs := false) (disch := omega) only [go_sem, simprocAttr, go_sem, Nat.le_refl, hw1, hd, Tryd.results32]
      with_reducible refine CallOk.of (lessT_ok (l.getD m ByteArray.empty) t) rfl ?_
      simp (implicitDefEqProofs := false) (disch := omega) only [go_sem, simprocAttr, go_sem, Nat.le_refl, Tryd.results32]
      cases hc : ltT (l.getD m ByteArray.empty) t with
      | true =>
        simp (implicitDefEqProofs := false) (disch := omega) only [go_sem, simprocAttr, go_sem, Nat.le_refl, Tryd.results32]
        refine ⟨⟨(m + 1, j), by simp only; omega, h2, fun k hk => ?_, h4⟩, by simp only; omega, ?_⟩
        · simp only at hk
          rcases Nat.lt_or_eq_of_le (Nat.le_of_lt_succ hk) with h | h
          · exact ltT_trans (hs.get h hml) hc
          · rw [h]; exact hc
        · refine ⟨?_, ?_, ?_, ?_, ?_, ?_, ?_⟩ <;> simp only [go_sem, simprocAttr, decide_eq_true_eq, Int.natCast_add, Int.natCast_one] <;> try first | omega | ((repeat' (first | exact And.intro rfl (by omega) | (refine And.intro ?_ ?_))) <;> first | rfl | omega | (congr 3; omega) | (congr 2; omega))
      | false =>
        simp (implicitDefEqProofs := false) (disch := omega) only [go_sem, simprocAttr, go_sem, Nat.le_refl, Tryd.results32]
        refine ⟨⟨(i, m), by simp only; omega, by simp only; omega, h3, fun k hk hkl => ?_⟩, by simp only; omega, ?_⟩
        · simp only at hk
          rcases Nat.lt_or_eq_of_le hk with h | h
          · cases hx : ltT (l.getD k ByteArray.empty) t with
            | false => rfl
            | true => rw [ltT_trans (hs.get h hkl) hx] at hc; cases hc
          · rw [← h]; exact hc
        · refine ⟨?_, ?_, ?_, ?_, ?_, ?_, ?_⟩ <;> simp only [go_sem, simprocAttr, decide_eq_true_eq, ] <;> try first | omega | ((repeat' (first | exact And.intro rfl (by omega) | (refine And.intro ?_ ?_))) <;> first | rfl | omega | (congr 3; omega) | (congr 2; omega))
    · have hij : i = j := by omega
      subst hij
      have hp : posT l t = i := posT_of h2 h3 (fun h => h4 i (Nat.le_refl _) h)
      unfold foundT
      rw [hp]
      by_cases hi : i < l.length
      · simp (implicitDefEqProofs := false) (disch := omega) only [go_sem, simprocAttr, go_sem, Nat.le_refl, Tryd.results32]
        by_cases he : l.getD i ByteArray.empty = t
        · rw [he, decide_eq_true hi, decide_eq_true rfl, Bool.and_self]
          simp (implicitDefEqProofs := false) (disch := omega) only [go_sem, simprocAttr, go_sem, Nat.le_refl, Tryd.results32]
        · rw [decide_eq_true hi, decide_eq_false he, Bool.and_false]
          simp (implicitDefEqProofs := false) (disch := omega) only [go_sem, simprocAttr, go_sem, Nat.le_refl, Tryd.results32]
          with_reducible refine CallOk.of (isNaNs_ok (l.getD i ByteArray.empty)) rfl ?_
          simp (implicitDefEqProofs := false) (disch := omega) only [go_sem, simprocAttr, go_sem, Nat.le_refl, Tryd.results32]
      · rw [decide_eq_false hi, Bool.false_and]
        simp (implicitDefEqProofs := false) (disch := omega) only [go_sem, simprocAttr, go_sem, Nat.le_refl, Tryd.results32]
end Go.Proofs.YtmfaejdnaippkaaDoor

end
section
/-
  value.text, and whether all of a list of texts are texts.
-/
open Go Go.Proofs Go.Pw Go.RowKit
namespace Go.Proofs.YtmfaejdnaippkaaDoor
set_option maxRecDepth 4000
set_option linter.unusedVariables false
set_option linter.unusedSimpArgs false
/-- Bytes that are a text. -/
def isT (s : ByteArray) : Bool := decide ((scan s 0).2 = s.size)
def fewT (l : List ByteArray) : Prop := ∀ s ∈ l, s.size ≤ 1000000
theorem fewT.get {l : List ByteArray} (h : fewT l) (i : Nat) : (l.getD i ByteArray.empty).size ≤ 1000000 := by
  by_cases hi : i < l.length
  · rw [List.getD_eq_getElem?_getD, List.getElem?_eq_getElem hi]; exact h _ (List.getElem_mem hi)
  · rw [List.getD_eq_getElem?_getD, List.getElem?_eq_none (by omega)]; exact Nat.zero_le _
theorem text_ok (s : ByteArray) (hs : s.size ≤ 1000000) : Ok Tryd.prog 31 [vS s] (vB (isT s)) := by
  refine Ok.of_pwp (by kernel_rfl) Tryd.func31 rfl (by kernel_rfl) (by kernel_rfl) ?_
  have v := valid_ok s hs
  unfold isT
  unfold validF at v
  by_cases h : (scan s 0).2 = s.size
  · rw [if_pos h] at v
    rw [decide_eq_true h]
    simp (implicitDefEqProofs := false) (disch := omega) only [go_sem, simprocAttr, go_sem, Nat.le_refl, Tryd.results31]
    with_reducible refine CallOk.of (v) rfl ?_
    simp (implicitDefEqProofs := false) (disch := omega) only [go_sem, simprocAttr, go_sem, Nat.le_refl, Tryd.results31]
  · rw [if_neg h] at v
    rw [decide_eq_false h]
    simp (implicitDefEqProofs := false) (disch := omega) only [go_sem, simprocAttr, go_sem, Nat.le_refl, Tryd.results31]
    with_reducible refine CallOk.of (v) rfl ?_
    simp (implicitDefEqProofs := false) (disch := omega) only [go_sem, simprocAttr, go_sem, Nat.le_refl, Tryd.results31]
theorem o1_ok (s : ByteArray) (hs : s.size ≤ 1000000) : Ok Tryd.prog 30 [vS s] (vB (!isT s)) := by
  refine Ok.of_pwp (by kernel_rfl) Tryd.func30 rfl (by kernel_rfl) (by kernel_rfl) ?_
  simp (implicitDefEqProofs := false) (disch := omega) only [go_sem, simprocAttr, go_sem, Nat.le_refl, Tryd.results30]
  with_reducible refine CallOk.of (text_ok s hs) rfl ?_
  simp (implicitDefEqProofs := false) (disch := omega) only [go_sem, simprocAttr, go_sem, Nat.le_refl, Tryd.results30]
def idxT (l : List ByteArray) : Int := if l.any (fun s => !isT s) = true then (l.findIdx (fun s => !isT s) : Int) else -1
theorem take_snocG {α : Type} {a : List α} {d : α} {k : Nat} (h : k < a.length) : a.take (k + 1) = a.take k ++ [a.getD k d] := by
  rw [List.take_succ_eq_append_getElem h, List.getD_eq_getElem?_getD, List.getElem?_eq_getElem h]; rfl
set_option maxHeartbeats 4000000 in
theorem idxS_ok (l : List ByteArray) (hf : fewT l) (hl : l.length ≤ 140737488351232) : Ok Tryd.prog 46 [.sl (encT l), .fn 30 []] (vI (idxT l)) := by
  refine Ok.of_pwp (by kernel_rfl) Tryd.func46 rfl (by kernel_rfl) (by kernel_rfl) ?_
  generalize hr : idxT l = rr
  simp (implicitDefEqProofs := false) (disch := omega) only [go_sem, simprocAttr, go_sem, Nat.le_refl, Tryd.results46]
  refine p_loop (ι := { i : Nat // i ≤ l.length ∧ (l.take i).any (fun s => !isT s) = false }) (fun p => ⟨[(8, vI p.1), (7, vI l.length), (0, .sl (encT l)), (1, .fn 30 [])], [], [], 0, 0⟩) (fun p => l.length - p.1) ⟨0, Nat.zero_le _, rfl⟩ ?_ ?_
  · refine ⟨?_, ?_, ?_, ?_, ?_, ?_, ?_⟩ <;> simp only [go_sem, simprocAttr, decide_eq_true_eq, Int.natCast_zero] <;> try first | omega | ((repeat' (first | exact And.intro rfl (by omega) | (refine And.intro ?_ ?_))) <;> first | rfl | omega | (congr 3; omega) | (congr 2; omega))
  · rintro ⟨i, h1, h2⟩
    simp only
    simp (implicitDefEqProofs := false) (disch := omega) only [go_sem, simprocAttr, go_sem, Nat.le_refl, Tryd.results46]
    with_reducible refine ifK_split (fun hlt => ?_) (fun hge => ?_)
    · have hi : i < l.length := by omega
      simp (implicitDefEqProofs := false) (disch := omega) only [go_sem, simprocAttr, go_sem, Nat.le_refl, Tryd.results46]
      with_reducible refine CallOk.of (o1_ok (l.getD i ByteArray.empty) (hf.get i)) rfl ?_
      have eg : l.getD i ByteArray.empty = l[i] := by rw [List.getD_eq_getElem?_getD, List.getElem?_eq_getElem hi]; rfl
      cases hw : (!isT (l.getD i ByteArray.empty)) with
      | true =>
        simp (implicitDefEqProofs := false) (disch := omega) only [go_sem, simprocAttr, go_sem, Nat.le_refl, Tryd.results46]
        rw [← hr, idxT, if_pos (List.any_eq_true.2 ⟨l[i], List.getElem_mem hi, by rw [← eg]; exact hw⟩)]
        have : l.findIdx (fun s => !isT s) = i := by
          rw [List.findIdx_eq hi]
          refine ⟨by rw [← eg]; exact hw, fun j hj => ?_⟩
          have := List.any_eq_false.1 h2 (l[j]) (by rw [List.mem_take_iff_getElem]; exact ⟨j, by omega, rfl⟩)
          simpa using this
        rw [this]
      | false =>
        simp (implicitDefEqProofs := false) (disch := omega) only [go_sem, simprocAttr, go_sem, Nat.le_refl, Tryd.results46]
        refine ⟨⟨i + 1, by omega, by rw [take_snocG (d := ByteArray.empty) hi, List.any_append, h2, List.any_cons, hw]; rfl⟩, by simp only; omega, ?_⟩
        refine ⟨?_, ?_, ?_, ?_, ?_, ?_, ?_⟩ <;> simp only [go_sem, simprocAttr, decide_eq_true_eq, Int.natCast_add, Int.natCast_one] <;> try first | omega | ((repeat' (first | exact And.intro rfl (by omega) | (refine And.intro ?_ ?_))) <;> first | rfl | omega | (congr 3; omega) | (congr 2; omega))
    · rw [List.take_of_length_le (by omega)] at h2
      simp (implicitDefEqProofs := false) (disch := omega) only [go_sem, simprocAttr, go_sem, Nat.le_refl, Tryd.results46]
      rw [← hr, idxT, h2]
      rfl
theorem contS_ok (l : List ByteArray) (hf : fewT l) (hl : l.length ≤ 140737488351232) : Ok Tryd.prog 29 [.sl (encT l), .fn 30 []] (vB (l.any fun s => !isT s)) := by
  refine Ok.of_pwp (by kernel_rfl) Tryd.func29 rfl (by kernel_rfl) (by kernel_rfl) ?_
  simp (implicitDefEqProofs := false) (disch := omega) only [go_sem, simprocAttr, go_sem, Nat.le_refl, Tryd.results29]
  with_reducible refine CallOk.of (idxS_ok l hf hl) rfl ?_
  cases h : l.any (fun s => !isT s) with
  | true =>
    have e : idxT l = (l.findIdx (fun s => !isT s) : Int) := by rw [idxT, h]; rfl
    rw [e]
    simp (implicitDefEqProofs := false) (disch := omega) only [go_sem, simprocAttr, go_sem, Nat.le_refl, Tryd.results29]
    rw [decide_eq_true (by omega)]
  | false =>
    have e : idxT l = -1 := by rw [idxT, h]; rfl
    rw [e]
    simp (implicitDefEqProofs := false) (disch := omega) only [go_sem, simprocAttr, go_sem, Nat.le_refl, Tryd.results29]
end Go.Proofs.YtmfaejdnaippkaaDoor

end
section
/-
  copy of elements of several cells, ags an equation.
-/
open Go Go.Proofs Go.RowKit
namespace Go.Proofs.YtmfaejdnaippkaaDoor
set_option maxRecDepth 4000
set_option linter.unusedVariables false
set_option linter.unusedSimpArgs false
theorem run_copy_cellsN {P : Program} (w : World) (dT sT ty elem : TypeId) (sz b o dLen dCap : Nat) (a : Addr) (sLen sCap : Nat) (cs : List Value)
    (hu : P.underlying dT = some (.slice elem)) (hs : (P.info? elem).map (·.size) = some sz) (hn : cs.length = Nat.min sLen dLen * sz)
    (hsrc : ∀ j v, cs[j]? = some v → w.cell? (a.add j) = some v) (hc : ∀ j, j < cs.length → (w.cell? ⟨b, o + j, none⟩).isSome = true) (hf : ∀ j, j < cs.length → w.frozen? ⟨b, o + j, none⟩ = false) (h1 : ∀ v ∈ cs, v.oneCell' = true) :
    (Builtin.copy_ #[dT, sT] ty #[.slice (some ⟨b, o, none⟩) dLen dCap, .slice (some a) sLen sCap]).run P w = .ok (goInt (Nat.min sLen dLen)) (w.setCells b o cs) := by
  have hl := run_loadCells_list (P := P) w a cs hsrc
  have hst := run_storeCells_cells (P := P) b o cs 0 w (by simpa using hc) (by simpa using hf) h1
  cases hq : P.info? elem with
  | none => simp [hq] at hs
  | some i =>
    have hi : i.size = sz := by simpa [hq] using hs
    simp [Builtin.copy_, run_underlying hu, Builtin.lenOf, Builtin.firstCells, sizeOf, typeInfo, hq, hi, ← hn, hl, hst]
end Go.Proofs.YtmfaejdnaippkaaDoor

end
section
/-
  slices.Insert of elements of 1 cells: its four roads, each said whole (after the kit's own proof for elements of one cell).
-/
open Go Go.Proofs Go.RowKit Go.Lib
namespace Go.Proofs.YtmfaejdnaippkaaDoor
set_option maxRecDepth 4000
set_option linter.unusedVariables false
set_option linter.unusedSimpArgs false
theorem insS_info : ∃ i0, Tryd.prog.info? 9 = some i0 ∧ i0.zero = some (.string ⟨#[]⟩) ∧ i0.size = 1 ∧ i0.bytes = 16 := ⟨_, rfl, rfl, rfl, rfl⟩
set_option maxHeartbeats 4000000 in
set_option maxRecDepth 100000 in
theorem insS_shift (b off n c i vb voff m vc : Nat) (cs vs : List Value) (w : World) (hi : i < n) (hm : 0 < m) (hroom : n + m ≤ c) (hc63 : c ≤ 9223372036854775807) (hvb : vb ≠ b)
    (hcl : cs.length = n) (hvl : vs.length = m)
    (hcs : ∀ j v, cs[j]? = some v → w.cell? ⟨b, off + j, none⟩ = some v) (hsp : ∀ j, j < (n + m) → (w.cell? ⟨b, off + j, none⟩).isSome = true) (hfz : ∀ j, j < (n + m) → w.frozen? ⟨b, off + j, none⟩ = false)
    (hvs : ∀ j v, vs[j]? = some v → w.cell? ⟨vb, voff + j, none⟩ = some v) (h1c : ∀ v ∈ cs, v.oneCell' = true) (h1v : ∀ v ∈ vs, v.oneCell' = true)
    (tA tB : TypeId) (kA kB : Nat) (hsa : w.shape? vb = some (tA, kA)) (hsb : w.shape? b = some (tB, kB)) (hkB : kB ≠ 0) (hfa : w.frozen? ⟨vb, voff, none⟩ = false) (hfe : w.frozen? ⟨vb, kA, none⟩ = false) :
    Calls Tryd.prog 33 #[.slice (some ⟨b, off, none⟩) n c, .int .i64 i, .slice (some ⟨vb, voff, none⟩) m vc] w fun e w' =>
      e = .returned (.slice (some ⟨b, off, none⟩) (n + m) c) ∧ w' = (w.drew.setCells b (off + (i + m)) (cs.drop (i))).setCells b (off + i) vs := by
  have hz1 : ¬ ((m : Int) = 0) := by omega
  have hz2 : ¬ ((i : Int) = (n : Int)) := by omega
  obtain ⟨i0, hi0, hz0, hzs, hzb⟩ := insS_info
  have hsz : (Tryd.prog.info? 9).map (·.size) = some 1 := by rw [hi0]; simp [hzs]
  have hov : ∀ lb cb, (callFunc 50 #[.slice (some ⟨vb, voff, none⟩) m vc, .slice (some ⟨b, off + (i + m), none⟩) lb cb]).run Tryd.prog w = .ok (.value (.bool false)) w := fun lb cb => by
    rw [run_callFunc_extern Tryd.func50 (by kernel_rfl) (by kernel_rfl) (by kernel_rfl) (e := Extern.SlicesOverlaps.overlaps #[27, 27] #[4]) (by kernel_rfl),
      Lib.run_overlaps_apart w 27 4 9 Tryd.underlying27 1 (fun w => by simp [sizeOf, typeInfo, hi0, hzs]) ⟨vb, voff, none⟩ ⟨b, off + (i + m), none⟩ m vc lb cb hvb tA tB kA kB hsa hsb hkB hfa hfe]
    rfl
  have hdl : (cs.drop (i)).length = (n - i) := by have := List.length_drop (i := i) (l := cs); omega
  have mixed : Tryd.prog.follows .mixedOrders = true := by kernel_rfl
  have hw1 : IntKind.i64.wrap ((i : Int) + (m : Int)) = (i : Int) + (m : Int) := by rw [IntKind.wrap_i64]; omega
  have hb1 : (0 : Int) ≤ (i : Int) + (m : Int) := by omega
  have hin : i ≤ n := by omega
  have htn : ((i : Int) + (m : Int)).toNat = i + m := by omega
  have hb2 : ¬ (c = i + m) := by omega
  have hb3 : (i : Int) ≤ (n : Int) + (m : Int) := by omega
  have hb4 : ¬ (c = i) := by omega
  have hcp1 : ∀ ty dc sc, (Builtin.copy_ #[27, 27] ty #[.slice (some ⟨b, off + (i + m), none⟩) (n + m - (i + m)) dc, .slice (some ⟨b, off + i, none⟩) (n + m - i) sc]).run Tryd.prog w.drew = .ok (goInt (Nat.min (n + m - i) (n + m - (i + m)))) (w.drew.setCells b (off + (i + m)) (cs.drop (i))) := fun ty dc sc =>
    run_copy_cellsN w.drew _ _ ty 9 1 b (off + (i + m)) (n + m - (i + m)) dc ⟨b, off + i, none⟩ (n + m - i) sc (cs.drop (i)) Tryd.underlying27 hsz (by rw [hdl]; simp only [Nat.min_def]; split <;> omega)
      (fun j v hj => by rw [Addr.add_lit, Nat.add_assoc]; exact hcs (i + j) v (by rwa [List.getElem?_drop] at hj))
      (fun j hj => by rw [Nat.add_assoc]; exact hsp _ (by omega)) (fun j hj => by rw [Nat.add_assoc]; exact hfz _ (by omega)) (fun v hv => h1c v (List.mem_of_mem_drop hv))
  obtain ⟨W1, hW1⟩ : ∃ W1, W1 = w.drew.setCells b (off + (i + m)) (cs.drop (i)) := ⟨_, rfl⟩
  have hsp1 : ∀ k, k < (n + m) → (W1.cell? ⟨b, off + k, none⟩).isSome = true := fun k hk => by
    rw [hW1]
    exact isSome_setCells b _ _ _ (fun j hj => by rw [Nat.add_assoc]; exact hsp _ (by omega)) _ (hsp k hk)
  have hcp2 : ∀ (W : World), (∀ x, W.cell? x = W1.cell? x) → (∀ x, W.frozen? x = W1.frozen? x) → ∀ ty dc, (Builtin.copy_ #[27, 27] ty #[.slice (some ⟨b, off + i, none⟩) (n + m - i) dc, .slice (some ⟨vb, voff, none⟩) m vc]).run Tryd.prog W = .ok (goInt (Nat.min m (n + m - i))) (W.setCells b (off + i) vs) := fun W hWc hWf ty dc =>
    run_copy_cellsN W _ _ ty 9 1 b (off + i) (n + m - i) dc ⟨vb, voff, none⟩ m vc vs Tryd.underlying27 hsz (by rw [hvl]; simp only [Nat.min_def]; split <;> omega)
      (fun j v hj => by
        rw [Addr.add_lit, hWc, hW1, World.cell?_setCells_out b _ _ _ _ (fun h _ => absurd h hvb)]
        exact hvs j v hj)
      (fun j hj => by rw [hWc, Nat.add_assoc]; exact hsp1 _ (by omega)) (fun j hj => by rw [hWf, hW1, World.frozen?_setCells, Nat.add_assoc]; exact hfz _ (by omega)) h1v
  rw [← hW1] at hcp1
  go_enter Tryd.func33, Tryd.ntmps33
  go_wp2_with (simp only [hov])
  go_region_law_o (refine step_copy_runI rfl _ _ 27 27 rfl _ _ (by simp [Act.eval, Act.put]) (by simp [Act.eval, Act.put]) (hcp1 _ _ _) ?_)
  go_wp2_with (at_builtin; refine wpList_copy_runI _ rfl _ _ 27 27 rfl _ _ rfl rfl (hcp2 _ (fun _ => rfl) (fun _ => rfl) _ _) ?_)
  go_ret
  first | exact ⟨rfl, rfl⟩ | exact ⟨rfl, by rw [hW1]⟩
set_option maxHeartbeats 4000000 in
set_option maxRecDepth 100000 in
theorem insS_end_room (b off n c vb voff m vc : Nat) (vs : List Value) (w : World) (hm : 0 < m) (hroom : n + m ≤ c) (hc63 : c ≤ 9223372036854775807)
    (hvl : vs.length = m) (hsp : ∀ j, j < m → (w.cell? ⟨b, off + n + j, none⟩).isSome = true) (hfz : ∀ j, j < m → w.frozen? ⟨b, off + n + j, none⟩ = false)
    (hvs : ∀ j v, vs[j]? = some v → w.cell? ⟨vb, voff + j, none⟩ = some v) (h1v : ∀ v ∈ vs, v.oneCell' = true) :
    Calls Tryd.prog 33 #[.slice (some ⟨b, off, none⟩) n c, .int .i64 n, .slice (some ⟨vb, voff, none⟩) m vc] w fun e w' =>
      e = .returned (.slice (some ⟨b, off, none⟩) (n + m) c) ∧ w' = w.setCells b (off + n) vs := by
  have mixed : Tryd.prog.follows .mixedOrders = true := by kernel_rfl
  obtain ⟨i0, hi0, hz0, hzs, hzb⟩ := insS_info
  have hz1 : ¬ ((m : Int) = 0) := by omega
  have hsrc : Src Tryd.prog i0.size 27 (.slice (some ⟨vb, voff, none⟩) m vc) m vs w := by
    rw [hzs]
    exact Src.ofSlice w Tryd.underlying27 ⟨vb, voff, none⟩ m vc vs (by omega) (fun j u hj => by rw [Addr.add_lit]; exact hvs j u hj) h1v
  have hrun : ∀ ty, (Builtin.append_ #[27, 27] ty #[.slice (some ⟨b, off, none⟩) n c, .slice (some ⟨vb, voff, none⟩) m vc]).run Tryd.prog w = .ok (.slice (some ⟨b, off, none⟩) (n + m) c) (w.setCells b (off + n) vs) := fun ty => by
    have := run_append_room_src w 27 27 ty 9 i0 Tryd.underlying27 hi0 b off n c _ m vs hsrc hroom (by simp only [hzs, hvl, Nat.mul_one]; exact hsp) (by simp only [hzs, hvl, Nat.mul_one]; exact hfz)
    simp only [hzs, Nat.mul_one] at this
    exact this
  go_enter Tryd.func33, Tryd.ntmps33
  go_wp2_with (at_builtin; refine Lib.wpList_append_run _ rfl _ _ _ _ rfl _ _ rfl rfl _ _ (hrun _) ?_)
  go_ret
  exact ⟨rfl, rfl⟩
set_option maxHeartbeats 4000000 in
set_option maxRecDepth 100000 in
theorem insS_end_grow (base : Option Addr) (n c vb voff m vc : Nat) (cs vs : List Value) (w : World) (hm : 0 < m) (hnc : n ≤ c) (hroom : c < n + m) (hbig : (n + m) * 16 ≤ 140737488355328)
    (hcl : cs.length = n) (hvl : vs.length = m) (hnil : base = none → n = 0)
    (hcs : ∀ a, base = some a → ∀ j v, cs[j]? = some v → w.cell? (a.add j) = some v)
    (hvs : ∀ j v, vs[j]? = some v → w.cell? ⟨vb, voff + j, none⟩ = some v) (h1v : ∀ v ∈ vs, v.oneCell' = true) :
    Calls Tryd.prog 33 #[.slice base n c, .int .i64 n, .slice (some ⟨vb, voff, none⟩) m vc] w fun e w' =>
      e = .returned (.slice (some ⟨w.heap.size, 0, none⟩) (n + m) (grownCap w (n + m) c 9)) ∧
      w' = w.drew.alloc (.cells ((cs ++ vs).toArray ++ Builtin.zeroCells (.string ⟨#[]⟩ : Value).cells (grownCap w (n + m) c 9 - (n + m))) 9) := by
  have mixed : Tryd.prog.follows .mixedOrders = true := by kernel_rfl
  obtain ⟨i0, hi0, hz0, hzs, hzb⟩ := insS_info
  have hz1 : ¬ ((m : Int) = 0) := by omega
  have hsrc : Src Tryd.prog i0.size 27 (.slice (some ⟨vb, voff, none⟩) m vc) m vs w := by
    rw [hzs]
    exact Src.ofSlice w Tryd.underlying27 ⟨vb, voff, none⟩ m vc vs (by omega) (fun j u hj => by rw [Addr.add_lit]; exact hvs j u hj) h1v
  have hold : (Builtin.firstCells i0.size n (.slice base n c)).run Tryd.prog w.drew = .ok cs.toArray w.drew := by
    rw [hzs]
    cases base with
    | none =>
      have h0 := hnil rfl
      subst h0
      have hc0 : cs = [] := List.length_eq_zero_iff.1 (by omega)
      rw [hc0]
      exact run_firstCells_none w.drew 1 0 0 c
    | some a => exact run_firstCells_some w.drew 1 n a n c cs (by omega) (fun j v hj => hcs a rfl j v hj)
  have hrun : ∀ ty, (Builtin.append_ #[27, 27] ty #[.slice base n c, .slice (some ⟨vb, voff, none⟩) m vc]).run Tryd.prog w = _ := fun ty =>
    run_append_grow_src w 27 27 ty 9 i0 _ Tryd.underlying27 hi0 hz0 base n c cs hold _ m vs hsrc hroom (by omega) (by rw [hzb]; exact growslice_fits hroom hbig)
  go_enter Tryd.func33, Tryd.ntmps33
  cases base with
  | none =>
    have h0 := hnil rfl
    subst h0
    go_wp2_with (at_builtin; refine Lib.wpList_append_run _ rfl _ _ _ _ rfl _ _ rfl rfl _ _ (hrun _) ?_)
    go_ret
    exact ⟨rfl, rfl⟩
  | some a =>
    obtain ⟨ab, ao, asp⟩ := a
    go_wp2_with (at_builtin; refine Lib.wpList_append_run _ rfl _ _ _ _ rfl _ _ rfl rfl _ _ (hrun _) ?_)
    all_goals (go_ret; exact ⟨rfl, rfl⟩)
set_option maxHeartbeats 4000000 in
set_option maxRecDepth 100000 in
theorem insS_grow (b off n c i vb voff m vc : Nat) (cs vs : List Value) (w : World) (hi : i < n) (hm : 0 < m) (hnc : n ≤ c) (hroom : c < n + m) (hbig : (n + m) * 16 ≤ 140737488355328)
    (hcl : cs.length = n) (hvl : vs.length = m)
    (hcs : ∀ j v, cs[j]? = some v → w.cell? ⟨b, off + j, none⟩ = some v)
    (hvs : ∀ j v, vs[j]? = some v → w.cell? ⟨vb, voff + j, none⟩ = some v) (h1c : ∀ v ∈ cs, v.oneCell' = true) (h1v : ∀ v ∈ vs, v.oneCell' = true) :
    Calls Tryd.prog 33 #[.slice (some ⟨b, off, none⟩) n c, .int .i64 i, .slice (some ⟨vb, voff, none⟩) m vc] w fun e w' =>
      e = .returned (.slice (some ⟨w.heap.size, 0, none⟩) (n + m) (grownCap w (n + m) c 9)) ∧
      w' = (((w.alloc (.cells ((cs.take (i)).toArray ++ Builtin.zeroCells (.string ⟨#[]⟩ : Value).cells (n + m - i) ++ Builtin.zeroCells (.string ⟨#[]⟩ : Value).cells (grownCap w (n + m) c 9 - (n + m))) 9)).drew.setCells w.heap.size (i) vs).drew).setCells w.heap.size ((i + m)) (cs.drop (i)) := by
  have mixed : Tryd.prog.follows .mixedOrders = true := by kernel_rfl
  obtain ⟨i0, hi0, hz0, hzs, hzb⟩ := insS_info
  have hz1 : ¬ ((m : Int) = 0) := by omega
  have hz2 : ¬ ((i : Int) = (n : Int)) := by omega
  have hz3 : (c : Int) < (n : Int) + (m : Int) := by omega
  have hsz : (Tryd.prog.info? 9).map (·.size) = some 1 := by rw [hi0]; simp [hzs]
  have hbw : b < w.heap.size := block_lt_of_cell (hcs 0 _ (List.getElem?_eq_getElem (by omega)))
  have hvw : vb < w.heap.size := block_lt_of_cell (hvs 0 _ (List.getElem?_eq_getElem (by omega)))
  have hkk : (n : Int) + (m : Int) - (i : Int) = ((n + m - i : Nat) : Int) := by omega
  have hik : i + (n + m - i) = n + m := by omega
  have hold : (Builtin.firstCells i0.size i (.slice (some ⟨b, off, none⟩) i c)).run Tryd.prog w.drew = .ok (cs.take (i)).toArray w.drew := by
    rw [hzs]
    exact run_firstCells_some w.drew 1 i ⟨b, off, none⟩ i c (cs.take (i)) (by rw [List.length_take]; omega) (fun j v hj => by
      rw [Addr.add_lit]
      rw [List.getElem?_take] at hj
      split at hj
      · exact hcs j v hj
      · cases hj)
  have hrz : ∀ ty, (Builtin.append_ #[27, 3] ty #[.slice (some ⟨b, off, none⟩) i c, .int .i64 ((n : Int) + (m : Int) - (i : Int))]).run Tryd.prog w =
      .ok (.slice (some ⟨w.heap.size, 0, none⟩) (n + m) (grownCap w (n + m) c 9)) (w.drew.alloc (.cells ((cs.take (i)).toArray ++ Builtin.zeroCells (.string ⟨#[]⟩ : Value).cells (n + m - i) ++ Builtin.zeroCells (.string ⟨#[]⟩ : Value).cells (grownCap w (n + m) c 9 - (n + m))) 9)) := fun ty => by
    have h := Lib.run_append_grow_zeros w 27 3 ty 9 i0 _ .i64 .i64 Tryd.underlying27 Tryd.underlying3 hi0 hz0 (some ⟨b, off, none⟩) i c (cs.take (i)) hold (n + m - i) (by omega) (by omega) (by omega) (by omega) (by rw [hzb]; omega) (by rw [hzb, hik]; exact growslice_fits hroom hbig)
    rw [hik] at h
    rw [hkk]
    exact h
  obtain ⟨G, hG⟩ : ∃ G, G = grownCap w (n + m) c 9 := ⟨_, rfl⟩
  obtain ⟨ROW, hROW⟩ : ∃ ROW : Array Value, ROW = (cs.take (i)).toArray ++ Builtin.zeroCells (.string ⟨#[]⟩ : Value).cells (n + m - i) ++ Builtin.zeroCells (.string ⟨#[]⟩ : Value).cells (G - (n + m)) := ⟨_, rfl⟩
  rw [← hG] at hrz ⊢
  rw [← hROW] at hrz ⊢
  have hRl : (n + m) ≤ ROW.size := by
    rw [hROW]
    simp [Builtin.zeroCells, Value.cells]
    omega
  obtain ⟨W1, hW1⟩ : ∃ W1, W1 = w.drew.alloc (.cells ROW 9) := ⟨_, rfl⟩
  rw [← hW1] at hrz
  have hN : ∀ j, j < (n + m) → (W1.cell? ⟨w.heap.size, j, none⟩).isSome = true := fun j hj => by
    rw [hW1, World.cell?_alloc_at (w := w.drew) ROW _ w.heap.size j rfl, Array.getElem?_eq_getElem (by omega)]; rfl
  have hNf : ∀ j, W1.frozen? ⟨w.heap.size, j, none⟩ = false := fun j => by rw [hW1]; exact World.frozen?_alloc_at (w := w.drew) ROW _ w.heap.size j rfl
  have hOb : ∀ j v, w.cell? ⟨b, j, none⟩ = some v → W1.cell? ⟨b, j, none⟩ = some v := fun j v h => by rw [hW1, World.cell?_alloc_past (w := w.drew) _ b j hbw]; exact h
  have hOv : ∀ j v, w.cell? ⟨vb, j, none⟩ = some v → W1.cell? ⟨vb, j, none⟩ = some v := fun j v h => by rw [hW1, World.cell?_alloc_past (w := w.drew) _ vb j hvw]; exact h
  have hcpA : ∀ (W : World), (∀ x, W.cell? x = W1.cell? x) → (∀ x, W.frozen? x = W1.frozen? x) → ∀ ty dc, (Builtin.copy_ #[27, 27] ty #[.slice (some ⟨w.heap.size, i, none⟩) (n + m - i) dc, .slice (some ⟨vb, voff, none⟩) m vc]).run Tryd.prog W = .ok (goInt (Nat.min m (n + m - i))) (W.setCells w.heap.size (i) vs) := fun W hWc hWf ty dc =>
    run_copy_cellsN W _ _ ty 9 1 w.heap.size (i) (n + m - i) dc ⟨vb, voff, none⟩ m vc vs Tryd.underlying27 hsz (by rw [hvl]; simp only [Nat.min_def]; split <;> omega)
      (fun j v hj => by rw [Addr.add_lit, hWc]; exact hOv _ v (hvs j v hj))
      (fun j hj => by rw [hWc]; exact hN _ (by omega)) (fun j hj => by rw [hWf]; exact hNf _) h1v
  have hGn : n + m ≤ G := by rw [hG]; exact grownCap_ge w _ _ _
  have hG63 : G ≤ 9223372036854775807 := by
    have := grownCap_le_maxLen w (n + m) c 9 (by unfold maxLen; omega)
    rw [← hG] at this
    unfold maxLen at this
    omega
  have hGi : ¬ (G = i) := by omega
  have hGim : ¬ (G = i + m) := by omega
  have hci : ¬ (c = i) := by omega
  have hbN : b ≠ w.heap.size := by omega
  have hdl : (cs.drop (i)).length = (n - i) := by have := List.length_drop (i := i) (l := cs); omega
  have hcpB : ∀ (W : World), (∀ x, W.cell? x = (W1.setCells w.heap.size (i) vs).cell? x) → (∀ x, W.frozen? x = (W1.setCells w.heap.size (i) vs).frozen? x) → ∀ ty dc sc, (Builtin.copy_ #[27, 27] ty #[.slice (some ⟨w.heap.size, (i + m), none⟩) (n + m - (i + m)) dc, .slice (some ⟨b, off + i, none⟩) (n - i) sc]).run Tryd.prog W = .ok (goInt (Nat.min (n - i) (n + m - (i + m)))) (W.setCells w.heap.size ((i + m)) (cs.drop (i))) := fun W hWc hWf ty dc sc =>
    run_copy_cellsN W _ _ ty 9 1 w.heap.size ((i + m)) (n + m - (i + m)) dc ⟨b, off + i, none⟩ (n - i) sc (cs.drop (i)) Tryd.underlying27 hsz (by rw [hdl]; simp only [Nat.min_def]; split <;> omega)
      (fun j v hj => by
        rw [Addr.add_lit, hWc, World.cell?_setCells_out _ _ _ _ _ (fun h _ => absurd h hbN), Nat.add_assoc]
        exact hOb _ v (hcs (i + j) v (by rwa [List.getElem?_drop] at hj)))
      (fun j hj => by rw [hWc]; exact isSome_setCells _ _ _ _ (fun t ht => hN _ (by omega)) _ (hN _ (by omega)))
      (fun j hj => by rw [hWf, World.frozen?_setCells]; exact hNf _) (fun v hv => h1c v (List.mem_of_mem_drop hv))
  subst hW1
  have hE1 : ∀ x, ((w.alloc (.cells ROW 9)).drew).cell? x = (w.drew.alloc (.cells ROW 9)).cell? x := fun x => rfl
  have hE2 : ∀ x, ((w.alloc (.cells ROW 9)).drew).frozen? x = (w.drew.alloc (.cells ROW 9)).frozen? x := fun x => rfl
  have hF1 : ∀ x, (((w.alloc (.cells ROW 9)).drew.setCells w.heap.size (i) vs).drew).cell? x = ((w.drew.alloc (.cells ROW 9)).setCells w.heap.size (i) vs).cell? x := fun x => rfl
  have hF2 : ∀ x, (((w.alloc (.cells ROW 9)).drew.setCells w.heap.size (i) vs).drew).frozen? x = ((w.drew.alloc (.cells ROW 9)).setCells w.heap.size (i) vs).frozen? x := fun x => rfl
  have hw1 : IntKind.i64.wrap ((i : Int) + (m : Int)) = (i : Int) + (m : Int) := by rw [IntKind.wrap_i64]; omega
  have hb1 : (0 : Int) ≤ (i : Int) + (m : Int) := by omega
  have hin : i ≤ n := by omega
  have htn : ((i : Int) + (m : Int)).toNat = i + m := by omega
  have hb3 : (i : Int) ≤ (n : Int) := by omega
  clear hkk hik hold hROW hG hRl
  go_enter Tryd.func33, Tryd.ntmps33
  go_wp2_with (first
    | (at_builtin; refine Lib.wpList_append_run _ rfl _ _ _ _ rfl _ _ rfl rfl _ _ (hrz _) ?_)
    | (at_builtin; refine wpList_copy_runI _ rfl _ _ 27 27 rfl _ _ rfl rfl (hcpA _ hE1 hE2 _ _) ?_)
    | (at_builtin; refine wpList_copy_runI _ rfl _ _ 27 27 rfl _ _ rfl rfl (hcpB _ (fun _ => rfl) (fun _ => rfl) _ _ _) ?_))
  go_region_law_o (refine step_copy_runI rfl _ _ 27 27 rfl (.slice (some ⟨w.heap.size, (i + m), none⟩) (n + m - (i + m)) (G - (i + m))) (.slice (some ⟨b, off + i, none⟩) (n - i) (c - i)) (by simp [Act.eval, Act.put]) (by simp [Act.eval, Act.put]) (hcpB _ hF1 hF2 3 (G - (i + m)) (c - i)) ?_)
  go_wp2
  go_ret
  exact ⟨rfl, rfl⟩
end Go.Proofs.YtmfaejdnaippkaaDoor

end
section
/-
  slices.Insert of elements of 6 cells: its four roads, each said whole (after the kit's own proof for elements of one cell).
-/
open Go Go.Proofs Go.RowKit Go.Lib
namespace Go.Proofs.YtmfaejdnaippkaaDoor
set_option maxRecDepth 4000
set_option linter.unusedVariables false
set_option linter.unusedSimpArgs false
theorem insV_info : ∃ i0, Tryd.prog.info? 29 = some i0 ∧ i0.zero = some (.agg #[.int .i64 0, .bool false, .int .i64 0, .string ⟨#[]⟩, .slice none 0 0, .slice none 0 0]) ∧ i0.size = 6 ∧ i0.bytes = 88 := ⟨_, rfl, rfl, rfl, rfl⟩
set_option maxHeartbeats 4000000 in
set_option maxRecDepth 100000 in
theorem insV_shift (b off n c i vb voff m vc : Nat) (cs vs : List Value) (w : World) (hi : i < n) (hm : 0 < m) (hroom : n + m ≤ c) (hc63 : c ≤ 9223372036854775807) (hvb : vb ≠ b)
    (hcl : cs.length = n * 6) (hvl : vs.length = m * 6)
    (hcs : ∀ j v, cs[j]? = some v → w.cell? ⟨b, off + j, none⟩ = some v) (hsp : ∀ j, j < (n + m) * 6 → (w.cell? ⟨b, off + j, none⟩).isSome = true) (hfz : ∀ j, j < (n + m) * 6 → w.frozen? ⟨b, off + j, none⟩ = false)
    (hvs : ∀ j v, vs[j]? = some v → w.cell? ⟨vb, voff + j, none⟩ = some v) (h1c : ∀ v ∈ cs, v.oneCell' = true) (h1v : ∀ v ∈ vs, v.oneCell' = true)
    (tA tB : TypeId) (kA kB : Nat) (hsa : w.shape? vb = some (tA, kA)) (hsb : w.shape? b = some (tB, kB)) (hkB : kB ≠ 0) (hfa : w.frozen? ⟨vb, voff, none⟩ = false) (hfe : w.frozen? ⟨vb, kA, none⟩ = false) :
    Calls Tryd.prog 34 #[.slice (some ⟨b, off, none⟩) n c, .int .i64 i, .slice (some ⟨vb, voff, none⟩) m vc] w fun e w' =>
      e = .returned (.slice (some ⟨b, off, none⟩) (n + m) c) ∧ w' = (w.drew.setCells b (off + (i + m) * 6) (cs.drop (i * 6))).setCells b (off + i * 6) vs := by
  have hz1 : ¬ ((m : Int) = 0) := by omega
  have hz2 : ¬ ((i : Int) = (n : Int)) := by omega
  obtain ⟨i0, hi0, hz0, hzs, hzb⟩ := insV_info
  have hsz : (Tryd.prog.info? 29).map (·.size) = some 6 := by rw [hi0]; simp [hzs]
  have hov : ∀ lb cb, (callFunc 52 #[.slice (some ⟨vb, voff, none⟩) m vc, .slice (some ⟨b, off + (i + m) * 6, none⟩) lb cb]).run Tryd.prog w = .ok (.value (.bool false)) w := fun lb cb => by
    rw [run_callFunc_extern Tryd.func52 (by kernel_rfl) (by kernel_rfl) (by kernel_rfl) (e := Extern.SlicesOverlaps.overlaps #[26, 26] #[4]) (by kernel_rfl),
      Lib.run_overlaps_apart w 26 4 29 Tryd.underlying26 6 (fun w => by simp [sizeOf, typeInfo, hi0, hzs]) ⟨vb, voff, none⟩ ⟨b, off + (i + m) * 6, none⟩ m vc lb cb hvb tA tB kA kB hsa hsb hkB hfa hfe]
    rfl
  have hdl : (cs.drop (i * 6)).length = (n - i) * 6 := by have := List.length_drop (i := i * 6) (l := cs); omega
  have mixed : Tryd.prog.follows .mixedOrders = true := by kernel_rfl
  have hw1 : IntKind.i64.wrap ((i : Int) + (m : Int)) = (i : Int) + (m : Int) := by rw [IntKind.wrap_i64]; omega
  have hb1 : (0 : Int) ≤ (i : Int) + (m : Int) := by omega
  have hin : i ≤ n := by omega
  have htn : ((i : Int) + (m : Int)).toNat = i + m := by omega
  have hb2 : ¬ (c = i + m) := by omega
  have hb3 : (i : Int) ≤ (n : Int) + (m : Int) := by omega
  have hb4 : ¬ (c = i) := by omega
  have hcp1 : ∀ ty dc sc, (Builtin.copy_ #[26, 26] ty #[.slice (some ⟨b, off + (i + m) * 6, none⟩) (n + m - (i + m)) dc, .slice (some ⟨b, off + i * 6, none⟩) (n + m - i) sc]).run Tryd.prog w.drew = .ok (goInt (Nat.min (n + m - i) (n + m - (i + m)))) (w.drew.setCells b (off + (i + m) * 6) (cs.drop (i * 6))) := fun ty dc sc =>
    run_copy_cellsN w.drew _ _ ty 29 6 b (off + (i + m) * 6) (n + m - (i + m)) dc ⟨b, off + i * 6, none⟩ (n + m - i) sc (cs.drop (i * 6)) Tryd.underlying26 hsz (by rw [hdl]; simp only [Nat.min_def]; split <;> omega)
      (fun j v hj => by rw [Addr.add_lit, Nat.add_assoc]; exact hcs (i * 6 + j) v (by rwa [List.getElem?_drop] at hj))
      (fun j hj => by rw [Nat.add_assoc]; exact hsp _ (by omega)) (fun j hj => by rw [Nat.add_assoc]; exact hfz _ (by omega)) (fun v hv => h1c v (List.mem_of_mem_drop hv))
  obtain ⟨W1, hW1⟩ : ∃ W1, W1 = w.drew.setCells b (off + (i + m) * 6) (cs.drop (i * 6)) := ⟨_, rfl⟩
  have hsp1 : ∀ k, k < (n + m) * 6 → (W1.cell? ⟨b, off + k, none⟩).isSome = true := fun k hk => by
    rw [hW1]
    exact isSome_setCells b _ _ _ (fun j hj => by rw [Nat.add_assoc]; exact hsp _ (by omega)) _ (hsp k hk)
  have hcp2 : ∀ (W : World), (∀ x, W.cell? x = W1.cell? x) → (∀ x, W.frozen? x = W1.frozen? x) → ∀ ty dc, (Builtin.copy_ #[26, 26] ty #[.slice (some ⟨b, off + i * 6, none⟩) (n + m - i) dc, .slice (some ⟨vb, voff, none⟩) m vc]).run Tryd.prog W = .ok (goInt (Nat.min m (n + m - i))) (W.setCells b (off + i * 6) vs) := fun W hWc hWf ty dc =>
    run_copy_cellsN W _ _ ty 29 6 b (off + i * 6) (n + m - i) dc ⟨vb, voff, none⟩ m vc vs Tryd.underlying26 hsz (by rw [hvl]; simp only [Nat.min_def]; split <;> omega)
      (fun j v hj => by
        rw [Addr.add_lit, hWc, hW1, World.cell?_setCells_out b _ _ _ _ (fun h _ => absurd h hvb)]
        exact hvs j v hj)
      (fun j hj => by rw [hWc, Nat.add_assoc]; exact hsp1 _ (by omega)) (fun j hj => by rw [hWf, hW1, World.frozen?_setCells, Nat.add_assoc]; exact hfz _ (by omega)) h1v
  rw [← hW1] at hcp1
  go_enter Tryd.func34, Tryd.ntmps34
  go_wp2_with (simp only [hov])
  go_region_law_o (refine step_copy_runI rfl _ _ 26 26 rfl _ _ (by simp [Act.eval, Act.put]) (by simp [Act.eval, Act.put]) (hcp1 _ _ _) ?_)
  go_wp2_with (at_builtin; refine wpList_copy_runI _ rfl _ _ 26 26 rfl _ _ rfl rfl (hcp2 _ (fun _ => rfl) (fun _ => rfl) _ _) ?_)
  go_ret
  first | exact ⟨rfl, rfl⟩ | exact ⟨rfl, by rw [hW1]⟩
set_option maxHeartbeats 4000000 in
set_option maxRecDepth 100000 in
theorem insV_end_room (b off n c vb voff m vc : Nat) (vs : List Value) (w : World) (hm : 0 < m) (hroom : n + m ≤ c) (hc63 : c ≤ 9223372036854775807)
    (hvl : vs.length = m * 6) (hsp : ∀ j, j < m * 6 → (w.cell? ⟨b, off + n * 6 + j, none⟩).isSome = true) (hfz : ∀ j, j < m * 6 → w.frozen? ⟨b, off + n * 6 + j, none⟩ = false)
    (hvs : ∀ j v, vs[j]? = some v → w.cell? ⟨vb, voff + j, none⟩ = some v) (h1v : ∀ v ∈ vs, v.oneCell' = true) :
    Calls Tryd.prog 34 #[.slice (some ⟨b, off, none⟩) n c, .int .i64 n, .slice (some ⟨vb, voff, none⟩) m vc] w fun e w' =>
      e = .returned (.slice (some ⟨b, off, none⟩) (n + m) c) ∧ w' = w.setCells b (off + n * 6) vs := by
  have mixed : Tryd.prog.follows .mixedOrders = true := by kernel_rfl
  obtain ⟨i0, hi0, hz0, hzs, hzb⟩ := insV_info
  have hz1 : ¬ ((m : Int) = 0) := by omega
  have hsrc : Src Tryd.prog i0.size 26 (.slice (some ⟨vb, voff, none⟩) m vc) m vs w := by
    rw [hzs]
    exact Src.ofSlice w Tryd.underlying26 ⟨vb, voff, none⟩ m vc vs (by omega) (fun j u hj => by rw [Addr.add_lit]; exact hvs j u hj) h1v
  have hrun : ∀ ty, (Builtin.append_ #[26, 26] ty #[.slice (some ⟨b, off, none⟩) n c, .slice (some ⟨vb, voff, none⟩) m vc]).run Tryd.prog w = .ok (.slice (some ⟨b, off, none⟩) (n + m) c) (w.setCells b (off + n * 6) vs) := fun ty => by
    have := run_append_room_src w 26 26 ty 29 i0 Tryd.underlying26 hi0 b off n c _ m vs hsrc hroom (by simp only [hzs, hvl, Nat.mul_one]; exact hsp) (by simp only [hzs, hvl, Nat.mul_one]; exact hfz)
    simp only [hzs, Nat.mul_one] at this
    exact this
  go_enter Tryd.func34, Tryd.ntmps34
  go_wp2_with (at_builtin; refine Lib.wpList_append_run _ rfl _ _ _ _ rfl _ _ rfl rfl _ _ (hrun _) ?_)
  go_ret
  exact ⟨rfl, rfl⟩
set_option maxHeartbeats 4000000 in
set_option maxRecDepth 100000 in
theorem insV_end_grow (base : Option Addr) (n c vb voff m vc : Nat) (cs vs : List Value) (w : World) (hm : 0 < m) (hnc : n ≤ c) (hroom : c < n + m) (hbig : (n + m) * 88 ≤ 140737488355328)
    (hcl : cs.length = n * 6) (hvl : vs.length = m * 6) (hnil : base = none → n = 0)
    (hcs : ∀ a, base = some a → ∀ j v, cs[j]? = some v → w.cell? (a.add j) = some v)
    (hvs : ∀ j v, vs[j]? = some v → w.cell? ⟨vb, voff + j, none⟩ = some v) (h1v : ∀ v ∈ vs, v.oneCell' = true) :
    Calls Tryd.prog 34 #[.slice base n c, .int .i64 n, .slice (some ⟨vb, voff, none⟩) m vc] w fun e w' =>
      e = .returned (.slice (some ⟨w.heap.size, 0, none⟩) (n + m) (grownCap w (n + m) c 29)) ∧
      w' = w.drew.alloc (.cells ((cs ++ vs).toArray ++ Builtin.zeroCells (.agg #[.int .i64 0, .bool false, .int .i64 0, .string ⟨#[]⟩, .slice none 0 0, .slice none 0 0] : Value).cells (grownCap w (n + m) c 29 - (n + m))) 29) := by
  have mixed : Tryd.prog.follows .mixedOrders = true := by kernel_rfl
  obtain ⟨i0, hi0, hz0, hzs, hzb⟩ := insV_info
  have hz1 : ¬ ((m : Int) = 0) := by omega
  have hsrc : Src Tryd.prog i0.size 26 (.slice (some ⟨vb, voff, none⟩) m vc) m vs w := by
    rw [hzs]
    exact Src.ofSlice w Tryd.underlying26 ⟨vb, voff, none⟩ m vc vs (by omega) (fun j u hj => by rw [Addr.add_lit]; exact hvs j u hj) h1v
  have hold : (Builtin.firstCells i0.size n (.slice base n c)).run Tryd.prog w.drew = .ok cs.toArray w.drew := by
    rw [hzs]
    cases base with
    | none =>
      have h0 := hnil rfl
      subst h0
      have hc0 : cs = [] := List.length_eq_zero_iff.1 (by omega)
      rw [hc0]
      exact run_firstCells_none w.drew 6 0 0 c
    | some a => exact run_firstCells_some w.drew 6 n a n c cs (by omega) (fun j v hj => hcs a rfl j v hj)
  have hrun : ∀ ty, (Builtin.append_ #[26, 26] ty #[.slice base n c, .slice (some ⟨vb, voff, none⟩) m vc]).run Tryd.prog w = _ := fun ty =>
    run_append_grow_src w 26 26 ty 29 i0 _ Tryd.underlying26 hi0 hz0 base n c cs hold _ m vs hsrc hroom (by omega) (by rw [hzb]; exact growslice_fits hroom hbig)
  go_enter Tryd.func34, Tryd.ntmps34
  cases base with
  | none =>
    have h0 := hnil rfl
    subst h0
    go_wp2_with (at_builtin; refine Lib.wpList_append_run _ rfl _ _ _ _ rfl _ _ rfl rfl _ _ (hrun _) ?_)
    go_ret
    exact ⟨rfl, rfl⟩
  | some a =>
    obtain ⟨ab, ao, asp⟩ := a
    go_wp2_with (at_builtin; refine Lib.wpList_append_run _ rfl _ _ _ _ rfl _ _ rfl rfl _ _ (hrun _) ?_)
    all_goals (go_ret; exact ⟨rfl, rfl⟩)
set_option maxHeartbeats 4000000 in
set_option maxRecDepth 100000 in
theorem insV_grow (b off n c i vb voff m vc : Nat) (cs vs : List Value) (w : World) (hi : i < n) (hm : 0 < m) (hnc : n ≤ c) (hroom : c < n + m) (hbig : (n + m) * 88 ≤ 140737488355328)
    (hcl : cs.length = n * 6) (hvl : vs.length = m * 6)
    (hcs : ∀ j v, cs[j]? = some v → w.cell? ⟨b, off + j, none⟩ = some v)
    (hvs : ∀ j v, vs[j]? = some v → w.cell? ⟨vb, voff + j, none⟩ = some v) (h1c : ∀ v ∈ cs, v.oneCell' = true) (h1v : ∀ v ∈ vs, v.oneCell' = true) :
    Calls Tryd.prog 34 #[.slice (some ⟨b, off, none⟩) n c, .int .i64 i, .slice (some ⟨vb, voff, none⟩) m vc] w fun e w' =>
      e = .returned (.slice (some ⟨w.heap.size, 0, none⟩) (n + m) (grownCap w (n + m) c 29)) ∧
      w' = (((w.alloc (.cells ((cs.take (i * 6)).toArray ++ Builtin.zeroCells (.agg #[.int .i64 0, .bool false, .int .i64 0, .string ⟨#[]⟩, .slice none 0 0, .slice none 0 0] : Value).cells (n + m - i) ++ Builtin.zeroCells (.agg #[.int .i64 0, .bool false, .int .i64 0, .string ⟨#[]⟩, .slice none 0 0, .slice none 0 0] : Value).cells (grownCap w (n + m) c 29 - (n + m))) 29)).drew.setCells w.heap.size (i * 6) vs).drew).setCells w.heap.size ((i + m) * 6) (cs.drop (i * 6)) := by
  have mixed : Tryd.prog.follows .mixedOrders = true := by kernel_rfl
  obtain ⟨i0, hi0, hz0, hzs, hzb⟩ := insV_info
  have hz1 : ¬ ((m : Int) = 0) := by omega
  have hz2 : ¬ ((i : Int) = (n : Int)) := by omega
  have hz3 : (c : Int) < (n : Int) + (m : Int) := by omega
  have hsz : (Tryd.prog.info? 29).map (·.size) = some 6 := by rw [hi0]; simp [hzs]
  have hbw : b < w.heap.size := block_lt_of_cell (hcs 0 _ (List.getElem?_eq_getElem (by omega)))
  have hvw : vb < w.heap.size := block_lt_of_cell (hvs 0 _ (List.getElem?_eq_getElem (by omega)))
  have hkk : (n : Int) + (m : Int) - (i : Int) = ((n + m - i : Nat) : Int) := by omega
  have hik : i + (n + m - i) = n + m := by omega
  have hold : (Builtin.firstCells i0.size i (.slice (some ⟨b, off, none⟩) i c)).run Tryd.prog w.drew = .ok (cs.take (i * 6)).toArray w.drew := by
    rw [hzs]
    exact run_firstCells_some w.drew 6 i ⟨b, off, none⟩ i c (cs.take (i * 6)) (by rw [List.length_take]; omega) (fun j v hj => by
      rw [Addr.add_lit]
      rw [List.getElem?_take] at hj
      split at hj
      · exact hcs j v hj
      · cases hj)
  have hrz : ∀ ty, (Builtin.append_ #[26, 3] ty #[.slice (some ⟨b, off, none⟩) i c, .int .i64 ((n : Int) + (m : Int) - (i : Int))]).run Tryd.prog w =
      .ok (.slice (some ⟨w.heap.size, 0, none⟩) (n + m) (grownCap w (n + m) c 29)) (w.drew.alloc (.cells ((cs.take (i * 6)).toArray ++ Builtin.zeroCells (.agg #[.int .i64 0, .bool false, .int .i64 0, .string ⟨#[]⟩, .slice none 0 0, .slice none 0 0] : Value).cells (n + m - i) ++ Builtin.zeroCells (.agg #[.int .i64 0, .bool false, .int .i64 0, .string ⟨#[]⟩, .slice none 0 0, .slice none 0 0] : Value).cells (grownCap w (n + m) c 29 - (n + m))) 29)) := fun ty => by
    have h := Lib.run_append_grow_zeros w 26 3 ty 29 i0 _ .i64 .i64 Tryd.underlying26 Tryd.underlying3 hi0 hz0 (some ⟨b, off, none⟩) i c (cs.take (i * 6)) hold (n + m - i) (by omega) (by omega) (by omega) (by omega) (by rw [hzb]; omega) (by rw [hzb, hik]; exact growslice_fits hroom hbig)
    rw [hik] at h
    rw [hkk]
    exact h
  obtain ⟨G, hG⟩ : ∃ G, G = grownCap w (n + m) c 29 := ⟨_, rfl⟩
  obtain ⟨ROW, hROW⟩ : ∃ ROW : Array Value, ROW = (cs.take (i * 6)).toArray ++ Builtin.zeroCells (.agg #[.int .i64 0, .bool false, .int .i64 0, .string ⟨#[]⟩, .slice none 0 0, .slice none 0 0] : Value).cells (n + m - i) ++ Builtin.zeroCells (.agg #[.int .i64 0, .bool false, .int .i64 0, .string ⟨#[]⟩, .slice none 0 0, .slice none 0 0] : Value).cells (G - (n + m)) := ⟨_, rfl⟩
  rw [← hG] at hrz ⊢
  rw [← hROW] at hrz ⊢
  have hRl : (n + m) * 6 ≤ ROW.size := by
    rw [hROW]
    simp [Builtin.zeroCells, Value.cells]
    omega
  obtain ⟨W1, hW1⟩ : ∃ W1, W1 = w.drew.alloc (.cells ROW 29) := ⟨_, rfl⟩
  rw [← hW1] at hrz
  have hN : ∀ j, j < (n + m) * 6 → (W1.cell? ⟨w.heap.size, j, none⟩).isSome = true := fun j hj => by
    rw [hW1, World.cell?_alloc_at (w := w.drew) ROW _ w.heap.size j rfl, Array.getElem?_eq_getElem (by omega)]; rfl
  have hNf : ∀ j, W1.frozen? ⟨w.heap.size, j, none⟩ = false := fun j => by rw [hW1]; exact World.frozen?_alloc_at (w := w.drew) ROW _ w.heap.size j rfl
  have hOb : ∀ j v, w.cell? ⟨b, j, none⟩ = some v → W1.cell? ⟨b, j, none⟩ = some v := fun j v h => by rw [hW1, World.cell?_alloc_past (w := w.drew) _ b j hbw]; exact h
  have hOv : ∀ j v, w.cell? ⟨vb, j, none⟩ = some v → W1.cell? ⟨vb, j, none⟩ = some v := fun j v h => by rw [hW1, World.cell?_alloc_past (w := w.drew) _ vb j hvw]; exact h
  have hcpA : ∀ (W : World), (∀ x, W.cell? x = W1.cell? x) → (∀ x, W.frozen? x = W1.frozen? x) → ∀ ty dc, (Builtin.copy_ #[26, 26] ty #[.slice (some ⟨w.heap.size, i * 6, none⟩) (n + m - i) dc, .slice (some ⟨vb, voff, none⟩) m vc]).run Tryd.prog W = .ok (goInt (Nat.min m (n + m - i))) (W.setCells w.heap.size (i * 6) vs) := fun W hWc hWf ty dc =>
    run_copy_cellsN W _ _ ty 29 6 w.heap.size (i * 6) (n + m - i) dc ⟨vb, voff, none⟩ m vc vs Tryd.underlying26 hsz (by rw [hvl]; simp only [Nat.min_def]; split <;> omega)
      (fun j v hj => by rw [Addr.add_lit, hWc]; exact hOv _ v (hvs j v hj))
      (fun j hj => by rw [hWc]; exact hN _ (by omega)) (fun j hj => by rw [hWf]; exact hNf _) h1v
  have hGn : n + m ≤ G := by rw [hG]; exact grownCap_ge w _ _ _
  have hG63 : G ≤ 9223372036854775807 := by
    have := grownCap_le_maxLen w (n + m) c 29 (by unfold maxLen; omega)
    rw [← hG] at this
    unfold maxLen at this
    omega
  have hGi : ¬ (G = i) := by omega
  have hGim : ¬ (G = i + m) := by omega
  have hci : ¬ (c = i) := by omega
  have hbN : b ≠ w.heap.size := by omega
  have hdl : (cs.drop (i * 6)).length = (n - i) * 6 := by have := List.length_drop (i := i * 6) (l := cs); omega
  have hcpB : ∀ (W : World), (∀ x, W.cell? x = (W1.setCells w.heap.size (i * 6) vs).cell? x) → (∀ x, W.frozen? x = (W1.setCells w.heap.size (i * 6) vs).frozen? x) → ∀ ty dc sc, (Builtin.copy_ #[26, 26] ty #[.slice (some ⟨w.heap.size, (i + m) * 6, none⟩) (n + m - (i + m)) dc, .slice (some ⟨b, off + i * 6, none⟩) (n - i) sc]).run Tryd.prog W = .ok (goInt (Nat.min (n - i) (n + m - (i + m)))) (W.setCells w.heap.size ((i + m) * 6) (cs.drop (i * 6))) := fun W hWc hWf ty dc sc =>
    run_copy_cellsN W _ _ ty 29 6 w.heap.size ((i + m) * 6) (n + m - (i + m)) dc ⟨b, off + i * 6, none⟩ (n - i) sc (cs.drop (i * 6)) Tryd.underlying26 hsz (by rw [hdl]; simp only [Nat.min_def]; split <;> omega)
      (fun j v hj => by
        rw [Addr.add_lit, hWc, World.cell?_setCells_out _ _ _ _ _ (fun h _ => absurd h hbN), Nat.add_assoc]
        exact hOb _ v (hcs (i * 6 + j) v (by rwa [List.getElem?_drop] at hj)))
      (fun j hj => by rw [hWc]; exact isSome_setCells _ _ _ _ (fun t ht => hN _ (by omega)) _ (hN _ (by omega)))
      (fun j hj => by rw [hWf, World.frozen?_setCells]; exact hNf _) (fun v hv => h1c v (List.mem_of_mem_drop hv))
  subst hW1
  have hE1 : ∀ x, ((w.alloc (.cells ROW 29)).drew).cell? x = (w.drew.alloc (.cells ROW 29)).cell? x := fun x => rfl
  have hE2 : ∀ x, ((w.alloc (.cells ROW 29)).drew).frozen? x = (w.drew.alloc (.cells ROW 29)).frozen? x := fun x => rfl
  have hF1 : ∀ x, (((w.alloc (.cells ROW 29)).drew.setCells w.heap.size (i * 6) vs).drew).cell? x = ((w.drew.alloc (.cells ROW 29)).setCells w.heap.size (i * 6) vs).cell? x := fun x => rfl
  have hF2 : ∀ x, (((w.alloc (.cells ROW 29)).drew.setCells w.heap.size (i * 6) vs).drew).frozen? x = ((w.drew.alloc (.cells ROW 29)).setCells w.heap.size (i * 6) vs).frozen? x := fun x => rfl
  have hw1 : IntKind.i64.wrap ((i : Int) + (m : Int)) = (i : Int) + (m : Int) := by rw [IntKind.wrap_i64]; omega
  have hb1 : (0 : Int) ≤ (i : Int) + (m : Int) := by omega
  have hin : i ≤ n := by omega
  have htn : ((i : Int) + (m : Int)).toNat = i + m := by omega
  have hb3 : (i : Int) ≤ (n : Int) := by omega
  clear hkk hik hold hROW hG hRl
  go_enter Tryd.func34, Tryd.ntmps34
  go_wp2_with (first
    | (at_builtin; refine Lib.wpList_append_run _ rfl _ _ _ _ rfl _ _ rfl rfl _ _ (hrz _) ?_)
    | (at_builtin; refine wpList_copy_runI _ rfl _ _ 26 26 rfl _ _ rfl rfl (hcpA _ hE1 hE2 _ _) ?_)
    | (at_builtin; refine wpList_copy_runI _ rfl _ _ 26 26 rfl _ _ rfl rfl (hcpB _ (fun _ => rfl) (fun _ => rfl) _ _ _) ?_))
  go_region_law_o (refine step_copy_runI rfl _ _ 26 26 rfl (.slice (some ⟨w.heap.size, (i + m) * 6, none⟩) (n + m - (i + m)) (G - (i + m))) (.slice (some ⟨b, off + i * 6, none⟩) (n - i) (c - i)) (by simp [Act.eval, Act.put]) (by simp [Act.eval, Act.put]) (hcpB _ hF1 hF2 3 (G - (i + m)) (c - i)) ?_)
  go_wp2
  go_ret
  exact ⟨rfl, rfl⟩
end Go.Proofs.YtmfaejdnaippkaaDoor

end
