/-
  Contracts of the library's functions on numbers' texts, out of the kit's shelf.
-/
import Derived.Test.YtegehnojbfedlaaDoorSH
import Derived.Test.YtegehnojbfedlaaDoorNUM
import Derived.Lib.AppendIntMem
import Derived.Lib.AtoiErrMem
open Go Go.Proofs Go.Pw Go.RowKit
namespace Go.Proofs.YtegehnojbfedlaaDoor
set_option maxRecDepth 4000
set_option linter.unusedVariables false
set_option linter.unusedSimpArgs false
theorem stable_below {S : Cells} {w w' : World} (hS : Stable S w) (hb : Below w.heap.size w w') : Stable S w' := fun b o u hu => by
  have h1 := hS b o u hu
  have hlt : b < w.heap.size := by
    rcases Nat.lt_or_ge b w.heap.size with h' | h'
    · exact h'
    · simp [World.cell?, Array.getElem?_eq_none h'] at h1
  rw [World.cell?_of_block (hb.block b hlt)]
  exact h1
/-- A function that is handed plain values, and hands back what reads so wherever it stands. -/
theorem Ok.of_plain {P : Program} {f : FuncId} {l : List Value} {r : PV} (hent : enters P f = true) (h : ∀ w, Known w → Calls P f l.toArray w fun e w' => ∃ v, e = .returned v ∧ (∀ S, RepA S v r) ∧ Below w.heap.size w w') : Ok P f (l.map .val) r := by
  refine ⟨hent, fun S w vals hk hS hn hr => ?_⟩
  have e : vals = l.toArray := by
    apply Array.ext (by simpa using hn)
    intro i h1 h2
    have hl : i < l.length := by simpa using h2
    have := (rep_val (hr i vals[i] (.val l[i]) (Array.getElem?_eq_getElem h1) (by simp [hl]))).1
    simpa using this
  subst e
  refine (h w hk).mono ?_
  rintro e w' ⟨v, rfl, hv, hb⟩
  exact ⟨v, S, rfl, SLe.refl _, stable_below hS hb, fun b o u hu => .inl hu, hv S, hb⟩
theorem rep_pair {C : Cx} {T : List (Nat × Tok)} {U V : Nat → Prop} {a b : Value} {p q : PV} (h1 : RepV C T U V a p) (h2 : RepV C T U V b q) : RepV C T U V (.tuple #[a, b]) (.tup [p, q]) :=
  .tup rfl (fun i v x hv hx => by
    match i with
    | 0 => simp at hv hx; subst hv hx; exact h1
    | 1 => simp at hv hx; subst hv hx; exact h2
    | i + 2 => simp at hv)
theorem rep_ptr0 {C : Cx} {T : List (Nat × Tok)} {U V : Nat → Prop} (N : Nat) : RepV C T U V (.pointer (some ⟨N, 0, none⟩)) (.fp []) := .fp (fun i p h => by simp at h)
theorem formatInt_ok (n : Int) (h : fits n) : Ok Tryd.prog 54 [vI n, vI 10] (vS ⟨(Lib.itoa n).toArray⟩) :=
  Ok.of_plain (l := [.int .i64 n, .int .i64 10]) (by kernel_rfl) fun w hk => (Tryd.strconv_FormatInt_10 n h.1 h.2 w (hasW_tab (by kernel_rfl) hk.2)).mono (by
    rintro e w' ⟨rfl, k, os, rfl⟩
    exact ⟨_, rfl, fun S => .frz (.val rfl), Lib.below_grow _ _ (Nat.le_refl _) _ _⟩)
theorem parseInt_yes (s : ByteArray) (hs : s.size ≤ 1000000) (h : formP s) (hf : fits (zOf s)) : Ok Tryd.prog 43 [vS s, vI 10, vI 64] (.tup [vI (zOf s), .val .nilIface]) :=
  Ok.of_plain (l := [.string s, .int .i64 10, .int .i64 64]) (by kernel_rfl) fun w hk => (Tryd.strconv_ParseInt_10_at64_ok s (by omega) (zOf s) (by rw [parse_law h, if_pos hf]) w).mono (by
    rintro e w' ⟨rfl, rfl | ⟨t, rfl⟩⟩
    · exact ⟨_, rfl, fun S => rep_pair (.frz (.val rfl)) (.frz (.val rfl)), Below.refl _ _⟩
    · exact ⟨_, rfl, fun S => rep_pair (.frz (.val rfl)) (.frz (.val rfl)), Lib.bytesWorld_below _ _ _⟩)
theorem parseInt_no (s : ByteArray) (hs : s.size ≤ 1000000) (h : formP s) (hf : ¬ fits (zOf s)) : Ok Tryd.prog 43 [vS s, vI 10, vI 64] (.tup [vI (Lib.intSat 64 s.data.toList), .iface 118 (.fp [])]) :=
  Ok.of_plain (l := [.string s, .int .i64 10, .int .i64 64]) (by kernel_rfl) fun w hk => by
    obtain ⟨te, pe, hc⟩ := hasW_ErrRange hk.2
    refine (Tryd.strconv_ParseInt_10_at64_range s (by omega) (by rw [parse_law h, if_neg hf]) _ w hc (.inr ⟨te, pe, rfl⟩)).mono ?_
    rintro e w' ⟨N, rfl, _, _, hb⟩
    exact ⟨_, rfl, fun S => rep_pair (.frz (.val rfl)) (.iface (rep_ptr0 N)), hb⟩
theorem trimP_ok (s p : ByteArray) : Ok Tryd.prog 63 [vS s, vS p] (vS ⟨(Lib.trimPrefix s.data.toList p.data.toList).toArray⟩) :=
  Ok.of_plain (l := [.string s, .string p]) (by kernel_rfl) fun w hk => (Tryd.strings_TrimPrefix s p w).mono (by
    rintro e w' ⟨rfl, rfl⟩
    exact ⟨_, rfl, fun S => .frz (.val rfl), Below.refl _ _⟩)
theorem trim_dig (s : ByteArray) : (⟨(Lib.trimPrefix s.data.toList [45]).toArray⟩ : ByteArray) = digS s := by
  apply ByteArray.ext
  apply Array.ext'
  rw [digS_list]
  unfold Lib.trimPrefix Lib.hasPrefix
  cases e : s.data.toList with
  | nil =>
    have : ¬ bt s 0 = 45 := by unfold bt; rw [e]; decide
    rw [if_neg this]; rfl
  | cons c r =>
    have hb : bt s 0 = (c.toNat : Int) := bt_list (s := s) (i := 0) (by rw [e]; rfl)
    have e45 : (bt s 0 = 45) = (c = 45) := by
      rw [hb]
      refine propext ⟨fun h => UInt8.toNat_inj.1 (by have : c.toNat = 45 := by omega
                                                     rw [this]; rfl), fun h => by subst h; rfl⟩
    by_cases h : c = 45
    · have h1 : (List.isPrefixOf [45] (c :: r)) = true := by subst h; simp
      have h2 : bt s 0 = 45 := by rw [e45]; exact h
      rw [if_pos h1, if_pos h2]
      rfl
    · have h1 : ¬ (List.isPrefixOf [45] (c :: r)) = true := by
        simp [List.isPrefixOf]
        exact fun k => h k.symm
      have h2 : ¬ bt s 0 = 45 := by rw [e45]; exact h
      rw [if_neg h1, if_neg h2]
end Go.Proofs.YtegehnojbfedlaaDoor
