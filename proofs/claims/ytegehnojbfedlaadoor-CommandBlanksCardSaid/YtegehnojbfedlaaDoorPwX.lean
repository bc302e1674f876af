/-
  How lists of numbers and of texts read, and rules for rows that may still be nil.
-/
import Derived.Test.YtegehnojbfedlaaDoorPwN
namespace Go.Pw
open Go Go.RowKit
set_option linter.unusedVariables false
abbrev vI (n : Int) : PV := .val (.int .i64 n)
abbrev vU (n : Int) : PV := .val (.int .u64 n)
abbrev vC (n : Int) : PV := .val (.int .u8 n)
abbrev vB (b : Bool) : PV := .val (.bool b)
abbrev vS (s : ByteArray) : PV := .val (.string s)
abbrev vNil : PV := .val (.slice none 0 0)
def encI (l : List Int) : List (List PV) := l.map fun n => [.val (.int .i64 n)]
theorem encI_len (l : List Int) : (encI l).length = l.length := by simp [encI]
theorem encI_get (l : List Int) (i : Nat) : (encI l).getD i [] = if i < l.length then [vI (l.getD i 0)] else [] := by
  unfold encI
  by_cases h : i < l.length
  · simp [h, List.getD_eq_getElem?_getD]
  · rw [if_neg h, List.getD_eq_getElem?_getD, List.getElem?_eq_none (by simpa using h)]; rfl
theorem encI_take (l : List Int) (n : Nat) : (encI l).take n = encI (l.take n) := by simp [encI, List.map_take]
theorem encI_drop (l : List Int) (n : Nat) : (encI l).drop n = encI (l.drop n) := by simp [encI, List.map_drop]
theorem encI_app (l m : List Int) : encI l ++ encI m = encI (l ++ m) := by simp [encI]
theorem encI_snoc (l : List Int) (f : Int) : encI l ++ [[.val (.int .i64 f)]] = encI (l ++ [f]) := by simp [encI]
theorem encI_one (f : Int) : [[PV.val (.int .i64 f)]] = encI [f] := by simp [encI]
theorem encI_nil : encI [] = [] := rfl
theorem ix_enc {a : List Int} {i : Int} {K : PV → Prop} (h0 : 0 ≤ i) (h1 : i < (a.length : Int)) : ixP 1 i K (.sl (encI a)) = K (.fp [vI (a.getD i.toNat 0)]) := by
  have h : i.toNat < a.length := by omega
  simp only [ixP, encI_get, if_pos h, encI_len, List.length_singleton, h0, h1, true_and]
theorem ix_encr {a : List Int} {i : Int} {k : Nat} {K : PV → Prop} (h0 : 0 ≤ i) (h1 : i < (a.length : Int)) : ixP 1 i K (.row k (encI a)) = K (.fp [vI (a.getD i.toNat 0)]) := by
  have h : i.toNat < a.length := by omega
  simp only [ixP, encI_get, if_pos h, encI_len, List.length_singleton, h0, h1, true_and]
/-- A row of numbers, or nil. -/
def rowI (k : Nat) : List Int → PV
  | [] => vNil
  | x :: r => .row k (encI (x :: r))
def tokI (k : Nat) (e : TypeId) : List Int → List (Nat × Tok)
  | [] => []
  | x :: r => [(k, ⟨e, 1, (x :: r).length⟩)]
/-- Where the next one goes. -/
def nextK (k tk : Nat) : List Int → Nat
  | [] => tk
  | _ :: _ => k
theorem rowI_snoc (k : Nat) (l : List Int) (f : Int) : rowI k (l ++ [f]) = .row k (encI (l ++ [f])) := by cases l <;> rfl
theorem tokI_snoc (k : Nat) (e : TypeId) (l : List Int) (f : Int) : tokI k e (l ++ [f]) = [(k, ⟨e, 1, l.length + 1⟩)] := by cases l <;> simp [tokI]
theorem app_rowI {e : TypeId} {b tk k : Nat} {st : PS} {K : Delta → Prop} {l : List Int} {f : Int} (ht : st.toks = tokI k e l) (h1 : (l.length + 1) * b ≤ 140737488355328) (h2 : l.length + 1 ≤ 9223372036854775807) :
    appT e 1 b st tk K (rowI k l) [[.val (.int .i64 f)]] = K ⟨none, some (nextK k tk l, ⟨e, 1, l.length + 1⟩), some (.row (nextK k tk l) (encI (l ++ [f])))⟩ := by
  cases l with
  | nil =>
    refine propext ⟨fun h => h.2.2, fun h => ⟨by simpa using h1, by simp, h⟩⟩
  | cons x r =>
    have e1 : lkp st.toks k = some ⟨e, 1, (x :: r).length⟩ := by rw [ht]; simp [tokI, lkp]
    have e2 : (encI (x :: r)).length = (x :: r).length := encI_len _
    unfold rowI appT
    simp only
    rw [e1, b_some, encI_snoc, e2]
    refine propext ⟨fun h => h.2.2.2.2.2, fun h => ⟨rfl, rfl, rfl, h1, h2, h⟩⟩
theorem upd_tokI (k tk : Nat) (e : TypeId) (l : List Int) (t : Tok) : upd (tokI k e l) (nextK k tk l) t = [(nextK k tk l, t)] := by
  cases l <;> simp [tokI, nextK, upd]
theorem len_rowI (k : Nat) (l : List Int) (K : PV → Prop) : lenP K (rowI k l) = K (.val (.int .i64 l.length)) := by
  cases l with
  | nil => exact propext Iff.rfl
  | cons x r => simp only [rowI, lenP, encI_len]
theorem ix_rowI {a : List Int} {i : Int} {k : Nat} {K : PV → Prop} (h0 : 0 ≤ i) (h1 : i < (a.length : Int)) : ixP 1 i K (rowI k a) = K (.fp [vI (a.getD i.toNat 0)]) := by
  cases a with
  | nil => simp at h1; omega
  | cons x r => exact ix_encr h0 h1
theorem fz_rowI (k : Nat) (l : List Int) : fzA (rowI k l) = some (.sl (encI l)) := by
  cases l <;> rfl
theorem fz1_rowI (k : Nat) (l : List Int) : fz (rowI k l) = some (.sl (encI l)) := by
  cases l <;> rfl
/-- Bytes. -/
def encC (l : List Int) : List (List PV) := l.map fun n => [.val (.int .u8 n)]
theorem encC_len (l : List Int) : (encC l).length = l.length := by simp [encC]
theorem encC_snoc (l : List Int) (f : Int) : encC l ++ [[.val (.int .u8 f)]] = encC (l ++ [f]) := by simp [encC]
theorem encC_one (f : Int) : [[PV.val (.int .u8 f)]] = encC [f] := by simp [encC]
theorem encC_nums : ∀ l, numsOf (encC l) = some l
  | [] => rfl
  | n :: r => by
    have ih := encC_nums r
    unfold encC at ih ⊢
    rw [List.map_cons, numsOf, ih]
    rfl
def rowC (k : Nat) : List Int → PV
  | [] => vNil
  | x :: r => .row k (encC (x :: r))
def tokC (k : Nat) (e : TypeId) : List Int → List (Nat × Tok)
  | [] => []
  | x :: r => [(k, ⟨e, 1, (x :: r).length⟩)]
theorem rowC_lt (a k : Nat) (xs : List Int) : PV.lt a (k + 1) (rowC k xs) = true := by cases xs <;> simp [rowC, PV.lt]
theorem tokC_weak (k : Nat) (t : TypeId) (xs : List Int) : ∀ e ∈ tokC k t xs, lkp (tokC k t xs) e.1 = some e.2 ∧ e.1 < k + 1 := by
  cases xs with
  | nil => intro e he; cases he
  | cons x r =>
    intro e he
    simp only [tokC, List.mem_singleton] at he
    subst he
    exact ⟨by simp [tokC, lkp], by simp only; omega⟩
theorem conv_rowC {P : Program} {src dst : TypeId} {k : Nat} {xs : List Int} {K : PV → Prop} (hs : (P.underlying src).isSome = true) (hb : isBytes P src) (hd : P.underlying dst = some .string) : convK P src dst (rowC k xs) K = K (.val (.string (strOfNums xs))) := by
  unfold convK
  rw [hd]
  cases xs with
  | nil => exact propext ⟨fun h => h.2.2, fun h => ⟨hs, hb, h⟩⟩
  | cons x r =>
    simp only [rowC, encC_nums]
    exact propext ⟨fun h => h.2.2, fun h => ⟨hs, hb, h⟩⟩
theorem lkp_upd_self {α : Type} (l : List (Nat × α)) (i : Nat) (v : α) : lkp (upd l i v) i = some v := by rw [lkp_upd, if_pos rfl]
theorem str_eq (a b : ByteArray) : (a.data.toList = b.data.toList) = (a = b) := by
  refine propext ⟨fun h => ?_, fun h => by rw [h]⟩
  cases a; cases b
  simp at h
  rw [h]
/-! A text's bytes behind a row. -/
theorem encS_len (s : ByteArray) : (encS s).length = s.size := by simp [encS]
theorem encS_app (s t : ByteArray) : encS s ++ encS t = encS (s ++ t) := by simp [encS]
theorem app_sn {e : TypeId} {b tk : Nat} {st : PS} {K : Delta → Prop} {t : ByteArray} (h0 : t.size ≠ 0) (hl : t.size * b ≤ 140737488355328) (hm : t.size ≤ 9223372036854775807) :
    appS e b st tk K (.val (.slice none 0 0)) (.val (.string t)) = K ⟨none, some (tk, ⟨e, 1, t.size⟩), some (.row tk (encS t))⟩ := by
  have hn := encS_len t
  unfold appS
  simp only
  generalize encS t = l at *
  cases l with
  | nil => exact absurd hn.symm h0
  | cons y r =>
    unfold appT
    simp only
    rw [hn]
    exact propext ⟨fun h => h.2.2, fun h => ⟨hl, hm, h⟩⟩
theorem app_sr {e : TypeId} {b tk k : Nat} {st : PS} {K : Delta → Prop} {s t : ByteArray} (h0 : t.size ≠ 0) (hl : (s.size + t.size) * b ≤ 140737488355328) (hm : s.size + t.size ≤ 9223372036854775807) :
    appS e b st tk K (.row k (encS s)) (.val (.string t)) = bindO (lkp st.toks k) fun t' => t'.n = s.size ∧ t'.e = e ∧ t'.sz = 1 ∧ K ⟨none, some (k, ⟨e, 1, s.size + t.size⟩), some (.row k (encS (s ++ t)))⟩ := by
  have hn := encS_len t
  have ha := encS_app s t
  unfold appS
  simp only
  generalize encS t = l at *
  cases l with
  | nil => exact absurd hn.symm h0
  | cons y r =>
    unfold appT
    simp only [encS_len, ha]
    rw [hn]
    congr 1
    funext t'
    exact propext ⟨fun ⟨a, b, c, _, _, h⟩ => ⟨a, b, c, h⟩, fun ⟨a, b, c, h⟩ => ⟨a, b, c, hl, hm, h⟩⟩
theorem ev_iface (st : PS) : st.ev (.const .nilIface) = some (.val .nilIface) := rfl
/-! The rules by which a run is rewritten. -/
attribute [go_sem ↓] p_region_t p_region_o ds_plain ds_guard ds_nil p_seq p_cond p_block p_scope p_label p_exit p_ret p_skip p_region d_plain d_guard guardP_t guardP_f guardP_n ifK_true ifK_false d_nil s_move s_assign s_pick s_load s_build s_binOp s_unOp s_convert s_slice s_fieldAddr s_field s_indexAddr s_index s_extract s_makeFunc s_nilCheck s_len s_next nxtP s_max s_min s_append s_call s_invoke s_box s_store load_ load_ptr load_fp b_some i_int boolK_b lenP lenS ixP ixA ixS fldP slcP slcS bd_nn bd_sn bd_ns bd_ss appT and_dT app_sn app_sr fieldP_agg binK constO isNilK bopK unK convK max2K
attribute [go_sem] PV.rn PV.rnL PObj.rn rnH rnF dropH shK PV.sh PV.shL PObj.sh shH List.getElem?_nil inL
attribute [go_sem] outI enterPS enterEnv guardP_t guardP_f guardP_n ifK_true ifK_false boolK_b ifK_dT ifK_dF ifK_nT ifK_nF wrap64 rngP hold_eq evS_eq evN_eq evL_eq ev_tmp ev_int ev_bool ev_str ev_nil ev_iface ev_func lkp upd b_some i_int put_some kill_none kill_some List.getElem?_cons_zero List.getElem?_cons_succ Option.bind_some Option.map_some evAll evParts if_true if_false fillP tok_T tok_F toks_T toks_F ob_T ob_F obs_T obs_F srcXs fzLL valsOf Delta.apply mem_cons_ mem_nil_ Bool.or_false Bool.false_or Bool.or_self List.take_zero List.take_succ_cons List.drop_zero List.drop_succ_cons List.all_cons List.all_nil Bool.and_self Bool.and_true Bool.true_and or_true true_or PV.cells notTup Bool.false_eq_true Bool.not_true Bool.not_false false_implies forall_const true_and and_true Nat.zero_add List.cons_append List.nil_append List.append_nil List.length_cons List.length_nil outK resAll resOf fzAs fzA fzL fz packR Option.map eq_self decide_true decide_false ne_eq not_true_eq_false not_false_eq_true Option.isSome_some Int.toNat_natCast encC_len encC_nums encC_snoc str_eq
end Go.Pw
