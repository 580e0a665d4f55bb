/-
  Plain law: the statement of LexJoins in its printed form. No conditions.
-/
import Derived.Test.YtfbikpddpdkllaaDoorLexLaws4
import Derived.Test.YtfbikpddpdkllaaDoorLxF5
namespace Go.Proofs.YtfbikpddpdkllaaDoor
open Go.RowKit Go.Proofs.YtfbikpddpdkllaaDoor.Lx Go.Proofs.YtfbikpddpdkllaaDoorW.PrintWords
set_option linter.unusedVariables false
set_option linter.unusedSimpArgs false

def strs (l : List Tok) : List ByteArray := l.map fun t => ⟨(txt t).toArray⟩
theorem joined_strs (l : List Tok) : joined (strs l) ⟨#[32]⟩ = joinL l := by
  unfold joined strs
  rw [List.map_map]
  have h : ((fun x : ByteArray => x.data.toList) ∘ fun t : Tok => (⟨(txt t).toArray⟩ : ByteArray)) = txt := rfl
  rw [h]
  cases l with
  | nil => rfl
  | cons t q =>
    show Lib.join (txt t :: q.map txt) [32] = txt t ++ tailJ q
    rw [Lib.join_cons]
    unfold Lib.joinTail tailJ
    rw [List.map_map]
    rfl
theorem joinL_len (l : List Tok) (hf : Fine l) : (joinL l).length ≤ 2001 * l.length := by
  cases l with
  | nil => simp [joinL]
  | cons t q =>
    have h1 := hf t (by simp)
    have h2 := txt_size h1.1 h1.2
    have h3 := tailJ_len q hf.tail
    unfold joinL
    simp
    omega
theorem cdec_2 (t : Tok) (h : Good t) (hk : t.k = 2) : calc_Dec.f t.n = some ⟨(txt t).toArray⟩ := by
  have hn := h.n hk
  unfold calc_Dec.f txt decS
  rw [if_pos ⟨by omega, by omega⟩, if_pos hk]
theorem clit_2 (t : Tok) (h : Good t) (hk : t.k = 3) : cell_Literal.f 2 0 ⟨t.s.toArray⟩ false = some ⟨(txt t).toArray⟩ := by
  unfold cell_Literal.f Lx.quoted txt
  rw [if_pos ⟨rfl, by rw [mk_size]; have := h.s hk; omega⟩, if_neg (by rw [hk]; decide), if_pos hk]
theorem ljoin_l0 (l : List Tok) (hf : Fine l) (hl : l.length ≤ 2000) : ∀ (n i : Nat), l.length ≤ i + n → i ≤ l.length →
    Ev (fun k => lex_Join.l0 k (strs (l.take i)) (l.map c36) ((l.map c36).length : Int) (i : Int)) ⟨(joinL l).toArray⟩
  | n, i, hn, hi => by
    have hlm : (l.map c36).length = l.length := by simp
    by_cases hlt : i < l.length
    · obtain ⟨m, rfl⟩ : ∃ m, n = m + 1 := ⟨n - 1, by omega⟩
      have ht : l[i]? = some l[i] := List.getElem?_eq_getElem hlt
      have hg := hf l[i] (List.getElem_mem hlt)
      have ih := ljoin_l0 l hf hl m (i + 1) (by omega) (by omega)
      have hs : strs (l.take (i + 1)) = strs (l.take i) ++ [⟨(txt l[i]).toArray⟩] := by unfold strs; rw [List.take_succ_eq_append_getElem hlt, List.map_append]; rfl
      rw [hs] at ih
      have hlen : (strs (l.take i)).length < 8796093022208 := by unfold strs; rw [List.length_map, List.length_take]; omega
      have hw : wrap64 ((i : Int) + 1) = ((i + 1 : Nat) : Int) := by rw [w64' (by omega) (by omega)]; simp
      refine Ev.step (fun k => ?_) ih
      rw [lex_Join.l0, if_pos (by clear hw; omega), if_pos (by clear hw; omega), if_pos (by clear hw; omega), rd36 l i _ ht, hw]
      show (if (l[i]).k = 2 then _ else _) = _
      by_cases h2 : (l[i]).k = 2
      · rw [if_pos h2]
        show ((calc_Dec.f (l[i]).n).bind fun t => _) = _
        rw [cdec_2 l[i] hg.1 h2]
        simp only [Option.bind_some]
        rw [if_pos hlen]
      · rw [if_neg h2]
        show (if (l[i]).k = 3 then _ else _) = _
        by_cases h3 : (l[i]).k = 3
        · rw [if_pos h3]
          show ((cell_Literal.f 2 0 ⟨(l[i]).s.toArray⟩ false).bind fun t => _) = _
          rw [clit_2 l[i] hg.1 h3]
          simp only [Option.bind_some]
          rw [if_pos hlen]
        · rw [if_neg h3, if_pos hlen]
          show lex_Join.l0 k (strs (l.take i) ++ [⟨(l[i]).s.toArray⟩]) _ _ _ = _
          rw [txt_len hg.1 h2 h3]
    · rw [List.take_of_length_le (by omega)]
      have hj : strings_Join.f (strs l) ⟨#[32]⟩ = some ⟨(joinL l).toArray⟩ := by
        unfold strings_Join.f
        rw [joined_strs, if_pos]
        refine ⟨by unfold strs; rw [List.length_map]; omega, ?_⟩
        have := joinL_len l hf
        omega
      refine Ev.step (f := fun _ => some (⟨(joinL l).toArray⟩ : ByteArray)) (fun k => ?_) (Ev.now _)
      rw [lex_Join.l0, if_neg (by omega), hj]
      rfl
theorem ljoin_f (l : List Tok) (hf : Fine l) (hl : l.length ≤ 2000) : Ev (fun k => lex_Join.f k (l.map c36)) ⟨(joinL l).toArray⟩ := ljoin_l0 l hf hl l.length 0 (by omega) (by omega)
theorem joins_j1 (l : List Tok) (hf : Fine l) (hl : l.length ≤ 2000) : Ev (fun k => lapidarylaw14_LexJoins.j1 k (l.map c35) ⟨(joinL l).toArray⟩ (decide (((⟨(joinL l).toArray⟩ : ByteArray).size : Int) > 2000))) true := by
  by_cases hb : 2000 < (joinL l).length
  · have hE : Ev (fun k => (lapidaryref14_Join.f k (l.map c35)).bind fun t => some ((⟨(joinL l).toArray⟩ : ByteArray).toList == t.toList)) true :=
      Ev.bind (rjoin_f l hf hl) (Ev.congr (fun k => by simp) (Ev.now true))
    refine Ev.step (fun k => ?_) hE
    rw [lapidarylaw14_LexJoins.j1, if_pos (decide_eq_true (by rw [mk_size]; omega))]
  · have hv : splitV ⟨(joinL l).toArray⟩ = (l, 0) := by
      rw [splitV_le (by rw [mk_size]; omega)]
      exact toks_joinL fun t ht => (hf t ht).1
    have hsp := split_ev ⟨(joinL l).toArray⟩
    rw [hv] at hsp
    have hE : Ev (fun k => (lex_Split.f k ⟨(joinL l).toArray⟩).bind fun b => if b.2 = 0 then ((lapidarylaw14_back.f k b.1).bind fun t => (lapidaryref14_Same.f k t (l.map c35)).bind fun u => some u) else some false) true :=
      Ev.bind hsp (Ev.congr (fun k => if_pos rfl) (Ev.bind (back_f l (by omega)) (Ev.bind (same_f l (by omega)) (Ev.now _))))
    refine Ev.step (fun k => ?_) hE
    rw [lapidarylaw14_LexJoins.j1, if_neg (by rw [decide_eq_false (by rw [mk_size]; omega)]; decide)]
theorem joins_l0 (l : List Tok) (hf : Fine l) (hl : l.length ≤ 2000) : ∀ (n i : Nat), l.length ≤ i + n → i ≤ l.length →
    Ev (fun k => lapidarylaw14_LexJoins.l0 k (l.map c35) ((l.take i).map c36) (l.map c35) ((l.map c35).length : Int) (i : Int)) true
  | n, i, hn, hi => by
    have hlm : (l.map c35).length = l.length := by simp
    by_cases hlt : i < l.length
    · obtain ⟨m, rfl⟩ : ∃ m, n = m + 1 := ⟨n - 1, by omega⟩
      have ht : l[i]? = some l[i] := List.getElem?_eq_getElem hlt
      have ih := joins_l0 l hf hl m (i + 1) (by omega) (by omega)
      refine Ev.step (fun k => ?_) ih
      rw [lapidarylaw14_LexJoins.l0, if_pos (by omega), if_pos (by omega), if_pos (by omega), if_pos (by rw [List.length_map, List.length_take]; omega), rd35 l i _ ht, w64' (by omega) (by omega), List.take_succ_eq_append_getElem hlt, List.map_append]
      rfl
    · rw [List.take_of_length_le (by omega)]
      have hE : Ev (fun k => (lex_Join.f k (l.map c36)).bind fun a => (lapidaryref14_Join.f k (l.map c35)).bind fun b => if a.toList = b.toList then lapidarylaw14_LexJoins.j1 k (l.map c35) a (decide ((a.size : Int) > 2000)) else lapidarylaw14_LexJoins.j1 k (l.map c35) a true) true :=
        Ev.bind (ljoin_f l hf hl) (Ev.bind (rjoin_f l hf hl) (Ev.congr (fun k => if_pos rfl) (joins_j1 l hf hl)))
      refine Ev.step (fun k => ?_) hE
      rw [lapidarylaw14_LexJoins.l0, if_neg (by omega)]
theorem lexJoins_ev (s : ByteArray) : Ev (fun k => lapidarylaw14_LexJoins.f k s) true := by
  unfold lapidarylaw14_LexJoins.f
  have hc := cut_ok s 600
  have hs := cut_size s 600
  refine Ev.bind awake_f (Ev.congr (fun k => (if_pos rfl).trans ((if_pos hc.1).trans (if_pos hc.2))) ?_)
  obtain ⟨t, et⟩ : ∃ t, t = s.extract 0 (mn (s.size : Int) 600).toNat := ⟨_, rfl⟩
  have hs : t.size ≤ 600 := by rw [et]; exact hs
  rw [← et]
  refine Ev.bind (rsplit_ev t) ?_
  rw [splitV_le (by omega)]
  have hl := toks_len _ t.data.toList (Nat.le_refl _)
  have hl2 : t.data.toList.length = t.size := by simp
  by_cases h0 : (toks t.data.toList).2 = 0
  · refine Ev.congr (fun k => if_pos h0) ?_
    exact joins_l0 (toks t.data.toList).1 (fine_toks _ (by omega)) (by omega) (toks t.data.toList).1.length 0 (by omega) (by omega)
  · exact Ev.congr (fun k => if_neg h0) (Ev.now _)
theorem lexJoins_walk (s : ByteArray) (w : World) (hE : Env w) : Calls Tryd.prog 5 #[.string s] w fun e w' => e = .returned (.bool true) ∧ Below w.heap.size w w' := by
  obtain ⟨k, h⟩ := (lexJoins_ev s).rounds
  exact lapidarylaw14_LexJoins.calls k s true w hE h
end Go.Proofs.YtfbikpddpdkllaaDoor
