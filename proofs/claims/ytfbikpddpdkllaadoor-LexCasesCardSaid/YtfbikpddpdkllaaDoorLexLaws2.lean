/-
  Plain law: what is read in front is the same with a blank and any bytes behind it; the pure statement of LexParts. No conditions.
-/
import Derived.Test.YtfbikpddpdkllaaDoorLexLaws1
import Derived.Test.YtfbikpddpdkllaaDoorLxF4
namespace Go.Proofs.YtfbikpddpdkllaaDoor
open Go.RowKit Go.Proofs.YtfbikpddpdkllaaDoor.Lx Go.Proofs.YtfbikpddpdkllaaDoorW.PrintWords
set_option linter.unusedVariables false
set_option linter.unusedSimpArgs false

theorem runLen_stop (p : UInt8 → Bool) (d : UInt8) (t : List UInt8) (hd : p d = false) : ∀ l : List UInt8, runLen p (l ++ d :: t) = runLen p l
  | [] => by rw [List.nil_append, runLen_cons, if_neg (by simp [hd])]; rfl
  | c :: r => by
    rw [List.cons_append, runLen_cons, runLen_cons, runLen_stop p d t hd r]
theorem take_stop {l : List UInt8} (n : Nat) (t : List UInt8) (h : n ≤ l.length) : (l ++ t).take n = l.take n := by
  rw [List.take_append_of_le_length h]
theorem textL_ext (d : UInt8) (t : List UInt8) (hd : d ≠ 39) : ∀ (r : List UInt8) (x : List UInt8 × Nat), textL r = some x → textL (r ++ d :: t) = some x
  | [], x, h => by simp [textL] at h
  | [c], x, h => by
    by_cases hc : c = 39
    · subst hc
      rw [textL_q1] at h
      rw [List.cons_append, List.nil_append, textL_qn hd]
      exact h
    · simp [textL, hc] at h
  | c :: e :: r, x, h => by
    by_cases hc : c = 39
    · subst hc
      by_cases he : e = 39
      · subst he
        rw [textL_qq] at h
        obtain ⟨y, hy, rfl⟩ := Option.map_eq_some_iff.1 h
        rw [List.cons_append, List.cons_append, textL_qq, textL_ext d t hd r y hy]
        rfl
      · rw [textL_qn he] at h
        rw [List.cons_append, List.cons_append, textL_qn he]
        exact h
    · rw [textL_c hc] at h
      obtain ⟨y, hy, rfl⟩ := Option.map_eq_some_iff.1 h
      rw [List.cons_append, textL_c hc, textL_ext d t hd (e :: r) y hy]
      rfl
theorem blank_vals {d : UInt8} (h : isBl d = true) : d = 32 ∨ d = 9 ∨ d = 10 ∨ d = 13 := by
  have e : ∀ (m : UInt8), d.toNat = m.toNat → d = m := fun m h => UInt8.toNat_inj.1 h
  rcases blank_cases.1 h with h | h | h | h
  · exact .inl (e 32 h)
  · exact .inr (.inl (e 9 h))
  · exact .inr (.inr (.inl (e 10 h)))
  · exact .inr (.inr (.inr (e 13 h)))
theorem blank_not {d : UInt8} (h : isBl d = true) : isWd d = false ∧ isDig d = false ∧ d ≠ 39 ∧ ∀ c, two c d = false := by
  have h1 := bl_let h
  refine ⟨by unfold isWd; rw [h1.1, h1.2]; rfl, h1.2, ?_, ?_⟩
  · rintro rfl; exact absurd h (by decide)
  · intro c
    rcases blank_vals h with rfl | rfl | rfl | rfl <;> simp [two]
theorem signL_ext (c d : UInt8) (t : List UInt8) (hd : isBl d = true) (r : List UInt8) : signL (c :: (r ++ d :: t)) = signL (c :: r) := by
  cases r with
  | nil =>
    rw [List.nil_append, signL, signL, (blank_not hd).2.2.2 c, if_neg (by decide)]
  | cons e r => rw [List.cons_append, signL, signL]
/-- what is read in front is the same with a blank and any bytes behind it -/
theorem nextL_ext {c : UInt8} {r : List UInt8} (d : UInt8) (t : List UInt8) (hd : isBl d = true) (h : (nextL (c :: r)).2.2 = 0) : nextL (c :: (r ++ d :: t)) = nextL (c :: r) := by
  obtain ⟨b1, b2, b3, b4⟩ := blank_not hd
  cases h1 : isLet c with
  | true =>
    rw [nextL_word h1, nextL_word h1, ← List.cons_append, runLen_stop isWd d t b1, take_stop _ _ (runLen_le _ _)]
  | false =>
    cases h2 : isDig c with
    | true =>
      rw [nextL_num h1 h2, nextL_num h1 h2, ← List.cons_append, runLen_stop isDig d t b2, take_stop _ _ (runLen_le _ _)]
    | false =>
      by_cases h3 : c = 39
      · subst h3
        cases ht : textL r with
        | none => rw [nextL_none ht] at h; exact absurd h (by decide)
        | some x => rw [nextL_text ht, nextL_text (textL_ext d t b3 r x ht)]
      · have hs := signL_ext c d t hd r
        by_cases h4 : signL (c :: r) = 0
        · rw [nextL_bad h1 h2 h3 h4] at h; exact absurd h (by decide)
        · rw [nextL_sign h1 h2 h3 h4, nextL_sign h1 h2 h3 (by rw [hs]; exact h4), hs, ← List.cons_append, take_stop _ _ (signL_le _)]
theorem toks_ext (d : UInt8) (t : List UInt8) (hd : isBl d = true) : ∀ (n : Nat) (l : List UInt8), l.length ≤ n → (toks l).2 = 0 → toks (l ++ d :: t) = if (toks t).2 = 0 then ((toks l).1 ++ (toks t).1, 0) else ([], (toks t).2)
  | n, [], _, _ => by
    rw [List.nil_append, toks_blank hd, toks_nil]
    by_cases h : (toks t).2 = 0
    · rw [if_pos h, List.nil_append, ← h]
    · rw [if_neg h, ← toks_none h]
  | n, c :: r, hn, h0 => by
    obtain ⟨m, rfl⟩ : ∃ m, n = m + 1 := ⟨n - 1, by simp at hn; omega⟩
    rw [List.length_cons] at hn
    rw [List.cons_append]
    cases hb : isBl c with
    | true =>
      rw [toks_blank hb] at h0 ⊢
      rw [toks_ext d t hd m r (by omega) h0, toks_blank hb]
    | false =>
      have hb' : ¬ isBl c = true := by rw [hb]; decide
      by_cases he : (nextL (c :: r)).2.2 = 0
      · have hx := nextL_ext d t hd he
        have hl := nextL_len he
        rw [toks_next hb' he] at h0
        by_cases h5 : (toks ((c :: r).drop (nextL (c :: r)).2.1)).2 = 0
        · have ih := toks_ext d t hd m ((c :: r).drop (nextL (c :: r)).2.1) (by rw [List.length_drop, List.length_cons]; omega) h5
          rw [toks_next hb' (by rw [hx]; exact he), hx, ← List.cons_append, List.drop_append_of_le_length hl.2, ih, toks_next hb' he, if_pos h5]
          by_cases h6 : (toks t).2 = 0
          · rw [if_pos h6, if_pos rfl, if_pos h6]; rfl
          · rw [if_neg h6, if_neg h6, if_neg h6]
        · rw [if_neg h5] at h0
          exact absurd h0 h5
      · rw [toks_err hb' he] at h0
        exact absurd h0 he
theorem splitV_le {s : ByteArray} (h : s.size ≤ 2000) : splitV s = toks s.data.toList := by unfold splitV; rw [if_neg (by omega)]
theorem cut_size (s : ByteArray) (m : Nat) : (s.extract 0 (mn (s.size : Int) (m : Int)).toNat).size ≤ m := by
  rw [ByteArray.size_extract]
  unfold mn
  omega
theorem lexParts_ev (a b : ByteArray) : Ev (fun k => lapidarylaw14_LexParts.f k a b) true := by
  unfold lapidarylaw14_LexParts.f
  refine Ev.bind awake_f ?_
  have ha := cut_ok a 500
  have hb := cut_ok b 500
  have sa := cut_size a 500
  have sb := cut_size b 500
  obtain ⟨a', ea⟩ : ∃ a', a' = a.extract 0 (mn (a.size : Int) 500).toNat := ⟨_, rfl⟩
  obtain ⟨b', eb⟩ : ∃ b', b' = b.extract 0 (mn (b.size : Int) 500).toNat := ⟨_, rfl⟩
  have sa : a'.size ≤ 500 := by rw [ea]; exact sa
  have sb : b'.size ≤ 500 := by rw [eb]; exact sb
  have e1 : (a' ++ (⟨#[10]⟩ : ByteArray)).size = a'.size + 1 := by rw [ByteArray.size_append]; rfl
  have e2 : (a' ++ (⟨#[10]⟩ : ByteArray) ++ b').size = a'.size + 1 + b'.size := by rw [ByteArray.size_append, e1]
  have e3 : (a' ++ (⟨#[10]⟩ : ByteArray) ++ b').data.toList = a'.data.toList ++ 10 :: b'.data.toList := by simp
  refine Ev.congr (fun k => (if_pos rfl).trans ((if_pos ha.1).trans ((if_pos ha.2).trans ((if_pos hb.1).trans (if_pos hb.2))))) ?_
  rw [← ea, ← eb]
  refine Ev.bind (split_ev a') (Ev.bind (split_ev b') (Ev.congr (fun k => (if_pos (by omega)).trans (if_pos (by rw [e1]; omega))) (Ev.bind (split_ev _) ?_)))
  rw [splitV_le (s := a') (by omega), splitV_le (s := b') (by omega), splitV_le (s := a' ++ (⟨#[10]⟩ : ByteArray) ++ b') (by omega), e3]
  have done : ∀ x5 x7 x9 x10, Ev (fun k => lapidarylaw14_LexParts.j0 k x5 x7 x9 x10 true) true := fun _ _ _ _ => Ev.step (f := fun _ => some true) (fun k => by rw [lapidarylaw14_LexParts.j0, if_pos rfl]) (Ev.now _)
  by_cases h1 : (toks a'.data.toList).2 = 0
  · refine Ev.congr (fun k => if_pos h1) ?_
    by_cases h2 : (toks b'.data.toList).2 = 0
    · have hx := toks_ext 10 b'.data.toList (by decide) _ a'.data.toList (Nat.le_refl _) h1
      rw [if_pos h2] at hx
      rw [hx, show ((toks b'.data.toList).2 != 0) = false by rw [h2]; rfl]
      have la := toks_len _ a'.data.toList (Nat.le_refl _)
      have lb := toks_len _ b'.data.toList (Nat.le_refl _)
      have la2 : a'.data.toList.length = a'.size := by simp
      have lb2 : b'.data.toList.length = b'.size := by simp
      have hlen : ((toks a'.data.toList).1 ++ (toks b'.data.toList).1).length ≤ 100000 := by rw [List.length_append]; omega
      have hE2 : Ev (fun k => (lapidarylaw14_back.f k (((toks a'.data.toList).1 ++ (toks b'.data.toList).1).map c36)).bind fun t => if ((toks a'.data.toList).1.map c36).length + ((toks b'.data.toList).1.map c36).length < 4398046511104 then (lapidarylaw14_back.f k ((toks a'.data.toList).1.map c36 ++ (toks b'.data.toList).1.map c36)).bind fun u => (lapidaryref14_Same.f k t u).bind fun v => some v else none) true := by
        refine Ev.bind (back_f _ hlen) (Ev.congr (fun k => if_pos (by rw [List.length_map, List.length_map]; omega)) ?_)
        rw [← List.map_append]
        exact Ev.bind (back_f _ hlen) (Ev.bind (same_f _ hlen) (Ev.now _))
      refine Ev.step (fun k => ?_) hE2
      rw [lapidarylaw14_LexParts.j0, if_neg (by decide), if_pos rfl]
    · rw [show ((toks b'.data.toList).2 != 0) = true by simpa using h2]
      exact done _ _ _ _
  · exact Ev.congr (fun k => if_neg h1) (done _ _ _ _)
theorem lexParts_walk (a b : ByteArray) (w : World) (hE : UEnv w) : Calls Tryd.prog 4 #[.string a, .string b] w fun e w' => e = .returned (.bool true) ∧ Below w.heap.size w w' := by
  obtain ⟨k, h⟩ := (lexParts_ev a b).rounds
  exact lapidarylaw14_LexParts.calls k a b true w hE h
end Go.Proofs.YtfbikpddpdkllaaDoor
