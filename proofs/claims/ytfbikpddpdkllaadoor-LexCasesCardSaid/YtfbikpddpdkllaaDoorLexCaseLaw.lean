/-
  Plain law: two texts without quotes that are the same but for great and small letters have the same tokens, or the same error. No program in sight. No conditions.
-/
import Derived.Test.YtfbikpddpdkllaaDoorLexLaws3
namespace Go.Proofs.YtfbikpddpdkllaaDoor
open Go.RowKit
set_option linter.unusedVariables false
set_option linter.unusedSimpArgs false

theorem runLen_low (p : UInt8 → Bool) (hp : ∀ c, p (lowB c) = p c) : ∀ l : List UInt8, runLen p (l.map lowB) = runLen p l
  | [] => rfl
  | c :: r => by rw [List.map_cons, runLen_cons, runLen_cons, hp, runLen_low p hp r]
theorem low_not {a b : UInt8} (h : lowB a = lowB b) (ha : isLet a = false) : b = a := by
  have hb : isLet b = false := by rw [← low_let, ← h, low_let]; exact ha
  have na : lowB a = a := low_same a (by rintro ⟨x, y⟩; unfold isLet at ha; simp [x, y] at ha)
  have nb : lowB b = b := low_same b (by rintro ⟨x, y⟩; unfold isLet at hb; simp [x, y] at hb)
  rw [← na, ← nb, h]
theorem low_bl {a b : UInt8} (h : lowB a = lowB b) : isBl a = isBl b := by
  cases ha : isBl a with
  | true => rw [low_not h (bl_let ha).1, ha]
  | false =>
    cases hb : isBl b with
    | false => rfl
    | true => rw [← low_not h.symm (bl_let hb).1, ha] at hb; cases hb
theorem low_digits {l l' : List UInt8} (h : l.map lowB = l'.map lowB) (hd : ∀ c ∈ l, isLet c = false) : l' = l := by
  induction l generalizing l' with
  | nil =>
    cases l' with
    | nil => rfl
    | cons a q => simp at h
  | cons c r ih =>
    cases l' with
    | nil => simp at h
    | cons a q =>
      rw [List.map_cons, List.map_cons, List.cons.injEq] at h
      rw [low_not h.1 (hd c (by simp)), ih h.2 (fun x hx => hd x (by simp [hx]))]
theorem low_take {l l' : List UInt8} (n : Nat) (h : l.map lowB = l'.map lowB) : (l.take n).map lowB = (l'.take n).map lowB := by
  rw [List.map_take, List.map_take, h]
theorem low_drop {l l' : List UInt8} (n : Nat) (h : l.map lowB = l'.map lowB) : (l.drop n).map lowB = (l'.drop n).map lowB := by
  rw [List.map_drop, List.map_drop, h]
theorem two_not {c d : UInt8} (h : isLet d = true) : two c d = false := by
  unfold two
  have h1 : d ≠ 61 := by rintro rfl; exact absurd h (by decide)
  have h2 : d ≠ 62 := by rintro rfl; exact absurd h (by decide)
  simp [h1, h2]
theorem low_sign {c : UInt8} {r r' : List UInt8} (h : r.map lowB = r'.map lowB) : signL (c :: r) = signL (c :: r') ∧ (c :: r).take (signL (c :: r)) = (c :: r').take (signL (c :: r)) := by
  cases r with
  | nil =>
    cases r' with
    | nil => exact ⟨rfl, rfl⟩
    | cons a q => simp at h
  | cons d r =>
    cases r' with
    | nil => simp at h
    | cons e q =>
      rw [List.map_cons, List.map_cons, List.cons.injEq] at h
      cases hd : isLet d with
      | false =>
        have he := low_not h.1 hd
        subst he
        refine ⟨by rw [signL, signL], ?_⟩
        have hs : signL (c :: e :: r) ≤ 2 := by
          rw [signL]
          repeat' split
          all_goals omega
        rcases Nat.lt_or_ge (signL (c :: e :: r)) 2 with h2 | h2
        · have : signL (c :: e :: r) = 0 ∨ signL (c :: e :: r) = 1 := by omega
          rcases this with h3 | h3 <;> rw [h3] <;> rfl
        · have h3 : signL (c :: e :: r) = 2 := by omega
          rw [h3]
          rfl
      | true =>
        have he : isLet e = true := by rw [← low_let, ← h.1, low_let]; exact hd
        have t1 := two_not (c := c) hd
        have t2 := two_not (c := c) he
        refine ⟨by rw [signL, signL, t1, t2], ?_⟩
        rw [signL, t1, if_neg (by decide)]
        by_cases hc : signs.contains c = true
        · rw [if_pos hc]; rfl
        · rw [if_neg hc]; rfl
theorem next_low {c c' : UInt8} {r r' : List UInt8} (h : (c :: r).map lowB = (c' :: r').map lowB) (h39 : c ≠ 39) : nextL (c :: r) = nextL (c' :: r') := by
  have hc : lowB c = lowB c' := by
    rw [List.map_cons, List.map_cons, List.cons.injEq] at h; exact h.1
  have hr : r.map lowB = r'.map lowB := by
    rw [List.map_cons, List.map_cons, List.cons.injEq] at h; exact h.2
  have hw : runLen isWd (c :: r) = runLen isWd (c' :: r') := by rw [← runLen_low isWd low_wd, h, runLen_low isWd low_wd]
  have hd : runLen isDig (c :: r) = runLen isDig (c' :: r') := by rw [← runLen_low isDig low_dig, h, runLen_low isDig low_dig]
  cases h1 : isLet c with
  | true =>
    have h1' : isLet c' = true := by rw [← low_let, ← hc, low_let]; exact h1
    rw [nextL_word h1, nextL_word h1', hw, low_take _ h]
  | false =>
    obtain rfl := low_not hc h1
    cases h2 : isDig c' with
    | true =>
      rw [nextL_num h1 h2, nextL_num h1 h2, hd]
      have : (c' :: r').take (runLen isDig (c' :: r')) = (c' :: r).take (runLen isDig (c' :: r')) := by
        refine low_digits (low_take _ h) fun x hx => ?_
        rw [← hd, take_run] at hx
        exact dig_let (mem_run isDig _ x hx)
      rw [this]
    | false =>
      obtain ⟨e1, e2⟩ := low_sign (c := c') hr
      by_cases h4 : signL (c' :: r) = 0
      · rw [nextL_bad h1 h2 h39 h4, nextL_bad h1 h2 h39 (by rw [← e1]; exact h4)]
      · rw [nextL_sign h1 h2 h39 h4, nextL_sign h1 h2 h39 (by rw [← e1]; exact h4), ← e1, e2]
theorem toks_low : ∀ (n : Nat) (l l' : List UInt8), l.length ≤ n → l.map lowB = l'.map lowB → (∀ c ∈ l, c ≠ 39) → toks l = toks l'
  | n, [], l', _, h, _ => by
    cases l' with
    | nil => rfl
    | cons a q => simp at h
  | n, c :: r, [], _, h, _ => by simp at h
  | n, c :: r, c' :: r', hn, h, hq => by
    obtain ⟨m, rfl⟩ : ∃ m, n = m + 1 := ⟨n - 1, by simp at hn; omega⟩
    rw [List.length_cons] at hn
    have hc : lowB c = lowB c' := by
      rw [List.map_cons, List.map_cons, List.cons.injEq] at h; exact h.1
    have hr : r.map lowB = r'.map lowB := by
      rw [List.map_cons, List.map_cons, List.cons.injEq] at h; exact h.2
    cases hb : isBl c with
    | true =>
      rw [toks_blank hb, toks_blank (show isBl c' = true by rw [← low_bl hc]; exact hb)]
      exact toks_low m r r' (by omega) hr (fun x hx => hq x (by simp [hx]))
    | false =>
      have hb' : ¬ isBl c = true := by rw [hb]; decide
      have hb2 : ¬ isBl c' = true := by rw [← low_bl hc]; exact hb'
      have hx := next_low h (hq c (by simp))
      by_cases he : (nextL (c :: r)).2.2 = 0
      · have hl := nextL_len he
        have ih := toks_low m ((c :: r).drop (nextL (c :: r)).2.1) ((c' :: r').drop (nextL (c :: r)).2.1) (by rw [List.length_drop, List.length_cons]; omega) (low_drop _ h) (fun x hx => hq x (List.mem_of_mem_drop hx))
        rw [toks_next hb' he, toks_next hb2 (by rw [← hx]; exact he), ← hx, ih]
      · rw [toks_err hb' he, toks_err hb2 (by rw [← hx]; exact he), hx]
end Go.Proofs.YtfbikpddpdkllaaDoor
