/-
  Plain law of the lexer: what the tokens of a list of bytes are; a text in quotes rune by rune. Conditions: as each theorem says.
-/
import Derived.Test.YtfbikpddpdkllaaDoorLexWholes
import Derived.Test.YtfbikpddpdkllaaDoorLexNum
import Derived.Lib.SpaceUEq
import Derived.Lib.MapLaws
import Derived.Lib.RuneCountTail
namespace Go.Proofs.YtfbikpddpdkllaaDoor
open Go.RowKit
set_option linter.unusedVariables false
set_option linter.unusedSimpArgs false

/-- a word (1), a number (2), a text (3), a sign (4) -/
structure Tok where
  k : Int
  s : List UInt8
  n : Int
def zTok : Tok := ⟨0, [], 0⟩
def isLet (c : UInt8) : Bool := (decide (97 ≤ c.toNat) && decide (c.toNat ≤ 122)) || (decide (65 ≤ c.toNat) && decide (c.toNat ≤ 90)) || decide (c.toNat = 95)
def isWd (c : UInt8) : Bool := isLet c || isDig c
def lowB (c : UInt8) : UInt8 := if 65 ≤ c.toNat ∧ c.toNat ≤ 90 then c + 32 else c
def isBl (c : UInt8) : Bool := decide (c.toNat = 32) || decide (c.toNat = 9) || decide (c.toNat = 10) || decide (c.toNat = 13)
def runLen (p : UInt8 → Bool) (l : List UInt8) : Nat := (l.takeWhile p).length
/-- behind a quote: what the text says, and how many bytes it has with the quote at its end -/
def textL : List UInt8 → Option (List UInt8 × Nat)
  | [] => none
  | [c] => if c = 39 then some ([], 1) else none
  | c :: d :: r => if c = 39 then (if d = 39 then (textL r).map fun x => (39 :: x.1, x.2 + 2) else some ([], 1)) else (textL (d :: r)).map fun x => (c :: x.1, x.2 + 1)
def signs : List UInt8 := [40, 41, 44, 59, 42, 43, 45, 47, 37, 61, 60, 62, 46]
def two (c d : UInt8) : Bool := (decide (c = 60) && (decide (d = 61) || decide (d = 62))) || (decide (c = 62) && decide (d = 61))
def signL : List UInt8 → Nat
  | [] => 0
  | [c] => if signs.contains c then 1 else 0
  | c :: d :: _ => if two c d then 2 else if signs.contains c then 1 else 0
def wholeL (l : List UInt8) : Bool := wholeV ⟨l.toArray⟩
/-- the token in front, how many bytes it has, the error -/
def textT (t : List UInt8) (n : Nat) : Tok × Nat × Int := if wholeL t = false then (zTok, 0, 4) else if 60 < t.length then (zTok, 0, 2) else (⟨3, t, 0⟩, n, 0)
def nextC (c : UInt8) (r : List UInt8) : Tok × Nat × Int :=
  if isLet c = true then (⟨1, ((c :: r).take (runLen isWd (c :: r))).map lowB, 0⟩, runLen isWd (c :: r), 0)
  else if isDig c = true then (⟨2, [], readV ((c :: r).take (runLen isDig (c :: r)))⟩, runLen isDig (c :: r), readE ((c :: r).take (runLen isDig (c :: r))))
  else if c = 39 then ((textL r).map fun x => textT x.1 (x.2 + 1)).getD (zTok, 0, 4)
  else if signL (c :: r) = 0 then (zTok, 0, 4) else (⟨4, (c :: r).take (signL (c :: r)), 0⟩, signL (c :: r), 0)
def nextL : List UInt8 → Tok × Nat × Int
  | [] => (zTok, 0, 4)
  | c :: r => nextC c r
def toksN : Nat → List UInt8 → List Tok × Int
  | 0, _ => ([], 0)
  | _ + 1, [] => ([], 0)
  | f + 1, c :: r => if isBl c then toksN f r else
      if (nextL (c :: r)).2.2 = 0 then
        (if (toksN f ((c :: r).drop (nextL (c :: r)).2.1)).2 = 0 then ((nextL (c :: r)).1 :: (toksN f ((c :: r).drop (nextL (c :: r)).2.1)).1, 0) else ([], (toksN f ((c :: r).drop (nextL (c :: r)).2.1)).2))
      else ([], (nextL (c :: r)).2.2)
/-- the tokens, or the error -/
def toks (l : List UInt8) : List Tok × Int := toksN l.length l

theorem runLen_le (p : UInt8 → Bool) (l : List UInt8) : runLen p l ≤ l.length := by
  unfold runLen
  exact (List.takeWhile_sublist p).length_le
theorem runLen_cons (p : UInt8 → Bool) (c : UInt8) (r : List UInt8) : runLen p (c :: r) = if p c then runLen p r + 1 else 0 := by
  unfold runLen
  by_cases h : p c <;> simp [h]
theorem take_run (p : UInt8 → Bool) : ∀ l : List UInt8, l.take (runLen p l) = l.takeWhile p
  | [] => rfl
  | c :: r => by
    rw [runLen_cons]
    by_cases h : p c
    · rw [if_pos h, List.take_succ_cons, take_run p r, List.takeWhile_cons_of_pos h]
    · rw [if_neg h, List.takeWhile_cons_of_neg h]; rfl
theorem textL_some : ∀ {l : List UInt8} {x : List UInt8 × Nat}, textL l = some x → 1 ≤ x.2 ∧ x.2 ≤ l.length ∧ x.1.length < x.2
  | [], x, h => by simp [textL] at h
  | [c], x, h => by
    unfold textL at h
    by_cases hc : c = 39
    · rw [if_pos hc] at h
      obtain rfl := Option.some.inj h
      simp
    · rw [if_neg hc] at h; cases h
  | c :: d :: r, x, h => by
    unfold textL at h
    by_cases hc : c = 39
    · rw [if_pos hc] at h
      by_cases hd : d = 39
      · rw [if_pos hd] at h
        obtain ⟨y, hy, rfl⟩ := Option.map_eq_some_iff.1 h
        have := textL_some hy
        simp
        omega
      · rw [if_neg hd] at h
        obtain rfl := Option.some.inj h
        simp
    · rw [if_neg hc] at h
      obtain ⟨y, hy, rfl⟩ := Option.map_eq_some_iff.1 h
      have := textL_some hy
      simp at this ⊢
      omega
theorem signL_le : ∀ l : List UInt8, signL l ≤ l.length
  | [] => by simp [signL]
  | [c] => by
    rw [signL]
    by_cases h : signs.contains c = true
    · rw [if_pos h]; simp
    · rw [if_neg h]; simp
  | c :: d :: r => by
    rw [signL]
    by_cases h2 : two c d = true
    · rw [if_pos h2]; simp
    · rw [if_neg h2]
      by_cases h : signs.contains c = true
      · rw [if_pos h]; simp
      · rw [if_neg h]; simp
theorem nextL_word {c : UInt8} {r : List UInt8} (h : isLet c = true) : nextL (c :: r) = (⟨1, ((c :: r).take (runLen isWd (c :: r))).map lowB, 0⟩, runLen isWd (c :: r), 0) := if_pos h
theorem nextL_num {c : UInt8} {r : List UInt8} (h : isLet c = false) (h2 : isDig c = true) : nextL (c :: r) = (⟨2, [], readV ((c :: r).take (runLen isDig (c :: r)))⟩, runLen isDig (c :: r), readE ((c :: r).take (runLen isDig (c :: r)))) :=
  (if_neg (by simp [h])).trans (if_pos h2)
theorem let39 : isLet 39 = false := by decide
theorem dig39 : isDig 39 = false := by decide
theorem nextL_none {r : List UInt8} (h : textL r = none) : nextL (39 :: r) = (zTok, 0, 4) := by
  show nextC 39 r = _
  unfold nextC
  rw [let39, dig39, if_neg (by decide), if_neg (by decide), if_pos rfl, h]; rfl
theorem nextL_text {r : List UInt8} {x : List UInt8 × Nat} (h : textL r = some x) : nextL (39 :: r) = textT x.1 (x.2 + 1) := by
  show nextC 39 r = _
  unfold nextC
  rw [let39, dig39, if_neg (by decide), if_neg (by decide), if_pos rfl, h]; rfl
theorem nextL_bad {c : UInt8} {r : List UInt8} (h : isLet c = false) (h2 : isDig c = false) (h3 : c ≠ 39) (h4 : signL (c :: r) = 0) : nextL (c :: r) = (zTok, 0, 4) := by
  show nextC c r = _
  unfold nextC
  rw [h, h2, if_neg (by decide), if_neg (by decide), if_neg h3, if_pos h4]
theorem nextL_sign {c : UInt8} {r : List UInt8} (h : isLet c = false) (h2 : isDig c = false) (h3 : c ≠ 39) (h4 : signL (c :: r) ≠ 0) : nextL (c :: r) = (⟨4, (c :: r).take (signL (c :: r)), 0⟩, signL (c :: r), 0) := by
  show nextC c r = _
  unfold nextC
  rw [h, h2, if_neg (by decide), if_neg (by decide), if_neg h3, if_neg h4]
theorem textT_bad {t : List UInt8} {n : Nat} (h : wholeL t = false) : textT t n = (zTok, 0, 4) := if_pos h
theorem textT_long {t : List UInt8} {n : Nat} (h : wholeL t = true) (h2 : 60 < t.length) : textT t n = (zTok, 0, 2) := (if_neg (by simp [h])).trans (if_pos h2)
theorem textT_ok {t : List UInt8} {n : Nat} (h : wholeL t = true) (h2 : t.length ≤ 60) : textT t n = (⟨3, t, 0⟩, n, 0) := (if_neg (by simp [h])).trans (if_neg (by omega))
/-- a token without an error has at least one byte, and no more than there are -/
theorem nextL_len {l : List UInt8} (h : (nextL l).2.2 = 0) : 1 ≤ (nextL l).2.1 ∧ (nextL l).2.1 ≤ l.length := by
  cases l with
  | nil => exact absurd h (by decide)
  | cons c r =>
    cases h1 : isLet c with
    | true =>
      rw [nextL_word h1]
      refine ⟨?_, runLen_le _ _⟩
      show 1 ≤ runLen isWd (c :: r)
      rw [runLen_cons, if_pos (by simp [isWd, h1])]
      omega
    | false =>
      cases h2 : isDig c with
      | true =>
        rw [nextL_num h1 h2]
        refine ⟨?_, runLen_le _ _⟩
        show 1 ≤ runLen isDig (c :: r)
        rw [runLen_cons, if_pos h2]
        omega
      | false =>
        by_cases h3 : c = 39
        · subst h3
          cases ht : textL r with
          | none => rw [nextL_none ht] at h; exact absurd h (by decide)
          | some x =>
            rw [nextL_text ht] at h ⊢
            have hx := textL_some ht
            cases h4 : wholeL x.1 with
            | false => rw [textT_bad h4] at h; exact absurd h (by decide)
            | true =>
              by_cases h5 : 60 < x.1.length
              · rw [textT_long h4 h5] at h; exact absurd h (by decide)
              · rw [textT_ok h4 (by omega)]
                show 1 ≤ x.2 + 1 ∧ x.2 + 1 ≤ (39 :: r).length
                simp
                omega
        · by_cases h6 : signL (c :: r) = 0
          · rw [nextL_bad h1 h2 h3 h6] at h; exact absurd h (by decide)
          · rw [nextL_sign h1 h2 h3 h6]
            have := signL_le (c :: r)
            show 1 ≤ signL (c :: r) ∧ signL (c :: r) ≤ _
            omega
theorem toksN_more : ∀ (f g : Nat) (l : List UInt8), l.length ≤ f → l.length ≤ g → toksN f l = toksN g l
  | 0, 0, _, _, _ => rfl
  | 0, g + 1, l, h, _ => by
    obtain rfl := List.eq_nil_of_length_eq_zero (Nat.le_zero.1 h)
    rfl
  | f + 1, 0, l, _, h => by
    obtain rfl := List.eq_nil_of_length_eq_zero (Nat.le_zero.1 h)
    rfl
  | f + 1, g + 1, [], _, _ => rfl
  | f + 1, g + 1, c :: r, hf, hg => by
    rw [toksN, toksN]
    by_cases hb : isBl c
    · rw [if_pos hb, if_pos hb]
      exact toksN_more f g r (by simp at hf; omega) (by simp at hg; omega)
    · rw [if_neg hb, if_neg hb]
      by_cases he : (nextL (c :: r)).2.2 = 0
      · have hl := nextL_len he
        have hd : ((c :: r).drop (nextL (c :: r)).2.1).length ≤ (c :: r).length - 1 := by rw [List.length_drop]; omega
        rw [List.length_cons] at hd hf hg
        rw [if_pos he, if_pos he, toksN_more f g _ (by omega) (by omega)]
      · rw [if_neg he, if_neg he]
theorem toks_nil : toks [] = ([], 0) := rfl
theorem toks_cons (c : UInt8) (r : List UInt8) : toks (c :: r) = if isBl c then toks r else
      if (nextL (c :: r)).2.2 = 0 then
        (if (toks ((c :: r).drop (nextL (c :: r)).2.1)).2 = 0 then ((nextL (c :: r)).1 :: (toks ((c :: r).drop (nextL (c :: r)).2.1)).1, 0) else ([], (toks ((c :: r).drop (nextL (c :: r)).2.1)).2))
      else ([], (nextL (c :: r)).2.2) := by
  show toksN (r.length + 1) (c :: r) = _
  rw [toksN]
  by_cases hb : isBl c
  · rw [if_pos hb, if_pos hb]; rfl
  · rw [if_neg hb, if_neg hb]
    by_cases he : (nextL (c :: r)).2.2 = 0
    · have hl := nextL_len he
      rw [if_pos he, if_pos he]
      have : toksN r.length ((c :: r).drop (nextL (c :: r)).2.1) = toks ((c :: r).drop (nextL (c :: r)).2.1) :=
        toksN_more _ _ _ (by rw [List.length_drop]; simp at hl ⊢; omega) (Nat.le_refl _)
      rw [this]
    · rw [if_neg he, if_neg he]
theorem toks_blank {c : UInt8} (h : isBl c) (r : List UInt8) : toks (c :: r) = toks r := by rw [toks_cons, if_pos h]
theorem toks_err {c : UInt8} {r : List UInt8} (h : ¬ isBl c) (he : (nextL (c :: r)).2.2 ≠ 0) : toks (c :: r) = ([], (nextL (c :: r)).2.2) := by rw [toks_cons, if_neg h, if_neg he]
theorem toks_next {c : UInt8} {r : List UInt8} (h : ¬ isBl c) (he : (nextL (c :: r)).2.2 = 0) :
    toks (c :: r) = if (toks ((c :: r).drop (nextL (c :: r)).2.1)).2 = 0 then ((nextL (c :: r)).1 :: (toks ((c :: r).drop (nextL (c :: r)).2.1)).1, 0) else ([], (toks ((c :: r).drop (nextL (c :: r)).2.1)).2) := by
  rw [toks_cons, if_neg h, if_pos he]
/-- where there is an error there are no tokens -/
theorem toks_none {l : List UInt8} : (toks l).2 ≠ 0 → (toks l).1 = [] := by
  cases l with
  | nil => intro h; rfl
  | cons c r =>
    rw [toks_cons]
    by_cases hb : isBl c
    · rw [if_pos hb]
      exact toks_none
    · rw [if_neg hb]
      repeat' split
      all_goals simp_all
termination_by l.length
/-- bytes that are no quote stand for themselves -/
theorem textL_skip : ∀ (n : Nat) (l : List UInt8), (∀ c ∈ l.take n, c ≠ 39) → n ≤ l.length → textL l = (textL (l.drop n)).map fun x => (l.take n ++ x.1, n + x.2)
  | 0, l, _, _ => by simp
  | n + 1, [], _, h => by simp at h
  | n + 1, [c], h, hl => by
    obtain rfl : n = 0 := by simp at hl; omega
    have hc : c ≠ 39 := h c (by simp)
    simp [textL, hc]
  | n + 1, c :: d :: r, h, hl => by
    have hc : c ≠ 39 := h c (by simp)
    have ih := textL_skip n (d :: r) (fun x hx => h x (by simp [hx])) (by simp at hl ⊢; omega)
    rw [textL, if_neg hc, ih]
    simp only [List.drop_succ_cons, List.take_succ_cons, Option.map_map]
    congr 1
    funext x
    simp
    omega
end Go.Proofs.YtfbikpddpdkllaaDoor
namespace Go.Proofs.YtfbikpddpdkllaaDoor
open Go.RowKit
set_option linter.unusedVariables false
set_option linter.unusedSimpArgs false

/-- where the loop stands: at pos, a quote having been read just ahead or not, with what the text says so far -/
def TextAt (R : List UInt8) (q : Bool) (pos : Nat) (acc : List UInt8) : Prop :=
  textL R = (textL (if q = true then 39 :: R.drop pos else R.drop pos)).map (fun x => (acc ++ x.1, (if q = true then pos - 1 else pos) + x.2)) ∧ (q = true → 1 ≤ pos)
theorem textAt_t {R acc : List UInt8} {pos : Nat} : TextAt R true pos acc ↔ textL R = (textL (39 :: R.drop pos)).map (fun x => (acc ++ x.1, pos - 1 + x.2)) ∧ 1 ≤ pos := by simp [TextAt]
theorem textAt_f {R acc : List UInt8} {pos : Nat} : TextAt R false pos acc ↔ textL R = (textL (R.drop pos)).map (fun x => (acc ++ x.1, pos + x.2)) := by simp [TextAt]
theorem textAt_start (R : List UInt8) : TextAt R false 0 [] := by
  rw [textAt_f]
  simp
theorem textL_qq (r : List UInt8) : textL (39 :: 39 :: r) = (textL r).map fun x => (39 :: x.1, x.2 + 2) := by rw [textL, if_pos rfl, if_pos rfl]
theorem textL_q1 : textL [39] = some ([], 1) := by rw [textL, if_pos rfl]
theorem textL_qn {c : UInt8} (h : c ≠ 39) (r : List UInt8) : textL (39 :: c :: r) = some ([], 1) := by rw [textL, if_pos rfl, if_neg h]
theorem drop_at {R : List UInt8} {pos : Nat} {c : UInt8} (h : R[pos]? = some c) : R.drop pos = c :: R.drop (pos + 1) := by
  obtain ⟨hl, he⟩ := List.getElem?_eq_some_iff.1 h
  rw [List.drop_eq_getElem_cons hl, he]
theorem textAt_double {R acc : List UInt8} {pos : Nat} (h : TextAt R true pos acc) (hc : R[pos]? = some 39) : TextAt R false (pos + 1) (acc ++ [39]) := by
  obtain ⟨h1, h2⟩ := textAt_t.1 h
  rw [textAt_f, h1, drop_at hc, textL_qq, Option.map_map]
  congr 1
  funext x
  simp
  omega
theorem textAt_quote {R acc : List UInt8} {pos : Nat} (h : TextAt R false pos acc) (hc : R[pos]? = some 39) : TextAt R true (pos + 1) acc := by
  have h1 := textAt_f.1 h
  rw [textAt_t, h1, drop_at hc]
  exact ⟨by simp, by omega⟩
theorem textAt_stop {R acc : List UInt8} {pos : Nat} {c : UInt8} (h : TextAt R true pos acc) (hc : R[pos]? = some c) (hn : c ≠ 39) : textL R = some (acc, pos) := by
  obtain ⟨h1, h2⟩ := textAt_t.1 h
  rw [h1, drop_at hc, textL_qn hn]
  simp
  omega
theorem textAt_last {R acc : List UInt8} {pos : Nat} (h : TextAt R true pos acc) (hp : R.length ≤ pos) : textL R = some (acc, pos) := by
  obtain ⟨h1, h2⟩ := textAt_t.1 h
  rw [h1, List.drop_eq_nil_of_le hp, textL_q1]
  simp
  omega
theorem textAt_open {R acc : List UInt8} {pos : Nat} (h : TextAt R false pos acc) (hp : R.length ≤ pos) : textL R = none := by
  have h1 := textAt_f.1 h
  rw [h1, List.drop_eq_nil_of_le hp]
  rfl
theorem textAt_skip {R acc : List UInt8} {pos n : Nat} (h : TextAt R false pos acc) (hn : ∀ c ∈ (R.drop pos).take n, c ≠ 39) (hl : pos + n ≤ R.length) : TextAt R false (pos + n) (acc ++ (R.drop pos).take n) := by
  have h1 := textAt_f.1 h
  rw [textAt_f, h1, textL_skip n (R.drop pos) hn (by rw [List.length_drop]; omega), Option.map_map, List.drop_drop]
  congr 1
  funext x
  simp
  omega
/-- the bytes of a rune in front, but for a quote, are no quotes -/
theorem rune_noq (l : List UInt8) (hne : l ≠ []) (h : l.getD 0 0 ≠ 39) : ∀ c ∈ l.take (Lib.decodeL l).2, c ≠ 39 := by
  have hc := Lib.decodeN_conts l.length (l.getD 0 0).toNat (l.getD 1 0).toNat (l.getD 2 0).toNat (l.getD 3 0).toNat
  rw [← Lib.decodeL_N] at hc
  intro c hm
  obtain ⟨j, hj, rfl⟩ := List.mem_iff_getElem.1 hm
  rw [List.length_take] at hj
  rw [List.getElem_take]
  have e : l[j] = l.getD j 0 := by rw [List.getD_eq_getElem?_getD, List.getElem?_eq_getElem (by omega)]; rfl
  rw [e]
  obtain ⟨c1, c2, c3, c4⟩ := hc
  have hj4 : j = 0 ∨ j = 1 ∨ j = 2 ∨ j = 3 := by omega
  have hq : (39 : UInt8).toNat / 64 = 0 := by decide
  rcases hj4 with rfl | rfl | rfl | rfl
  · exact h
  · intro e1
    have := (c1 (by omega)).1
    rw [e1] at this
    omega
  · intro e1
    have := (c2 (by omega)).1
    rw [e1] at this
    omega
  · intro e1
    have := (c3 (by omega)).1
    rw [e1] at this
    omega
/-- what lex.text hands back -/
def textV (l : List UInt8) : List UInt8 × Nat := ((textL l).map fun x => (x.1, x.2 + 1)).getD ([], 0)
theorem textV_some {l : List UInt8} {x : List UInt8 × Nat} (h : textL l = some x) : textV l = (x.1, x.2 + 1) := by unfold textV; rw [h]; rfl
theorem textV_none {l : List UInt8} (h : textL l = none) : textV l = ([], 0) := by unfold textV; rw [h]; rfl
end Go.Proofs.YtfbikpddpdkllaaDoor
