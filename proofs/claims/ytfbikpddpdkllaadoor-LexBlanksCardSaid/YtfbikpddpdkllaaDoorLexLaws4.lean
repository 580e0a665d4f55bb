/-
  Plain law: the printed Join of both sides lays the tokens' texts with blanks between, and they are read as those tokens. No conditions.
-/
import Derived.Test.YtfbikpddpdkllaaDoorLexLaws3
import Derived.Test.YtfbikpddpdkllaaDoorLexLit
import Derived.Test.YtfbikpddpdkllaaDoorLxF15
import Derived.Lib.Join
namespace Go.Proofs.YtfbikpddpdkllaaDoor
open Go.RowKit Go.Proofs.YtfbikpddpdkllaaDoor.Lx Go.Proofs.YtfbikpddpdkllaaDoorW.PrintWords
set_option linter.unusedVariables false
set_option linter.unusedSimpArgs false

def tailJ (l : List Tok) : List UInt8 := (l.map fun t => 32 :: txt t).flatten
def joinL : List Tok → List UInt8
  | [] => []
  | t :: q => txt t ++ tailJ q
theorem tailJ_cons (t : Tok) (q : List Tok) : tailJ (t :: q) = 32 :: (txt t ++ tailJ q) := by unfold tailJ; simp
theorem toks_joined : ∀ (q : List Tok) (t : Tok), Good t → (∀ u ∈ q, Good u) → toks (txt t ++ tailJ q) = (t :: q, 0)
  | [], t, h, _ => by
    have : tailJ [] = [] := rfl
    rw [this, List.append_nil, toks_txt h]
  | u :: q, t, h, hq => by
    have ih := toks_joined q u (hq u (by simp)) (fun x hx => hq x (by simp [hx]))
    rw [tailJ_cons, toks_txt_blank h (by decide) _ (by rw [ih]), ih]
theorem toks_joinL {l : List Tok} (h : ∀ t ∈ l, Good t) : toks (joinL l) = (l, 0) := by
  cases l with
  | nil => rfl
  | cons t q => exact toks_joined q t (h t (by simp)) (fun x hx => h x (by simp [hx]))
/-- a token's bytes are no more than those that it was read from -/
theorem tok_size : ∀ (n : Nat) (l : List UInt8), l.length ≤ n → ∀ t ∈ (toks l).1, t.s.length ≤ l.length
  | n, [], _, t, h => by rw [toks_nil] at h; simp at h
  | n, c :: r, hn, t, h => by
    obtain ⟨m, rfl⟩ : ∃ m, n = m + 1 := ⟨n - 1, by simp at hn; omega⟩
    rw [List.length_cons] at hn ⊢
    cases hb : isBl c with
    | true =>
      rw [toks_blank hb] at h
      have := tok_size m r (by omega) t h
      omega
    | false =>
      have hb' : ¬ isBl c = true := by rw [hb]; decide
      by_cases he : (nextL (c :: r)).2.2 = 0
      · have hl := nextL_len he
        rw [toks_next hb' he] at h
        by_cases h0 : (toks ((c :: r).drop (nextL (c :: r)).2.1)).2 = 0
        · rw [if_pos h0] at h
          rcases List.mem_cons.1 h with rfl | h
          · cases h1 : isLet c with
            | true =>
              rw [nextL_word h1]
              show (((c :: r).take _).map lowB).length ≤ _
              rw [List.length_map, List.length_take, List.length_cons]
              omega
            | false =>
              cases h2 : isDig c with
              | true => rw [nextL_num h1 h2]; simp
              | false =>
                by_cases h3 : c = 39
                · subst h3
                  cases ht : textL r with
                  | none => rw [nextL_none ht] at he; exact absurd he (by decide)
                  | some x =>
                    have hx := textL_some ht
                    rw [nextL_text ht] at he ⊢
                    cases hw : wholeL x.1 with
                    | false => rw [textT_bad hw] at he; exact absurd he (by decide)
                    | true =>
                      by_cases hl : x.1.length ≤ 60
                      · rw [textT_ok hw hl]
                        show x.1.length ≤ _
                        omega
                      · rw [textT_long hw (by omega)] at he; exact absurd he (by decide)
                · by_cases h4 : signL (c :: r) = 0
                  · rw [nextL_bad h1 h2 h3 h4] at he; exact absurd he (by decide)
                  · rw [nextL_sign h1 h2 h3 h4]
                    show ((c :: r).take _).length ≤ _
                    rw [List.length_take, List.length_cons]
                    omega
          · have := tok_size m _ (by rw [List.length_drop, List.length_cons]; omega) t h
            rw [List.length_drop, List.length_cons] at this
            omega
        · rw [if_neg h0] at h; simp at h
      · rw [toks_err hb' he] at h; simp at h
theorem txt_size {t : Tok} (h : Good t) (hs : t.s.length ≤ 2000) : (txt t).length ≤ 2000 := by
  unfold txt
  by_cases h2 : t.k = 2
  · rw [if_pos h2]
    have hn := h.n h2
    have := Lib.itoa_length_le t.n (by omega) (by omega)
    omega
  · rw [if_neg h2]
    by_cases h3 : t.k = 3
    · rw [if_pos h3]
      have := h.s h3
      have hd := dbl_le t.s
      unfold quoteL
      simp
      omega
    · rw [if_neg h3]; exact hs
/-- what the tokens must be for their texts to be laid -/
def Fine (l : List Tok) : Prop := ∀ t ∈ l, Good t ∧ t.s.length ≤ 2000
theorem Fine.tail {t : Tok} {q : List Tok} (h : Fine (t :: q)) : Fine q := fun x hx => h x (by simp [hx])
theorem fine_toks (l : List UInt8) (h : l.length ≤ 2000) : Fine (toks l).1 := fun t ht => ⟨goods _ l (Nat.le_refl _) t ht, Nat.le_trans (tok_size _ l (Nat.le_refl _) t ht) h⟩
theorem tailJ_len : ∀ l : List Tok, Fine l → (tailJ l).length ≤ 2001 * l.length
  | [], _ => by simp [tailJ]
  | t :: q, h => by
    have h1 := h t (by simp)
    have := tailJ_len q h.tail
    have h2 := txt_size h1.1 h1.2
    rw [tailJ_cons]
    simp
    omega
theorem str_app (a b : List UInt8) : (⟨a.toArray⟩ : ByteArray) ++ ⟨b.toArray⟩ = ⟨(a ++ b).toArray⟩ := by
  apply ByteArray.ext
  simp
theorem mk_size (a : List UInt8) : (⟨a.toArray⟩ : ByteArray).size = a.length := by simp [ByteArray.size]
theorem lit_2 (t : Tok) (h : Good t) (hk : t.k = 3) : lapidaryref02_Literal.f 2 0 ⟨t.s.toArray⟩ false = some ⟨(txt t).toArray⟩ := by
  unfold lapidaryref02_Literal.f Lx.quoted txt
  rw [if_pos ⟨rfl, by rw [mk_size]; have := h.s hk; omega⟩, if_neg (by rw [hk]; decide), if_pos hk]
theorem dec_2 (t : Tok) (h : Good t) (hk : t.k = 2) : lapidaryref01_Dec.f t.n = some ⟨(txt t).toArray⟩ := by
  have hn := h.n hk
  unfold lapidaryref01_Dec.f txt decS
  rw [if_pos ⟨by omega, by omega⟩, if_pos hk]
theorem join_j1 (t : Tok) (h : Good t) (ht : t.s.length ≤ 2000) (acc : List UInt8) (ha : acc.length ≤ 1000000000) (l : List S35) (n : Int) (i : Nat) (hi : i ≤ 100000) (R : ByteArray)
    (hR : Ev (fun k => lapidaryref14_Join.l0 k ⟨(acc ++ txt t).toArray⟩ l n ((i + 1 : Nat) : Int)) R) : Ev (fun k => lapidaryref14_Join.j1 k ⟨acc.toArray⟩ l n (i : Int) t.k ⟨t.s.toArray⟩ t.n) R := by
  have hs := txt_size h ht
  refine Ev.step (fun k => ?_) hR
  have hw : wrap64 ((i : Int) + 1) = ((i + 1 : Nat) : Int) := by rw [w64' (by omega) (by omega)]; simp
  rw [lapidaryref14_Join.j1, hw]
  by_cases h2 : t.k = 2
  · rw [if_pos h2, dec_2 t h h2]
    simp only [Option.bind_some]
    rw [if_pos (by rw [mk_size, mk_size]; omega), str_app]
  · rw [if_neg h2]
    by_cases h3 : t.k = 3
    · rw [if_pos h3, lit_2 t h h3]
      simp only [Option.bind_some]
      rw [if_pos (by rw [mk_size, mk_size]; omega), str_app]
    · rw [if_neg h3, if_pos (by rw [mk_size, mk_size]; omega), str_app, txt_len h h2 h3]
theorem join_tail (l : List Tok) (hf : Fine l) (hl : l.length ≤ 2000) : ∀ (n i : Nat) (acc : List UInt8), l.length ≤ i + n → i ≤ l.length → 0 < i → acc.length ≤ 2001 * i →
    Ev (fun k => lapidaryref14_Join.l0 k ⟨acc.toArray⟩ (l.map c35) ((l.map c35).length : Int) (i : Int)) ⟨(acc ++ tailJ (l.drop i)).toArray⟩
  | n, i, acc, hn, hi, h0, ha => by
    have hlm : (l.map c35).length = l.length := by simp
    by_cases hlt : i < l.length
    · obtain ⟨m, rfl⟩ : ∃ m, n = m + 1 := ⟨n - 1, by omega⟩
      have ht : l[i]? = some l[i] := List.getElem?_eq_getElem hlt
      have hg := hf l[i] (List.getElem_mem hlt)
      have hs := txt_size hg.1 hg.2
      have ih := join_tail l hf hl m (i + 1) (acc ++ [32] ++ txt l[i]) (by omega) (by omega) (by omega) (by simp; omega)
      rw [List.drop_eq_getElem_cons hlt, tailJ_cons, show acc ++ 32 :: (txt l[i] ++ tailJ (l.drop (i + 1))) = acc ++ [32] ++ txt l[i] ++ tailJ (l.drop (i + 1)) by simp]
      refine Ev.step (fun k => ?_) (join_j1 l[i] hg.1 hg.2 (acc ++ [32]) (by simp; omega) _ _ i (by omega) _ ih)
      rw [lapidaryref14_Join.l0, if_pos (by omega), if_pos (by omega), if_pos (by omega), if_pos (by omega), if_pos (by rw [mk_size]; omega), rd35 l i _ ht, show (⟨#[32]⟩ : ByteArray) = ⟨[(32 : UInt8)].toArray⟩ from rfl, str_app]
      rfl
    · rw [List.drop_eq_nil_of_le (by omega)]
      refine Ev.step (f := fun _ => some (⟨acc.toArray⟩ : ByteArray)) (fun k => by rw [lapidaryref14_Join.l0, if_neg (by omega)]) (by rw [show tailJ [] = [] from rfl, List.append_nil]; exact Ev.now _)
theorem rjoin_f (l : List Tok) (hf : Fine l) (hl : l.length ≤ 2000) : Ev (fun k => lapidaryref14_Join.f k (l.map c35)) ⟨(joinL l).toArray⟩ := by
  cases l with
  | nil => exact Ev.step (f := fun _ => some (⟨#[]⟩ : ByteArray)) (fun k => rfl) (Ev.now _)
  | cons t q =>
    have hg := hf t (by simp)
    have hs := txt_size hg.1 hg.2
    have ih := join_tail (t :: q) hf hl (t :: q).length 1 (txt t) (by omega) (by simp) (by omega) (by omega)
    have := join_j1 t hg.1 hg.2 [] (by simp) ((t :: q).map c35) (((t :: q).map c35).length : Int) 0 (by omega) _ ih
    refine Ev.step (fun k => ?_) this
    unfold lapidaryref14_Join.f
    rw [lapidaryref14_Join.l0, if_pos (by simp), if_pos (by omega), if_pos (by simp), if_neg (by omega)]
    rfl
end Go.Proofs.YtfbikpddpdkllaaDoor
