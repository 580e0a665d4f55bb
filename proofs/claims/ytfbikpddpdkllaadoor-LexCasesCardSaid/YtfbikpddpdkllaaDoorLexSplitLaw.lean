/-
  Plain law: the printed lex.Split comes to 'toks'. Conditions: none beyond the bound of the document (2000 bytes).
-/
import Derived.Test.YtfbikpddpdkllaaDoorLexNext
import Derived.Test.YtfbikpddpdkllaaDoorLxF10
namespace Go.Proofs.YtfbikpddpdkllaaDoor
open Go.RowKit Go.Proofs.YtfbikpddpdkllaaDoor.Lx Go.Proofs.YtfbikpddpdkllaaDoorW.PrintWords
set_option linter.unusedVariables false
set_option linter.unusedSimpArgs false

def c36 (t : Tok) : S36 := ⟨t.k, ⟨t.s.toArray⟩, t.n⟩
/-- what comes back: the tokens behind those that are there, or the error -/
def out36 (acc : List S36) (x : List Tok × Int) : List S36 × Int := if x.2 = 0 then (acc ++ x.1.map c36, 0) else ([], x.2)
theorem w64' {n : Int} (h0 : -9223372036854775808 ≤ n) (h1 : n ≤ 9223372036854775807) : wrap64 n = n := by unfold wrap64; omega
theorem index_blank (c : UInt8) : (Lib.indexByte (⟨#[32, 9, 10, 13]⟩ : ByteArray).data.toList ((c.toNat : Int)).toNat.toUInt8 ≥ 0) ↔ isBl c = true := by
  have h := Lib.contains_iff_indexByte [32, 9, 10, 13] c
  have e : ((c.toNat : Int)).toNat.toUInt8 = c := by simp
  rw [e]
  change 0 ≤ Lib.indexByte [32, 9, 10, 13] c ↔ _
  rw [show (0 ≤ Lib.indexByte [32, 9, 10, 13] c ↔ isBl c = true) ↔ (([32, 9, 10, 13] : List UInt8).contains c = true ↔ isBl c = true) by rw [h, decide_eq_true_iff]]
  unfold isBl
  have e : ∀ a : UInt8, (c = a) ↔ (c.toNat = a.toNat) := fun a => ⟨fun h => by rw [h], fun h => UInt8.toNat_inj.1 h⟩
  simp only [List.contains_cons, Bool.or_eq_true, beq_iff_eq, decide_eq_true_eq, List.contains_nil, Bool.or_false, e, or_assoc]
  exact Iff.rfl
theorem empty_list {s : ByteArray} (h : s.size = 0) : s.toList = [] := by
  rw [Lib.toList_data]
  exact List.eq_nil_of_length_eq_zero (by simpa using h)
theorem split_l0 : ∀ (n : Nat) (s : ByteArray) (acc : List S36), s.size ≤ n → s.size ≤ 2000 → acc.length + s.size ≤ 4000 → Ev (fun k => lex_Split.l0 k s acc) (out36 acc (toks s.data.toList))
  | n, s, acc, hn, hs, ha => by
    cases hl : s.data.toList with
    | nil =>
      refine Ev.step (f := fun _ => some (acc, 0)) (fun k => ?_) (by rw [toks_nil]; simpa [out36] using Ev.now (acc, (0 : Int)))
      have he : s.toList = [] := by rw [Lib.toList_data, hl]
      rw [lex_Split.l0, if_pos he]
    | cons c r =>
      have hz := size_list s _ hl
      rw [List.length_cons] at hz
      obtain ⟨m, rfl⟩ : ∃ m, n = m + 1 := ⟨n - 1, by omega⟩
      have he : ¬ s.toList = [] := by rw [Lib.toList_data, hl]; simp
      have hb := bt_zero s c r hl
      have hd1 : (s.extract 1 s.size).data.toList = r := by rw [Lib.extract_to_end, hl]; rfl
      by_cases hbl : isBl c = true
      · rw [toks_blank hbl]
        have ih := split_l0 m (s.extract 1 s.size) acc (by rw [ByteArray.size_extract]; omega) (by rw [ByteArray.size_extract]; omega) (by rw [ByteArray.size_extract]; omega)
        rw [hd1] at ih
        refine Ev.step (fun k => ?_) ih
        rw [lex_Split.l0, if_neg he, if_pos (by omega), hb]
        unfold strings_IndexByte.f
        simp only [Option.bind_some]
        rw [if_pos ((index_blank c).2 hbl), if_pos (by omega)]
      · have hf : lex_next.f s = some ((nextL (c :: r)).1.k, (⟨(nextL (c :: r)).1.s.toArray⟩ : ByteArray), (nextL (c :: r)).1.n, (((nextL (c :: r)).2.1 : Nat) : Int), (nextL (c :: r)).2.2) := by
          unfold lex_next.f
          rw [if_pos ⟨by omega, by omega⟩, hl]
        by_cases hx : (nextL (c :: r)).2.2 = 0
        · have hlen := nextL_len hx
          have hd : (s.extract (nextL (c :: r)).2.1 s.size).data.toList = (c :: r).drop (nextL (c :: r)).2.1 := by rw [Lib.extract_to_end, hl]
          have hsz : (s.extract (nextL (c :: r)).2.1 s.size).size = s.size - (nextL (c :: r)).2.1 := by rw [ByteArray.size_extract]; omega
          rw [List.length_cons] at hlen
          have ih := split_l0 m (s.extract (nextL (c :: r)).2.1 s.size) (acc ++ [c36 (nextL (c :: r)).1]) (by omega) (by omega) (by rw [List.length_append, List.length_singleton]; omega)
          rw [hd] at ih
          have e : out36 acc (toks (c :: r)) = out36 (acc ++ [c36 (nextL (c :: r)).1]) (toks ((c :: r).drop (nextL (c :: r)).2.1)) := by
            rw [toks_next hbl hx]
            unfold out36
            by_cases h0 : (toks ((c :: r).drop (nextL (c :: r)).2.1)).2 = 0
            · rw [if_pos h0, if_pos rfl, if_pos h0]
              simp
            · rw [if_neg h0, if_neg h0, if_neg h0]
          rw [e]
          refine Ev.step (fun k => ?_) ih
          rw [lex_Split.l0, if_neg he, if_pos (by omega), hb]
          unfold strings_IndexByte.f
          simp only [Option.bind_some]
          rw [if_neg (fun h => hbl ((index_blank c).1 h)), hf]
          simp only [Option.bind_some]
          rw [if_pos hx, if_pos (by omega), if_pos (by omega), if_pos (by omega)]
          rfl
        · rw [toks_err hbl hx]
          refine Ev.step (f := fun _ => some (([] : List S36), (nextL (c :: r)).2.2)) (fun k => ?_) (by unfold out36; rw [if_neg hx]; exact Ev.now _)
          rw [lex_Split.l0, if_neg he, if_pos (by omega), hb]
          unfold strings_IndexByte.f
          simp only [Option.bind_some]
          rw [if_neg (fun h => hbl ((index_blank c).1 h)), hf]
          simp only [Option.bind_some]
          rw [if_neg hx]
/-- lex.Split's answer -/
def splitV (s : ByteArray) : List Tok × Int := if 2000 < s.size then ([], 2) else toks s.data.toList
theorem split_f (s : ByteArray) : Ev (fun k => lex_Split.f k s) (out36 [] (splitV s)) := by
  unfold splitV
  by_cases h : 2000 < s.size
  · rw [if_pos h]
    refine Ev.congr (f := fun _ => some (([] : List S36), 2)) (fun k => ?_) (Ev.now _)
    unfold lex_Split.f
    rw [if_pos (by omega)]
  · rw [if_neg h]
    refine Ev.congr (fun k => ?_) (split_l0 s.size s [] (Nat.le_refl _) (by omega) (by simp; omega))
    unfold lex_Split.f
    rw [if_neg (by omega)]
end Go.Proofs.YtfbikpddpdkllaaDoor
