/-
  Plain law: back and Same at tokens; awake; the pure statement of LexSplits. No conditions.
-/
import Derived.Test.YtfbikpddpdkllaaDoorLexRefLaw2
import Derived.Test.YtfbikpddpdkllaaDoorLxF12
import Derived.Test.YtfbikpddpdkllaaDoorLxF13
import Derived.Test.YtfbikpddpdkllaaDoorLxF9
import Derived.Test.YtfbikpddpdkllaaDoorLxF3
namespace Go.Proofs.YtfbikpddpdkllaaDoor
open Go.RowKit Go.Proofs.YtfbikpddpdkllaaDoor.Lx Go.Proofs.YtfbikpddpdkllaaDoorW.PrintWords
set_option linter.unusedVariables false
set_option linter.unusedSimpArgs false

theorem rd36 (l : List Tok) (i : Nat) (t : Tok) (h : l[i]? = some t) : rd_T36 (l.map c36) (i : Int) = c36 t := by
  unfold rd_T36
  rw [Int.toNat_natCast, List.getD_eq_getElem?_getD, List.getElem?_map, h]
  rfl
theorem rd35 (l : List Tok) (i : Nat) (t : Tok) (h : l[i]? = some t) : rd_T35 (l.map c35) (i : Int) = c35 t := by
  unfold rd_T35
  rw [Int.toNat_natCast, List.getD_eq_getElem?_getD, List.getElem?_map, h]
  rfl
theorem back_l0 (l : List Tok) (hl : l.length ≤ 100000) : ∀ (n i : Nat), l.length ≤ i + n → i ≤ l.length → Ev (fun k => lapidarylaw14_back.l0 k ((l.take i).map c35) (l.map c36) ((l.map c36).length : Int) (i : Int)) (l.map c35)
  | n, i, hn, hi => by
    have hlm : (l.map c36).length = l.length := by simp
    by_cases hlt : i < l.length
    · obtain ⟨m, rfl⟩ : ∃ m, n = m + 1 := ⟨n - 1, by omega⟩
      refine Ev.step (fun k => ?_) (back_l0 l hl m (i + 1) (by omega) (by omega))
      have ht : l[i]? = some l[i] := List.getElem?_eq_getElem hlt
      rw [lapidarylaw14_back.l0, if_pos (by omega), if_pos (by omega), if_pos (by omega), if_pos (by rw [List.length_map, List.length_take]; omega), rd36 l i _ ht, w64' (by omega) (by omega)]
      rw [List.take_succ_eq_append_getElem hlt, List.map_append]
      rfl
    · refine Ev.step (f := fun _ => some ((l.take i).map c35)) (fun k => by rw [lapidarylaw14_back.l0, if_neg (by omega)]) (by rw [List.take_of_length_le (by omega)]; exact Ev.now _)
theorem back_f (l : List Tok) (hl : l.length ≤ 100000) : Ev (fun k => lapidarylaw14_back.f k (l.map c36)) (l.map c35) := by
  have := back_l0 l hl l.length 0 (by omega) (by omega)
  simpa [lapidarylaw14_back.f] using this
theorem toList_mk (l : List UInt8) : (⟨l.toArray⟩ : ByteArray).toList = l := by rw [Lib.toList_data]
theorem same_l0 (l : List Tok) (hl : l.length ≤ 100000) : ∀ (n i : Nat), l.length ≤ i + n → i ≤ l.length → Ev (fun k => lapidaryref14_Same.l0 k (l.map c35) (l.map c35) ((l.map c35).length : Int) (i : Int)) true
  | n, i, hn, hi => by
    have hlm : (l.map c35).length = l.length := by simp
    by_cases hlt : i < l.length
    · obtain ⟨m, rfl⟩ : ∃ m, n = m + 1 := ⟨n - 1, by omega⟩
      refine Ev.step (fun k => ?_) (same_l0 l hl m (i + 1) (by omega) (by omega))
      rw [lapidaryref14_Same.l0, if_pos (by omega), if_pos (by omega), if_pos (by omega), if_pos (by omega), if_pos rfl, if_pos rfl, if_pos rfl, w64' (by omega) (by omega)]
      rfl
    · exact Ev.step (f := fun _ => some true) (fun k => by rw [lapidaryref14_Same.l0, if_neg (by omega)]) (Ev.now _)
theorem same_f (l : List Tok) (hl : l.length ≤ 100000) : Ev (fun k => lapidaryref14_Same.f k (l.map c35) (l.map c35)) true := by
  have := same_l0 l hl l.length 0 (by omega) (by omega)
  refine Ev.congr (fun k => ?_) this
  unfold lapidaryref14_Same.f
  rw [if_pos rfl]
  rfl
/-- a token has at least one byte -/
theorem toks_len : ∀ (n : Nat) (l : List UInt8), l.length ≤ n → (toks l).1.length ≤ l.length
  | n, [], _ => by simp [toks_nil]
  | n, c :: r, h => by
    obtain ⟨m, rfl⟩ : ∃ m, n = m + 1 := ⟨n - 1, by simp at h; omega⟩
    rw [List.length_cons] at h
    cases hb : isBl c with
    | true =>
      rw [toks_blank hb, List.length_cons]
      have := toks_len m r (by omega)
      omega
    | false =>
      have hb' : ¬ isBl c = true := by rw [hb]; decide
      by_cases he : (nextL (c :: r)).2.2 = 0
      · rw [toks_next hb' he]
        have hl := nextL_len he
        have := toks_len m ((c :: r).drop (nextL (c :: r)).2.1) (by rw [List.length_drop, List.length_cons]; omega)
        rw [List.length_drop] at this
        by_cases h0 : (toks ((c :: r).drop (nextL (c :: r)).2.1)).2 = 0
        · rw [if_pos h0, List.length_cons]; omega
        · rw [if_neg h0]; simp
      · rw [toks_err hb' he]; simp
theorem splitV_len (s : ByteArray) : (splitV s).1.length ≤ 2000 := by
  unfold splitV
  by_cases h : 2000 < s.size
  · rw [if_pos h]; simp
  · rw [if_neg h]
    have := toks_len _ s.data.toList (Nat.le_refl _)
    have h2 : s.data.toList.length = s.size := by simp
    omega
theorem splitV_none (s : ByteArray) (h : (splitV s).2 ≠ 0) : (splitV s).1 = [] := by
  unfold splitV at h ⊢
  by_cases h2 : 2000 < s.size
  · rw [if_pos h2]
  · rw [if_neg h2] at h ⊢
    exact toks_none h
theorem out36_nil (s : ByteArray) : out36 [] (splitV s) = ((splitV s).1.map c36, (splitV s).2) := by
  unfold out36
  by_cases h : (splitV s).2 = 0
  · rw [if_pos h, h]; rfl
  · rw [if_neg h, splitV_none s h]; rfl
theorem out35_nil (s : ByteArray) : out35 [] (splitV s) = ((splitV s).1.map c35, (splitV s).2) := by
  unfold out35
  by_cases h : (splitV s).2 = 0
  · rw [if_pos h, h]; rfl
  · rw [if_neg h, splitV_none s h]; rfl
theorem split_ev (s : ByteArray) : Ev (fun k => lex_Split.f k s) ((splitV s).1.map c36, (splitV s).2) := out36_nil s ▸ split_f s
theorem rsplit_ev (s : ByteArray) : Ev (fun k => lapidaryref14_Split.f k s) ((splitV s).1.map c35, (splitV s).2) := out35_nil s ▸ rsplit_f s
def wakeToks : List Tok := [⟨1, [115, 101, 108, 101, 99, 116], 0⟩, ⟨1, [97], 0⟩, ⟨4, [60, 61], 0⟩, ⟨2, [], 7⟩]
theorem wake : splitV (⟨#[83, 69, 76, 69, 67, 84, 32, 97, 60, 61, 55]⟩ : ByteArray) = (wakeToks, 0) := by kernel_rfl
theorem awake_f : Ev (fun k => lapidarylaw14_awake.f k) true := by
  have h := split_ev (⟨#[83, 69, 76, 69, 67, 84, 32, 97, 60, 61, 55]⟩ : ByteArray)
  rw [wake] at h
  refine Ev.bind h ?_
  refine Ev.congr (fun k => ?_) (Ev.now true)
  simp [wakeToks, c36, rd_T36, toList_mk]
theorem mn_le (n m : Nat) : mn (n : Int) (m : Int) = ((min n m : Nat) : Int) := by
  unfold mn
  omega
theorem cut_ok (s : ByteArray) (m : Nat) : 0 ≤ mn (s.size : Int) (m : Int) ∧ mn (s.size : Int) (m : Int) ≤ (s.size : Int) := by
  unfold mn
  omega
theorem lexSplits_ev (s : ByteArray) : Ev (fun k => lapidarylaw14_LexSplits.f k s) true := by
  unfold lapidarylaw14_LexSplits.f
  refine Ev.bind awake_f ?_
  have hc := cut_ok s 2100
  refine Ev.congr (f := fun k => (lex_Split.f k (s.extract 0 (mn (s.size : Int) 2100).toNat)).bind fun b => (lapidaryref14_Split.f k (s.extract 0 (mn (s.size : Int) 2100).toNat)).bind fun d => (lapidarylaw14_back.f k b.1).bind fun t => (lapidaryref14_Same.f k t d.1).bind fun u => if u = true then some (b.2 == d.2) else some false) (fun k => by rw [if_pos rfl]; exact (if_pos hc.1).trans (if_pos hc.2)) ?_
  generalize s.extract 0 (mn (s.size : Int) 2100).toNat = t
  have hl := splitV_len t
  refine Ev.bind (split_ev t) (Ev.bind (rsplit_ev t) (Ev.bind (back_f _ (by omega)) (Ev.bind (same_f _ (by omega)) ?_)))
  refine Ev.congr (fun k => ?_) (Ev.now true)
  simp
theorem lexSplits_walk (s : ByteArray) (w : World) (hE : UEnv w) : Calls Tryd.prog 3 #[.string s] w fun e w' => e = .returned (.bool true) ∧ Below w.heap.size w w' := by
  obtain ⟨k, h⟩ := (lexSplits_ev s).rounds
  exact lapidarylaw14_LexSplits.calls k s true w hE h
end Go.Proofs.YtfbikpddpdkllaaDoor
