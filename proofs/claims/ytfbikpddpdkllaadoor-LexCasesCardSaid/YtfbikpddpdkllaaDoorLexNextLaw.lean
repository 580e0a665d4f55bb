/-
  Plain law of the lexer's small parts: strings.Map at a word is 'lowB' byte by byte; the printed sign is 'signL'. No conditions.
-/
import Derived.Test.YtfbikpddpdkllaaDoorLexPlain
import Derived.Test.YtfbikpddpdkllaaDoorLexWhile
import Derived.Test.YtfbikpddpdkllaaDoorLxF42
namespace Go.Proofs.YtfbikpddpdkllaaDoor
open Go.RowKit Go.Proofs.YtfbikpddpdkllaaDoor.Lx Go.Proofs.YtfbikpddpdkllaaDoorW.PrintWords
set_option linter.unusedVariables false
set_option linter.unusedSimpArgs false

def smallR (r : Int) : Int := if 65 ≤ r ∧ r ≤ 90 then r + 32 else r
theorem small_any (r : Int) (w : World) (h0 : 0 ≤ r) (h1 : r ≤ 1114111) : Calls Tryd.prog 37 #[.int .i32 r] w fun e w' => e = .returned (.int .i32 (smallR r)) ∧ w = w' := by
  unfold smallR
  by_cases h2 : 65 ≤ r
  · by_cases h3 : r ≤ 90
    · rw [if_pos ⟨h2, h3⟩]
      go_enter Tryd.func37, Tryd.ntmps37
      go_wp2
      go_ret
      exact ⟨ret_int2 (by omega), rfl⟩
    · rw [if_neg (fun h => h3 h.2)]
      go_enter Tryd.func37, Tryd.ntmps37
      go_wp2
      go_ret
      exact ⟨rfl, rfl⟩
  · rw [if_neg (fun h => h2 h.1)]
    go_enter Tryd.func37, Tryd.ntmps37
    go_wp2
    go_ret
    exact ⟨rfl, rfl⟩
theorem smallR_byte (c : UInt8) (h : c.toNat < 128) : Lib.encodeRune (smallR (c.toNat : Int)) = [lowB c] := by
  unfold smallR lowB Lib.encodeRune
  by_cases h1 : 65 ≤ c.toNat ∧ c.toNat ≤ 90
  · rw [if_pos (by omega), if_pos h1, Lib.encodeRuneZ_one (by omega) (by omega)]
    have : ((c.toNat : Int) + 32).toNat.toUInt8 = c + 32 := by
      apply UInt8.toNat_inj.1
      have : ((c.toNat : Int) + 32).toNat = c.toNat + 32 := by omega
      rw [this]
      simp [UInt8.toNat_add]
    simp [this]
  · rw [if_neg (by omega), if_neg h1, Lib.encodeRuneZ_one (by omega) (by omega)]
    simp
theorem mapD_ascii : ∀ l : List UInt8, (∀ c ∈ l, c.toNat < 128) → Lib.mapD smallR l = l.map lowB
  | [], _ => rfl
  | c :: l, h => by
    have hc := h c (by simp)
    rw [Lib.mapD_step smallR (c :: l) (by simp), Lib.decodeL_ascii c l hc, if_pos (by unfold smallR; split <;> omega), smallR_byte c hc]
    simp only [List.drop_succ_cons, List.drop_zero, List.map_cons]
    rw [mapD_ascii l (fun x hx => h x (by simp [hx]))]
    rfl
theorem mem_run (p : UInt8 → Bool) : ∀ (l : List UInt8) (c : UInt8), c ∈ l.takeWhile p → p c = true
  | [], c, h => by simp at h
  | a :: l, c, h => by
    by_cases ha : p a = true
    · rw [List.takeWhile_cons_of_pos ha] at h
      rcases List.mem_cons.1 h with rfl | h
      · exact ha
      · exact mem_run p l c h
    · rw [List.takeWhile_cons_of_neg ha] at h
      simp at h
theorem map_word (l : List UInt8) : Lib.mapD smallR (l.take (runLen isWd l)) = (l.take (runLen isWd l)).map lowB := by
  refine mapD_ascii _ fun c hc => ?_
  rw [take_run] at hc
  exact wd_low (mem_run isWd l c hc)

/-! ### the sign -/
theorem index_sign (c : UInt8) : (Lib.indexByte (⟨#[40, 41, 44, 59, 42, 43, 45, 47, 37, 61, 60, 62, 46]⟩ : ByteArray).data.toList ((c.toNat : Int)).toNat.toUInt8 ≥ 0) ↔ signs.contains c = true := by
  have h := Lib.contains_iff_indexByte signs c
  have e : ((c.toNat : Int)).toNat.toUInt8 = c := by simp
  rw [e]
  change 0 ≤ Lib.indexByte signs c ↔ _
  rw [h, decide_eq_true_iff]
theorem bt_zero (s : ByteArray) (c : UInt8) (r : List UInt8) (h : s.data.toList = c :: r) : bt s 0 = (c.toNat : Int) := by
  have hl : 0 < s.size := by
    have : s.data.toList.length = s.size := by simp
    rw [h] at this
    simp at this
    omega
  have h2 : s.data.toList[0]? = some s[0] := by rw [List.getElem?_eq_getElem (by simpa using hl)]; rfl
  rw [h] at h2
  have h3 : c = s[0] := by simpa using h2
  unfold bt
  rw [dif_pos (by simpa using hl), h3]
  rfl
theorem sign_one (s : ByteArray) (c : UInt8) (r : List UInt8) (h : s.data.toList = c :: r) :
    ((strings_IndexByte.f (⟨#[40, 41, 44, 59, 42, 43, 45, 47, 37, 61, 60, 62, 46]⟩ : ByteArray) (bt s 0)).bind fun t => if t ≥ 0 then some (1 : Int) else some 0) = some (if signs.contains c = true then 1 else 0) := by
  rw [bt_zero s c r h]
  unfold strings_IndexByte.f
  simp only [Option.bind_some]
  by_cases hc : signs.contains c = true
  · rw [if_pos hc, if_pos ((index_sign c).2 hc)]
  · rw [if_neg hc, if_neg (fun h => hc ((index_sign c).1 h))]
theorem size_list (s : ByteArray) (l : List UInt8) (h : s.data.toList = l) : s.size = l.length := by rw [← h]; simp
theorem j0_sign (k : Nat) (s : ByteArray) (c : UInt8) (r : List UInt8) (b : Bool) (h : s.data.toList = c :: r) : lex_sign.j0 (k + 1) s b = some (if b = true then 2 else if signs.contains c = true then 1 else 0) := by
  have hs := size_list s _ h
  rw [List.length_cons] at hs
  rw [lex_sign.j0]
  cases b with
  | true => rfl
  | false =>
    rw [if_neg (by decide), if_pos (by omega), if_neg (by decide)]
    exact sign_one s c r h
theorem sign_f (s : ByteArray) (h0 : 1 ≤ s.size) : lex_sign.f 1 s = some ((signL s.data.toList : Nat) : Int) := by
  unfold lex_sign.f
  cases hl : s.data.toList with
  | nil =>
    have := size_list s _ hl
    rw [List.length_nil] at this
    omega
  | cons c r =>
    have hs := size_list s _ hl
    cases r with
    | nil =>
      rw [if_neg (by simp at hs; omega), if_pos (by simp at hs; omega), sign_one s c [] hl]
      rw [signL]
      split <;> rfl
    | cons d r =>
      rw [List.length_cons, List.length_cons] at hs
      have he : (s.extract 0 2).toList = [c, d] := by
        rw [Lib.toList_data, Lib.extract_data, hl]
        rfl
      rw [if_pos (by omega), if_pos (by decide), if_pos (by omega), he, signL]
      have e2 : ∀ a b : UInt8, ([c, d] = ([a, b] : List UInt8)) ↔ (c = a ∧ d = b) := by simp
      have e3 : ∀ a b : UInt8, ([c, d] == ([a, b] : List UInt8)) = (decide (c = a) && decide (d = b)) := fun a b => by
        rw [Bool.eq_iff_iff]; simp
      rw [j0_sign 0 s c (d :: r) _ hl, j0_sign 0 s c (d :: r) _ hl, j0_sign 0 s c (d :: r) _ hl, e3, e3, e3]
      simp only [e2]
      unfold two
      by_cases a1 : c = 60
      · have a2 : c ≠ 62 := by rw [a1]; decide
        by_cases b1 : d = 61
        · have b2 : d ≠ 62 := by rw [b1]; decide
          simp [a1, b1]
        · by_cases b2 : d = 62
          · simp [a1, b2]
          · simp [a1, b1, b2]
            split <;> rfl
      · by_cases a2 : c = 62
        · by_cases b1 : d = 61
          · simp [a2, b1]
          · simp [a2, b1]
            split <;> rfl
        · simp [a1, a2]
          split <;> rfl
end Go.Proofs.YtfbikpddpdkllaaDoor
