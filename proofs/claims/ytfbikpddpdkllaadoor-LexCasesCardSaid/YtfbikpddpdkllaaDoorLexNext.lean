/-
  The contract of lex.next: the token in front, how many bytes it has, the error. Conditions: the text is not empty and no longer than 4000 bytes; the library's tables are as laid.
-/
import Derived.Test.YtfbikpddpdkllaaDoorLexNextLaw
import Derived.Test.YtfbikpddpdkllaaDoorLexText
import Derived.Test.YtfbikpddpdkllaaDoorLexRightW
import Derived.Test.YtfbikpddpdkllaaDoorLexReads
import Derived.Test.YtfbikpddpdkllaaDoorLx0
namespace Go.Proofs.YtfbikpddpdkllaaDoor
open Go.RowKit
set_option linter.unusedVariables false
set_option linter.unusedSimpArgs false

def nextVal (x : Tok × Nat × Int) : Value := .tuple #[.agg #[.int .u8 x.1.k, .string ⟨x.1.s.toArray⟩, .int .i64 x.1.n], .int .i64 (x.2.1 : Nat), .int .i64 x.2.2]
theorem head_at (s : ByteArray) (h : 0 < s.size) : s.data.toList = s[0] :: s.data.toList.drop 1 := by
  have := List.drop_eq_getElem_cons (l := s.data.toList) (i := 0) (by simpa using h)
  rw [List.drop_zero] at this
  exact this
theorem map_is {l : List UInt8} {t : ByteArray} (ht : t.data.toList = l) (hl : Lib.mapD smallR l = l.map lowB) (w : World) (hE : UEnv w) (hs : t.size ≤ 4000) :
    Calls Tryd.prog 36 #[.func (.func 37) #[] #[], .string t] w fun e w' => e = .returned (.string ⟨(l.map lowB).toArray⟩) ∧ Below w.heap.size w w' := by
  have := Tryd.strings_Map_runes 37 #[] (fun args w => by kernel_rfl) smallR t w (by omega) (fun W x hx hb => by
    refine (small_any (x : Int) W (by omega) (by omega)).mono ?_
    rintro e w' ⟨rfl, rfl⟩
    exact ⟨rfl, 0, rfl⟩) (fun x hx => by unfold smallR; split <;> omega) hE
  rwa [ht, hl] at this
/-- the token's box lies in a new block -/
structure Boxed (w W : World) : Prop where
  b : Below w.heap.size w W
  z : w.heap.size < W.heap.size
  c0 : W.cell? ⟨w.heap.size, 0, none⟩ = some (.int .u8 0)
  c1 : W.cell? ⟨w.heap.size, 1, none⟩ = some (.string ⟨#[]⟩)
  c2 : W.cell? ⟨w.heap.size, 2, none⟩ = some (.int .i64 0)
  f0 : W.frozen? ⟨w.heap.size, 0, none⟩ = false
  f1 : W.frozen? ⟨w.heap.size, 1, none⟩ = false
  f2 : W.frozen? ⟨w.heap.size, 2, none⟩ = false
theorem Boxed.new (w : World) : Boxed w (w.alloc (.cells #[.int .u8 0, .string ⟨#[]⟩, .int .i64 0] 36)) where
  b := below1 _ _
  z := by simp
  c0 := by simp [go_sem]
  c1 := by simp [go_sem]
  c2 := by simp [go_sem]
  f0 := by simp [go_sem]
  f1 := by simp [go_sem]
  f2 := by simp [go_sem]
theorem Boxed.step {w W W' : World} (h : Boxed w W) (k : Below W.heap.size W W') : Boxed w W' where
  b := below_thenw h.b k
  z := Nat.lt_of_lt_of_le h.z k.size
  c0 := keep k h.c0
  c1 := keep k h.c1
  c2 := keep k h.c2
  f0 := (k.frozen (p := ⟨w.heap.size, 0, none⟩) h.z).trans h.f0
  f1 := (k.frozen (p := ⟨w.heap.size, 1, none⟩) h.z).trans h.f1
  f2 := (k.frozen (p := ⟨w.heap.size, 2, none⟩) h.z).trans h.f2
theorem Boxed.end_ {w W : World} (h : Boxed w W) (a b c : Value) : Below w.heap.size w (((W.setCell ⟨w.heap.size, 0, none⟩ a).setCell ⟨w.heap.size, 1, none⟩ b).setCell ⟨w.heap.size, 2, none⟩ c) :=
  ((h.b.setCell (by simp) _).setCell (by simp) _).setCell (by simp) _
theorem ret_next {x : Tok × Nat × Int} {k : Int} {s : ByteArray} {n m e : Int} (h : x = (⟨k, s.data.toList, n⟩, m.toNat, e)) (hm : 0 ≤ m) : Ending.returned (.tuple #[.agg #[.int .u8 k, .string s, .int .i64 n], .int .i64 m, .int .i64 e]) = .returned (nextVal x) := by
  subst h
  unfold nextVal
  rw [Int.toNat_of_nonneg hm]
theorem next_word (s : ByteArray) (w : World) (h1 : 0 < s.size) (hs : s.size ≤ 4000) (hE : UEnv w) (hc : isLet s[0] = true) :
    Calls Tryd.prog 17 #[.string s] w fun e w' => e = .returned (nextVal (nextL s.data.toList)) ∧ Below w.heap.size w w' := by
  have hd : Lib.decodeGo s = ((Utf8.decode s 0).1, (Utf8.decode s 0).2) := by unfold Lib.decodeGo; rw [if_neg (by omega)]
  have HD := Lib.hid hd
  have HL := Lib.hid ((rune_let s 0 h1).trans hc)
  have hn := nextL_word (c := s[0]) (r := s.data.toList.drop 1) hc
  rw [← head_at s h1] at hn
  have HN := Lib.hid hn
  obtain ⟨n, hnn⟩ : ∃ n, n = runLen isWd s.data.toList := ⟨_, rfl⟩
  have hn4 : n ≤ s.size := by have := runLen_le isWd s.data.toList; rw [hnn]; simpa using this
  have hsl : (s.extract 0 n).data.toList = s.data.toList.take (runLen isWd s.data.toList) := by rw [Lib.extract_data, List.drop_zero, Nat.sub_zero, hnn]
  have HS := Lib.hid hsl
  have hse : (s.extract 0 n).size ≤ 4000 := by rw [ByteArray.size_extract]; omega
  have HNN := Lib.hid hnn
  clear hd hn hsl hc hnn
  go_enter Tryd.func17, Tryd.ntmps17
  go_wp2_with fail
  have HB := Boxed.new w
  generalize w.alloc (.cells #[.int .u8 0, .string ⟨#[]⟩, .int .i64 0] 36) = W0 at *
  refine (dec_is HD.out _ (hE.below HB.b)).mono ?_
  rintro e w1 ⟨rfl, hb⟩
  replace HB := HB.step hb
  clear hb
  go_wp2_with fail
  refine (letter_is HL.out _).mono ?_
  rintro e w' ⟨rfl, rfl⟩
  go_wp2_with fail
  refine (while_word s _ (by omega)).mono ?_
  rintro e w2 ⟨rfl, hb⟩
  replace HB := HB.step hb
  clear hb
  rw [← HNN.out]
  go_wp2_with fail
  refine (map_is HS.out (map_word _) _ (hE.below HB.b) hse).mono ?_
  rintro e w3 ⟨rfl, hb⟩
  replace HB := HB.step hb
  clear hb
  obtain ⟨q0, q1, q2, q3, q4, q5, q6, q7⟩ := HB
  have HB : Boxed w w3 := ⟨q0, q1, q2, q3, q4, q5, q6, q7⟩
  go_wp2_with fail
  refine bodyPost_ret (v := .tuple #[.agg #[.int .u8 1, .string ⟨((s.data.toList.take (runLen isWd s.data.toList)).map lowB).toArray⟩, .int .i64 0], .int .i64 n, .int .i64 0]) (by simp [results, Tryd.results17, go_sem, *]) rfl ⟨ret_next ?_ (by omega), HB.end_ _ _ _⟩
  rw [HN.out, HNN.out]
  simp
theorem read_is {t : ByteArray} {v e : Int} (hv : readV t.data.toList = v) (he : readE t.data.toList = e) (w : World) (hs : t.size ≤ 4000) :
    Calls Tryd.prog 38 #[.string t] w fun x w' => x = .returned (.tuple #[.int .i64 v, .int .i64 e]) ∧ Below w.heap.size w w' := hv ▸ he ▸ read_any t w (by omega)
theorem next_num (s : ByteArray) (w : World) (h1 : 0 < s.size) (hs : s.size ≤ 4000) (hE : UEnv w) (hc : isLet s[0] = false) (hc2 : isDig s[0] = true) :
    Calls Tryd.prog 17 #[.string s] w fun e w' => e = .returned (nextVal (nextL s.data.toList)) ∧ Below w.heap.size w w' := by
  have hd : Lib.decodeGo s = ((Utf8.decode s 0).1, (Utf8.decode s 0).2) := by unfold Lib.decodeGo; rw [if_neg (by omega)]
  have HD := Lib.hid hd
  have HL := Lib.hid ((rune_let s 0 h1).trans hc)
  have HG := Lib.hid ((rune_dig s 0 h1).trans hc2)
  have hn := nextL_num (c := s[0]) (r := s.data.toList.drop 1) hc hc2
  rw [← head_at s h1] at hn
  obtain ⟨n, hnn⟩ : ∃ n, n = runLen isDig s.data.toList := ⟨_, rfl⟩
  rw [← hnn] at hn
  have hn4 : n ≤ s.size := by have := runLen_le isDig s.data.toList; rw [hnn]; simpa using this
  have hsl : (s.extract 0 n).data.toList = s.data.toList.take n := by rw [Lib.extract_data, List.drop_zero, Nat.sub_zero]
  have hse : (s.extract 0 n).size ≤ 4000 := by rw [ByteArray.size_extract]; omega
  rw [← hsl] at hn
  obtain ⟨v, hv⟩ : ∃ v, readV (s.extract 0 n).data.toList = v := ⟨_, rfl⟩
  obtain ⟨er, her⟩ : ∃ er, readE (s.extract 0 n).data.toList = er := ⟨_, rfl⟩
  rw [hv, her] at hn
  have HV := Lib.hid hv
  have HR := Lib.hid her
  have HN := Lib.hid hn
  have HNN := Lib.hid hnn
  clear hd hn hsl hc hc2 hnn hv her
  go_enter Tryd.func17, Tryd.ntmps17
  go_wp2_with fail
  have HB := Boxed.new w
  generalize w.alloc (.cells #[.int .u8 0, .string ⟨#[]⟩, .int .i64 0] 36) = W0 at *
  refine (dec_is HD.out _ (hE.below HB.b)).mono ?_
  rintro e w1 ⟨rfl, hb⟩
  replace HB := HB.step hb
  clear hb
  go_wp2_with fail
  refine (letter_is HL.out _).mono ?_
  rintro e w' ⟨rfl, rfl⟩
  go_wp2_with fail
  refine (digit_is HG.out _).mono ?_
  rintro e w' ⟨rfl, rfl⟩
  go_wp2_with fail
  refine (while_dig s _ (by omega)).mono ?_
  rintro e w2 ⟨rfl, hb⟩
  replace HB := HB.step hb
  clear hb
  rw [← HNN.out]
  go_wp2_with fail
  refine (read_is HV.out HR.out _ hse).mono ?_
  rintro e w3 ⟨rfl, hb⟩
  replace HB := HB.step hb
  clear hb
  obtain ⟨q0, q1, q2, q3, q4, q5, q6, q7⟩ := HB
  have HB : Boxed w w3 := ⟨q0, q1, q2, q3, q4, q5, q6, q7⟩
  go_wp2_with fail
  refine bodyPost_ret (v := .tuple #[.agg #[.int .u8 2, .string ⟨#[]⟩, .int .i64 v], .int .i64 n, .int .i64 er]) (by simp [results, Tryd.results17, go_sem, *]) rfl ⟨ret_next ?_ (by omega), HB.end_ _ _ _⟩
  rw [HN.out]
  simp
theorem sign_is (s : ByteArray) (w : World) (h1 : 0 < s.size) {n : Nat} (h : signL s.data.toList = n) :
    Calls Tryd.prog 42 #[.string s] w fun e w' => e = .returned (.int .i64 (n : Int)) ∧ Below w.heap.size w w' := by
  refine (Lx.lex_sign.calls 1 s (n : Int) w (by rw [sign_f s h1, h])).mono ?_
  rintro e w' ⟨rfl, hb⟩
  exact ⟨rfl, hb.below⟩
theorem next_bad (s : ByteArray) (w : World) (h1 : 0 < s.size) (hs : s.size ≤ 4000) (hE : UEnv w) (hc : isLet s[0] = false) (hc2 : isDig s[0] = false) (hc3 : s[0] ≠ 39) (h6 : signL s.data.toList = 0) :
    Calls Tryd.prog 17 #[.string s] w fun e w' => e = .returned (nextVal (nextL s.data.toList)) ∧ Below w.heap.size w w' := by
  have hd : Lib.decodeGo s = ((Utf8.decode s 0).1, (Utf8.decode s 0).2) := by unfold Lib.decodeGo; rw [if_neg (by omega)]
  have HD := Lib.hid hd
  have HL := Lib.hid ((rune_let s 0 h1).trans hc)
  have HG := Lib.hid ((rune_dig s 0 h1).trans hc2)
  have hq := rune_39 s 0 h1 hc3
  have hn := nextL_bad (c := s[0]) (r := s.data.toList.drop 1) hc hc2 hc3 (by rw [← head_at s h1]; exact h6)
  rw [← head_at s h1] at hn
  have HN := Lib.hid hn
  obtain ⟨n, hnn⟩ : ∃ n, signL s.data.toList = n := ⟨_, rfl⟩
  have hn4 : n ≤ s.size := by have := signL_le s.data.toList; rw [← hnn]; simpa using this
  have HNN := Lib.hid hnn
  have H6 := Lib.hid h6
  clear hd hn hc hc2 hc3 hnn h6
  go_enter Tryd.func17, Tryd.ntmps17
  go_wp2_with fail
  have HB := Boxed.new w
  generalize w.alloc (.cells #[.int .u8 0, .string ⟨#[]⟩, .int .i64 0] 36) = W0 at *
  refine (dec_is HD.out _ (hE.below HB.b)).mono ?_
  rintro e w1 ⟨rfl, hb⟩
  replace HB := HB.step hb
  clear hb
  go_wp2_with fail
  refine (letter_is HL.out _).mono ?_
  rintro e w' ⟨rfl, rfl⟩
  go_wp2_with fail
  refine (digit_is HG.out _).mono ?_
  rintro e w' ⟨rfl, rfl⟩
  go_wp2_with fail
  refine (sign_is s _ h1 H6.out).mono ?_
  rintro e w2 ⟨rfl, hb⟩
  replace HB := HB.step hb
  clear hb
  obtain ⟨q0, q1, q2, q3, q4, q5, q6, q7⟩ := HB
  have HB : Boxed w w2 := ⟨q0, q1, q2, q3, q4, q5, q6, q7⟩
  go_wp2_with fail
  refine bodyPost_ret (v := .tuple #[.agg #[.int .u8 0, .string ⟨#[]⟩, .int .i64 0], .int .i64 0, .int .i64 4]) (by simp [results, Tryd.results17, go_sem, *]) rfl ⟨ret_next ?_ (by omega), HB.end_ _ _ _⟩
  rw [HN.out]
  rfl
theorem next_sign (s : ByteArray) (w : World) (h1 : 0 < s.size) (hs : s.size ≤ 4000) (hE : UEnv w) (hc : isLet s[0] = false) (hc2 : isDig s[0] = false) (hc3 : s[0] ≠ 39) (h6 : signL s.data.toList ≠ 0) :
    Calls Tryd.prog 17 #[.string s] w fun e w' => e = .returned (nextVal (nextL s.data.toList)) ∧ Below w.heap.size w w' := by
  have hd : Lib.decodeGo s = ((Utf8.decode s 0).1, (Utf8.decode s 0).2) := by unfold Lib.decodeGo; rw [if_neg (by omega)]
  have HD := Lib.hid hd
  have HL := Lib.hid ((rune_let s 0 h1).trans hc)
  have HG := Lib.hid ((rune_dig s 0 h1).trans hc2)
  have hq := rune_39 s 0 h1 hc3
  have hn := nextL_sign (c := s[0]) (r := s.data.toList.drop 1) hc hc2 hc3 (by rw [← head_at s h1]; exact h6)
  rw [← head_at s h1] at hn
  have HN := Lib.hid hn
  obtain ⟨n, hnn⟩ : ∃ n, signL s.data.toList = n := ⟨_, rfl⟩
  have hn4 : n ≤ s.size := by have := signL_le s.data.toList; rw [← hnn]; simpa using this
  have hn0 : 0 < n := by omega
  have hnz : ((n : Int) == 0) = false := beq_eq_false_iff_ne.2 (by omega)
  have HNN := Lib.hid hnn
  clear hd hn hc hc2 hc3 hnn h6
  go_enter Tryd.func17, Tryd.ntmps17
  go_wp2_with fail
  have HB := Boxed.new w
  generalize w.alloc (.cells #[.int .u8 0, .string ⟨#[]⟩, .int .i64 0] 36) = W0 at *
  refine (dec_is HD.out _ (hE.below HB.b)).mono ?_
  rintro e w1 ⟨rfl, hb⟩
  replace HB := HB.step hb
  clear hb
  go_wp2_with fail
  refine (letter_is HL.out _).mono ?_
  rintro e w' ⟨rfl, rfl⟩
  go_wp2_with fail
  refine (digit_is HG.out _).mono ?_
  rintro e w' ⟨rfl, rfl⟩
  go_wp2_with fail
  refine (sign_is s _ h1 HNN.out).mono ?_
  rintro e w2 ⟨rfl, hb⟩
  replace HB := HB.step hb
  clear hb
  obtain ⟨q0, q1, q2, q3, q4, q5, q6, q7⟩ := HB
  have HB : Boxed w w2 := ⟨q0, q1, q2, q3, q4, q5, q6, q7⟩
  go_wp2_with fail
  refine bodyPost_ret (v := .tuple #[.agg #[.int .u8 4, .string (s.extract 0 n), .int .i64 0], .int .i64 n, .int .i64 0]) (by simp [results, Tryd.results17, go_sem, *]) rfl ⟨ret_next ?_ (by omega), HB.end_ _ _ _⟩
  rw [HN.out, HNN.out]
  simp [Lib.extract_data]
theorem text_is {s : ByteArray} {t : List UInt8} {n : Nat} (h : textV (s.data.toList.drop 1) = (t, n)) (w : World) (h1 : 1 ≤ s.size) (hs : s.size ≤ 4000) (hE : UEnv w) :
    Calls Tryd.prog 39 #[.string s] w fun e w' => e = .returned (.tuple #[.string ⟨t.toArray⟩, .int .i64 (n : Int)]) ∧ Below w.heap.size w w' := by
  have := text_any s w h1 hs hE
  rwa [h] at this
theorem text_is2 {s t : ByteArray} {n : Nat} (h : textV (s.data.toList.drop 1) = (t.data.toList, n)) (w : World) (h1 : 1 ≤ s.size) (hs : s.size ≤ 4000) (hE : UEnv w) :
    Calls Tryd.prog 39 #[.string s] w fun e w' => e = .returned (.tuple #[.string t, .int .i64 (n : Int)]) ∧ Below w.heap.size w w' := by
  have := text_is h w h1 hs hE
  simpa using this
theorem next_open (s : ByteArray) (w : World) (h1 : 0 < s.size) (hs : s.size ≤ 4000) (hE : UEnv w) (hc : s[0] = 39) (ht : textL (s.data.toList.drop 1) = none) :
    Calls Tryd.prog 17 #[.string s] w fun e w' => e = .returned (nextVal (nextL s.data.toList)) ∧ Below w.heap.size w w' := by
  have hd : Lib.decodeGo s = ((Utf8.decode s 0).1, (Utf8.decode s 0).2) := by unfold Lib.decodeGo; rw [if_neg (by omega)]
  have HD := Lib.hid hd
  have hx39 : (Utf8.decode s 0).1 = 39 := by rw [decode_ascii s 0 h1 (by rw [hc]; decide), hc]; rfl
  have HL := Lib.hid (show letR ((Utf8.decode s 0).1 : Int) = false by rw [hx39]; decide)
  have HG := Lib.hid (show digR ((Utf8.decode s 0).1 : Int) = false by rw [hx39]; decide)
  have hq : (((Utf8.decode s 0).1 : Int) == 39) = true := by rw [hx39]; decide
  have HT := Lib.hid (textV_none ht)
  have hn := nextL_none ht
  rw [← hc, ← head_at s h1] at hn
  have HN := Lib.hid hn
  clear hd hn hc hx39 ht
  go_enter Tryd.func17, Tryd.ntmps17
  go_wp2_with fail
  have HB := Boxed.new w
  generalize w.alloc (.cells #[.int .u8 0, .string ⟨#[]⟩, .int .i64 0] 36) = W0 at *
  refine (dec_is HD.out _ (hE.below HB.b)).mono ?_
  rintro e w1 ⟨rfl, hb⟩
  replace HB := HB.step hb
  clear hb
  go_wp2_with fail
  refine (letter_is HL.out _).mono ?_
  rintro e w' ⟨rfl, rfl⟩
  go_wp2_with fail
  refine (digit_is HG.out _).mono ?_
  rintro e w' ⟨rfl, rfl⟩
  go_wp2_with fail
  refine (text_is HT.out w1 (by omega) hs (hE.below HB.b)).mono ?_
  rintro e w2 ⟨rfl, hb⟩
  replace HB := HB.step hb
  clear hb
  replace HB := HB.step (below1 w2 (.cells #[.int .u8 2, .int .i64 0, .string ⟨#[]⟩, .bool false] 53))
  obtain ⟨q0, q1, q2, q3, q4, q5, q6, q7⟩ := HB
  have HB : Boxed w (w2.alloc (.cells #[.int .u8 2, .int .i64 0, .string ⟨#[]⟩, .bool false] 53)) := ⟨q0, q1, q2, q3, q4, q5, q6, q7⟩
  go_wp2_with fail
  refine bodyPost_ret (v := .tuple #[.agg #[.int .u8 0, .string ⟨#[]⟩, .int .i64 0], .int .i64 0, .int .i64 4]) (by simp [results, Tryd.results17, go_sem, *]) rfl ⟨ret_next ?_ (by omega), HB.end_ _ _ _⟩
  rw [HN.out]
  rfl
theorem next_broken (s : ByteArray) (w : World) (h1 : 0 < s.size) (hs : s.size ≤ 4000) (hE : UEnv w) (hc : s[0] = 39) (x : List UInt8 × Nat) (ht : textL (s.data.toList.drop 1) = some x) (hv : Lib.validD x.1 = false) :
    Calls Tryd.prog 17 #[.string s] w fun e w' => e = .returned (nextVal (nextL s.data.toList)) ∧ Below w.heap.size w w' := by
  have hd : Lib.decodeGo s = ((Utf8.decode s 0).1, (Utf8.decode s 0).2) := by unfold Lib.decodeGo; rw [if_neg (by omega)]
  have HD := Lib.hid hd
  have hx39 : (Utf8.decode s 0).1 = 39 := by rw [decode_ascii s 0 h1 (by rw [hc]; decide), hc]; rfl
  have HL := Lib.hid (show letR ((Utf8.decode s 0).1 : Int) = false by rw [hx39]; decide)
  have HG := Lib.hid (show digR ((Utf8.decode s 0).1 : Int) = false by rw [hx39]; decide)
  have hq : (((Utf8.decode s 0).1 : Int) == 39) = true := by rw [hx39]; decide
  have HT := Lib.hid (textV_some ht)
  have hn := nextL_text ht
  rw [← hc, ← head_at s h1] at hn
  have hlen := textL_some ht
  have htl : (⟨x.1.toArray⟩ : ByteArray).size ≤ 4000 := by
    have h5 : (⟨x.1.toArray⟩ : ByteArray).size = x.1.length := by simp [ByteArray.size]
    rw [h5]
    rw [List.length_drop] at hlen
    have h6 : s.data.toList.length = s.size := by simp
    omega
  have hnz : (((x.2 + 1 : Nat) : Int) == 0) = false := beq_eq_false_iff_ne.2 (by omega)
  obtain ⟨t, htt⟩ : ∃ t : ByteArray, t = ⟨x.1.toArray⟩ := ⟨_, rfl⟩
  have htd : t.data.toList = x.1 := by rw [htt]
  have hw : wholeL x.1 = (Lib.validD t.data.toList && decide (Lib.indexByte t.data.toList 0 < 0)) := by unfold wholeL; rw [← htt]; exact whole_eq t
  obtain ⟨n, hnn⟩ : ∃ n, n = x.2 + 1 := ⟨_, rfl⟩
  rw [← hnn] at hn hnz
  rw [← htt] at htl
  have HT2 : Hid (textV (s.data.toList.drop 1) = (t.data.toList, n)) := Lib.hid (by rw [htd, hnn]; exact HT.out)
  clear HT
  have HT := HT2
  clear HT2
  rw [← htd] at hv
  rw [textT_bad (by rw [hw, hv]; rfl)] at hn
  have HN := Lib.hid hn
  have HVD := Lib.hid hv
  clear hd hn hc hx39 ht hw htd hv hnn htt hlen
  go_enter Tryd.func17, Tryd.ntmps17
  go_wp2_with fail
  have HB := Boxed.new w
  generalize w.alloc (.cells #[.int .u8 0, .string ⟨#[]⟩, .int .i64 0] 36) = W0 at *
  refine (dec_is HD.out _ (hE.below HB.b)).mono ?_
  rintro e w1 ⟨rfl, hb⟩
  replace HB := HB.step hb
  clear hb
  go_wp2_with fail
  refine (letter_is HL.out _).mono ?_
  rintro e w' ⟨rfl, rfl⟩
  go_wp2_with fail
  refine (digit_is HG.out _).mono ?_
  rintro e w' ⟨rfl, rfl⟩
  go_wp2_with fail
  refine (text_is2 HT.out w1 (by omega) hs (hE.below HB.b)).mono ?_
  rintro e w2 ⟨rfl, hb⟩
  replace HB := HB.step hb
  clear hb
  replace HB := HB.step (below1 w2 (.cells #[.int .u8 2, .int .i64 0, .string t, .bool false] 53))
  obtain ⟨q0, q1, q2, q3, q4, q5, q6, q7⟩ := HB
  have HB : Boxed w (w2.alloc (.cells #[.int .u8 2, .int .i64 0, .string t, .bool false] 53)) := ⟨q0, q1, q2, q3, q4, q5, q6, q7⟩
  go_wp2_with fail
  refine (valid_is HVD.out _ htl (hE.below HB.b)).mono ?_
  rintro e w3 ⟨rfl, hb⟩
  clear q0 q1 q2 q3 q4 q5 q6 q7
  replace HB := HB.step hb
  clear hb
  obtain ⟨q0, q1, q2, q3, q4, q5, q6, q7⟩ := HB
  have HB : Boxed w w3 := ⟨q0, q1, q2, q3, q4, q5, q6, q7⟩
  go_wp2_with fail
  refine bodyPost_ret (v := .tuple #[.agg #[.int .u8 0, .string ⟨#[]⟩, .int .i64 0], .int .i64 0, .int .i64 4]) (by simp [results, Tryd.results17, go_sem, *]) rfl ⟨ret_next ?_ (by omega), HB.end_ _ _ _⟩
  rw [HN.out]
  rfl
theorem next_nought (s : ByteArray) (w : World) (h1 : 0 < s.size) (hs : s.size ≤ 4000) (hE : UEnv w) (hc : s[0] = 39) (x : List UInt8 × Nat) (ht : textL (s.data.toList.drop 1) = some x) (hv : Lib.validD x.1 = true) (m : Int) (hm : Lib.indexByte x.1 0 = m) (hm0 : 0 ≤ m) :
    Calls Tryd.prog 17 #[.string s] w fun e w' => e = .returned (nextVal (nextL s.data.toList)) ∧ Below w.heap.size w w' := by
  have hd : Lib.decodeGo s = ((Utf8.decode s 0).1, (Utf8.decode s 0).2) := by unfold Lib.decodeGo; rw [if_neg (by omega)]
  have HD := Lib.hid hd
  have hx39 : (Utf8.decode s 0).1 = 39 := by rw [decode_ascii s 0 h1 (by rw [hc]; decide), hc]; rfl
  have HL := Lib.hid (show letR ((Utf8.decode s 0).1 : Int) = false by rw [hx39]; decide)
  have HG := Lib.hid (show digR ((Utf8.decode s 0).1 : Int) = false by rw [hx39]; decide)
  have hq : (((Utf8.decode s 0).1 : Int) == 39) = true := by rw [hx39]; decide
  have HT := Lib.hid (textV_some ht)
  have hn := nextL_text ht
  rw [← hc, ← head_at s h1] at hn
  have hlen := textL_some ht
  have htl : (⟨x.1.toArray⟩ : ByteArray).size ≤ 4000 := by
    have h5 : (⟨x.1.toArray⟩ : ByteArray).size = x.1.length := by simp [ByteArray.size]
    rw [h5]
    rw [List.length_drop] at hlen
    have h6 : s.data.toList.length = s.size := by simp
    omega
  have hnz : (((x.2 + 1 : Nat) : Int) == 0) = false := beq_eq_false_iff_ne.2 (by omega)
  obtain ⟨t, htt⟩ : ∃ t : ByteArray, t = ⟨x.1.toArray⟩ := ⟨_, rfl⟩
  have htd : t.data.toList = x.1 := by rw [htt]
  have hw : wholeL x.1 = (Lib.validD t.data.toList && decide (Lib.indexByte t.data.toList 0 < 0)) := by unfold wholeL; rw [← htt]; exact whole_eq t
  obtain ⟨n, hnn⟩ : ∃ n, n = x.2 + 1 := ⟨_, rfl⟩
  rw [← hnn] at hn hnz
  rw [← htt] at htl
  have HT2 : Hid (textV (s.data.toList.drop 1) = (t.data.toList, n)) := Lib.hid (by rw [htd, hnn]; exact HT.out)
  clear HT
  have HT := HT2
  clear HT2
  rw [← htd] at hv hm
  rw [textT_bad (by rw [hw, hv, hm, decide_eq_false (by omega)]; rfl)] at hn
  have HN := Lib.hid hn
  have HVD := Lib.hid hv
  have HI := Lib.hid hm
  clear hd hn hc hx39 ht hw htd hv hnn htt hlen hm
  go_enter Tryd.func17, Tryd.ntmps17
  go_wp2_with fail
  have HB := Boxed.new w
  generalize w.alloc (.cells #[.int .u8 0, .string ⟨#[]⟩, .int .i64 0] 36) = W0 at *
  refine (dec_is HD.out _ (hE.below HB.b)).mono ?_
  rintro e w1 ⟨rfl, hb⟩
  replace HB := HB.step hb
  clear hb
  go_wp2_with fail
  refine (letter_is HL.out _).mono ?_
  rintro e w' ⟨rfl, rfl⟩
  go_wp2_with fail
  refine (digit_is HG.out _).mono ?_
  rintro e w' ⟨rfl, rfl⟩
  go_wp2_with fail
  refine (text_is2 HT.out w1 (by omega) hs (hE.below HB.b)).mono ?_
  rintro e w2 ⟨rfl, hb⟩
  replace HB := HB.step hb
  clear hb
  replace HB := HB.step (below1 w2 (.cells #[.int .u8 2, .int .i64 0, .string t, .bool false] 53))
  obtain ⟨q0, q1, q2, q3, q4, q5, q6, q7⟩ := HB
  have HB : Boxed w (w2.alloc (.cells #[.int .u8 2, .int .i64 0, .string t, .bool false] 53)) := ⟨q0, q1, q2, q3, q4, q5, q6, q7⟩
  go_wp2_with fail
  refine (valid_is HVD.out _ htl (hE.below HB.b)).mono ?_
  rintro e w3 ⟨rfl, hb⟩
  clear q0 q1 q2 q3 q4 q5 q6 q7
  replace HB := HB.step hb
  go_wp2_with fail
  refine (index_is HI.out _).mono ?_
  rintro e w' ⟨rfl, rfl⟩
  clear hb
  obtain ⟨q0, q1, q2, q3, q4, q5, q6, q7⟩ := HB
  have HB : Boxed w w3 := ⟨q0, q1, q2, q3, q4, q5, q6, q7⟩
  go_wp2_with fail
  refine bodyPost_ret (v := .tuple #[.agg #[.int .u8 0, .string ⟨#[]⟩, .int .i64 0], .int .i64 0, .int .i64 4]) (by simp [results, Tryd.results17, go_sem, *]) rfl ⟨ret_next ?_ (by omega), HB.end_ _ _ _⟩
  rw [HN.out]
  rfl
theorem next_long (s : ByteArray) (w : World) (h1 : 0 < s.size) (hs : s.size ≤ 4000) (hE : UEnv w) (hc : s[0] = 39) (x : List UInt8 × Nat) (ht : textL (s.data.toList.drop 1) = some x) (hv : Lib.validD x.1 = true) (m : Int) (hm : Lib.indexByte x.1 0 = m) (hm0 : m < 0) (hl : 60 < x.1.length) :
    Calls Tryd.prog 17 #[.string s] w fun e w' => e = .returned (nextVal (nextL s.data.toList)) ∧ Below w.heap.size w w' := by
  have hd : Lib.decodeGo s = ((Utf8.decode s 0).1, (Utf8.decode s 0).2) := by unfold Lib.decodeGo; rw [if_neg (by omega)]
  have HD := Lib.hid hd
  have hx39 : (Utf8.decode s 0).1 = 39 := by rw [decode_ascii s 0 h1 (by rw [hc]; decide), hc]; rfl
  have HL := Lib.hid (show letR ((Utf8.decode s 0).1 : Int) = false by rw [hx39]; decide)
  have HG := Lib.hid (show digR ((Utf8.decode s 0).1 : Int) = false by rw [hx39]; decide)
  have hq : (((Utf8.decode s 0).1 : Int) == 39) = true := by rw [hx39]; decide
  have HT := Lib.hid (textV_some ht)
  have hn := nextL_text ht
  rw [← hc, ← head_at s h1] at hn
  have hlen := textL_some ht
  have htl : (⟨x.1.toArray⟩ : ByteArray).size ≤ 4000 := by
    have h5 : (⟨x.1.toArray⟩ : ByteArray).size = x.1.length := by simp [ByteArray.size]
    rw [h5]
    rw [List.length_drop] at hlen
    have h6 : s.data.toList.length = s.size := by simp
    omega
  have hnz : (((x.2 + 1 : Nat) : Int) == 0) = false := beq_eq_false_iff_ne.2 (by omega)
  obtain ⟨t, htt⟩ : ∃ t : ByteArray, t = ⟨x.1.toArray⟩ := ⟨_, rfl⟩
  have htd : t.data.toList = x.1 := by rw [htt]
  have hw : wholeL x.1 = (Lib.validD t.data.toList && decide (Lib.indexByte t.data.toList 0 < 0)) := by unfold wholeL; rw [← htt]; exact whole_eq t
  obtain ⟨n, hnn⟩ : ∃ n, n = x.2 + 1 := ⟨_, rfl⟩
  rw [← hnn] at hn hnz
  rw [← htt] at htl
  have HT2 : Hid (textV (s.data.toList.drop 1) = (t.data.toList, n)) := Lib.hid (by rw [htd, hnn]; exact HT.out)
  clear HT
  have HT := HT2
  clear HT2
  rw [← htd] at hv hm
  rw [textT_long (by rw [hw, hv, hm, decide_eq_true (by omega)]; rfl) hl] at hn
  have hl2 : 60 < (t.size : Int) := by rw [htt]; simp [ByteArray.size]; omega
  have HN := Lib.hid hn
  have HVD := Lib.hid hv
  have HI := Lib.hid hm
  clear hd hn hc hx39 ht hw htd hv hnn htt hlen hm hl
  go_enter Tryd.func17, Tryd.ntmps17
  go_wp2_with fail
  have HB := Boxed.new w
  generalize w.alloc (.cells #[.int .u8 0, .string ⟨#[]⟩, .int .i64 0] 36) = W0 at *
  refine (dec_is HD.out _ (hE.below HB.b)).mono ?_
  rintro e w1 ⟨rfl, hb⟩
  replace HB := HB.step hb
  clear hb
  go_wp2_with fail
  refine (letter_is HL.out _).mono ?_
  rintro e w' ⟨rfl, rfl⟩
  go_wp2_with fail
  refine (digit_is HG.out _).mono ?_
  rintro e w' ⟨rfl, rfl⟩
  go_wp2_with fail
  refine (text_is2 HT.out w1 (by omega) hs (hE.below HB.b)).mono ?_
  rintro e w2 ⟨rfl, hb⟩
  replace HB := HB.step hb
  clear hb
  replace HB := HB.step (below1 w2 (.cells #[.int .u8 2, .int .i64 0, .string t, .bool false] 53))
  obtain ⟨q0, q1, q2, q3, q4, q5, q6, q7⟩ := HB
  have HB : Boxed w (w2.alloc (.cells #[.int .u8 2, .int .i64 0, .string t, .bool false] 53)) := ⟨q0, q1, q2, q3, q4, q5, q6, q7⟩
  go_wp2_with fail
  refine (valid_is HVD.out _ htl (hE.below HB.b)).mono ?_
  rintro e w3 ⟨rfl, hb⟩
  clear q0 q1 q2 q3 q4 q5 q6 q7
  replace HB := HB.step hb
  go_wp2_with fail
  refine (index_is HI.out _).mono ?_
  rintro e w' ⟨rfl, rfl⟩
  have v0 : w3.cell? ⟨w2.heap.size, 0, none⟩ = some (.int .u8 2) := keep hb (by simp [go_sem])
  have v1 : w3.cell? ⟨w2.heap.size, 1, none⟩ = some (.int .i64 0) := keep hb (by simp [go_sem])
  have v2 : w3.cell? ⟨w2.heap.size, 2, none⟩ = some (.string t) := keep hb (by simp [go_sem])
  have v3 : w3.cell? ⟨w2.heap.size, 3, none⟩ = some (.bool false) := keep hb (by simp [go_sem])
  clear hb
  go_wp2_with fail
  refine (r2_l t _ (hE.below HB.b) hl2).mono ?_
  rintro e w4 ⟨rfl, hb⟩
  replace HB := HB.step hb
  clear hb v0 v1 v2 v3
  obtain ⟨q0, q1, q2, q3, q4, q5, q6, q7⟩ := HB
  have HB : Boxed w w4 := ⟨q0, q1, q2, q3, q4, q5, q6, q7⟩
  go_wp2_with fail
  refine bodyPost_ret (v := .tuple #[.agg #[.int .u8 0, .string ⟨#[]⟩, .int .i64 0], .int .i64 0, .int .i64 2]) (by simp [results, Tryd.results17, go_sem, *]) rfl ⟨ret_next ?_ (by omega), HB.end_ _ _ _⟩
  rw [HN.out]
  rfl
theorem next_text (s : ByteArray) (w : World) (h1 : 0 < s.size) (hs : s.size ≤ 4000) (hE : UEnv w) (hc : s[0] = 39) (x : List UInt8 × Nat) (ht : textL (s.data.toList.drop 1) = some x) (hv : Lib.validD x.1 = true) (m : Int) (hm : Lib.indexByte x.1 0 = m) (hm0 : m < 0) (hl : x.1.length ≤ 60) :
    Calls Tryd.prog 17 #[.string s] w fun e w' => e = .returned (nextVal (nextL s.data.toList)) ∧ Below w.heap.size w w' := by
  have hd : Lib.decodeGo s = ((Utf8.decode s 0).1, (Utf8.decode s 0).2) := by unfold Lib.decodeGo; rw [if_neg (by omega)]
  have HD := Lib.hid hd
  have hx39 : (Utf8.decode s 0).1 = 39 := by rw [decode_ascii s 0 h1 (by rw [hc]; decide), hc]; rfl
  have HL := Lib.hid (show letR ((Utf8.decode s 0).1 : Int) = false by rw [hx39]; decide)
  have HG := Lib.hid (show digR ((Utf8.decode s 0).1 : Int) = false by rw [hx39]; decide)
  have hq : (((Utf8.decode s 0).1 : Int) == 39) = true := by rw [hx39]; decide
  have HT := Lib.hid (textV_some ht)
  have hn := nextL_text ht
  rw [← hc, ← head_at s h1] at hn
  have hlen := textL_some ht
  have htl : (⟨x.1.toArray⟩ : ByteArray).size ≤ 4000 := by
    have h5 : (⟨x.1.toArray⟩ : ByteArray).size = x.1.length := by simp [ByteArray.size]
    rw [h5]
    rw [List.length_drop] at hlen
    have h6 : s.data.toList.length = s.size := by simp
    omega
  have hnz : (((x.2 + 1 : Nat) : Int) == 0) = false := beq_eq_false_iff_ne.2 (by omega)
  obtain ⟨t, htt⟩ : ∃ t : ByteArray, t = ⟨x.1.toArray⟩ := ⟨_, rfl⟩
  have htd : t.data.toList = x.1 := by rw [htt]
  have hw : wholeL x.1 = (Lib.validD t.data.toList && decide (Lib.indexByte t.data.toList 0 < 0)) := by unfold wholeL; rw [← htt]; exact whole_eq t
  obtain ⟨n, hnn⟩ : ∃ n, n = x.2 + 1 := ⟨_, rfl⟩
  rw [← hnn] at hn hnz
  rw [← htt] at htl
  have HT2 : Hid (textV (s.data.toList.drop 1) = (t.data.toList, n)) := Lib.hid (by rw [htd, hnn]; exact HT.out)
  clear HT
  have HT := HT2
  clear HT2
  rw [← htd] at hv hm
  rw [textT_ok (by rw [hw, hv, hm, decide_eq_true (by omega)]; rfl) hl, ← htd] at hn
  have hl2 : (t.size : Int) ≤ 60 := by rw [htt]; simp [ByteArray.size]; omega
  have HN := Lib.hid hn
  have HVD := Lib.hid hv
  have HI := Lib.hid hm
  clear hd hn hc hx39 ht hw htd hv hnn htt hlen hm hl
  go_enter Tryd.func17, Tryd.ntmps17
  go_wp2_with fail
  have HB := Boxed.new w
  generalize w.alloc (.cells #[.int .u8 0, .string ⟨#[]⟩, .int .i64 0] 36) = W0 at *
  refine (dec_is HD.out _ (hE.below HB.b)).mono ?_
  rintro e w1 ⟨rfl, hb⟩
  replace HB := HB.step hb
  clear hb
  go_wp2_with fail
  refine (letter_is HL.out _).mono ?_
  rintro e w' ⟨rfl, rfl⟩
  go_wp2_with fail
  refine (digit_is HG.out _).mono ?_
  rintro e w' ⟨rfl, rfl⟩
  go_wp2_with fail
  refine (text_is2 HT.out w1 (by omega) hs (hE.below HB.b)).mono ?_
  rintro e w2 ⟨rfl, hb⟩
  replace HB := HB.step hb
  clear hb
  replace HB := HB.step (below1 w2 (.cells #[.int .u8 2, .int .i64 0, .string t, .bool false] 53))
  obtain ⟨q0, q1, q2, q3, q4, q5, q6, q7⟩ := HB
  have HB : Boxed w (w2.alloc (.cells #[.int .u8 2, .int .i64 0, .string t, .bool false] 53)) := ⟨q0, q1, q2, q3, q4, q5, q6, q7⟩
  go_wp2_with fail
  refine (valid_is HVD.out _ htl (hE.below HB.b)).mono ?_
  rintro e w3 ⟨rfl, hb⟩
  clear q0 q1 q2 q3 q4 q5 q6 q7
  replace HB := HB.step hb
  go_wp2_with fail
  refine (index_is HI.out _).mono ?_
  rintro e w' ⟨rfl, rfl⟩
  have v0 : w3.cell? ⟨w2.heap.size, 0, none⟩ = some (.int .u8 2) := keep hb (by simp [go_sem])
  have v1 : w3.cell? ⟨w2.heap.size, 1, none⟩ = some (.int .i64 0) := keep hb (by simp [go_sem])
  have v2 : w3.cell? ⟨w2.heap.size, 2, none⟩ = some (.string t) := keep hb (by simp [go_sem])
  have v3 : w3.cell? ⟨w2.heap.size, 3, none⟩ = some (.bool false) := keep hb (by simp [go_sem])
  clear hb
  go_wp2_with fail
  refine (r2_ok t _ (hE.below HB.b) hl2 HVD m HI hm0).mono ?_
  rintro e w4 ⟨rfl, hb⟩
  replace HB := HB.step hb
  clear hb v0 v1 v2 v3
  obtain ⟨q0, q1, q2, q3, q4, q5, q6, q7⟩ := HB
  have HB : Boxed w w4 := ⟨q0, q1, q2, q3, q4, q5, q6, q7⟩
  go_wp2_with fail
  refine bodyPost_ret (v := .tuple #[.agg #[.int .u8 3, .string t, .int .i64 0], .int .i64 n, .int .i64 0]) (by simp [results, Tryd.results17, go_sem, *]) rfl ⟨ret_next ?_ (by omega), HB.end_ _ _ _⟩
  rw [HN.out]
  simp
theorem next_any (s : ByteArray) (w : World) (h1 : 0 < s.size) (hs : s.size ≤ 4000) (hE : UEnv w) :
    Calls Tryd.prog 17 #[.string s] w fun e w' => e = .returned (nextVal (nextL s.data.toList)) ∧ Below w.heap.size w w' := by
  cases hc : isLet s[0] with
  | true => exact next_word s w h1 hs hE hc
  | false =>
    cases hc2 : isDig s[0] with
    | true => exact next_num s w h1 hs hE hc hc2
    | false =>
      by_cases hc3 : s[0] = 39
      · cases ht : textL (s.data.toList.drop 1) with
        | none => exact next_open s w h1 hs hE hc3 ht
        | some x =>
          cases hv : Lib.validD x.1 with
          | false => exact next_broken s w h1 hs hE hc3 x ht hv
          | true =>
            by_cases hm : Lib.indexByte x.1 0 < 0
            · by_cases hl : 60 < x.1.length
              · exact next_long s w h1 hs hE hc3 x ht hv _ rfl hm hl
              · exact next_text s w h1 hs hE hc3 x ht hv _ rfl hm (by omega)
            · exact next_nought s w h1 hs hE hc3 x ht hv _ rfl (by omega)
      · by_cases h6 : signL s.data.toList = 0
        · exact next_bad s w h1 hs hE hc hc2 hc3 h6
        · exact next_sign s w h1 hs hE hc hc2 hc3 h6
end Go.Proofs.YtfbikpddpdkllaaDoor
namespace Go.Proofs.YtfbikpddpdkllaaDoor.Lx
open Go.RowKit Go.Proofs.YtfbikpddpdkllaaDoorW.PrintWords
def lex_next.f (a0 : ByteArray) : Option (Int × ByteArray × Int × Int × Int) :=
  if 0 < a0.size ∧ a0.size ≤ 4000 then some ((nextL a0.data.toList).1.k, ⟨(nextL a0.data.toList).1.s.toArray⟩, (nextL a0.data.toList).1.n, ((nextL a0.data.toList).2.1 : Nat), (nextL a0.data.toList).2.2) else none
theorem lex_next.calls (a0 : ByteArray) (r1 : Int) (r2 : ByteArray) (r3 r4 r5 : Int) (w : World) (hE : UEnv w) (h : lex_next.f a0 = some (r1, r2, r3, r4, r5)) :
    Calls Tryd.prog 17 #[.string a0] w fun e w' => e = .returned (.tuple #[.agg #[.int .u8 r1, .string r2, .int .i64 r3], .int .i64 r4, .int .i64 r5]) ∧ Below w.heap.size w w' := by
  unfold lex_next.f at h
  by_cases hs : 0 < a0.size ∧ a0.size ≤ 4000
  · rw [if_pos hs] at h
    have e := Option.some.inj h
    simp only [Prod.mk.injEq] at e
    obtain ⟨rfl, rfl, rfl, rfl, rfl⟩ := e
    exact next_any a0 w hs.1 hs.2 hE
  · rw [if_neg hs] at h; cases h
end Go.Proofs.YtfbikpddpdkllaaDoor.Lx
