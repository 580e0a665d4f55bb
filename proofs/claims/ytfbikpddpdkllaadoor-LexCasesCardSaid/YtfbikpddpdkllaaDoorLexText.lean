/-
  The contract of lex.text: what a text in front says, and how many bytes it has with its signs. Conditions: the text is not empty and no longer than 4000 bytes; the library's tables are as laid.
-/
import Derived.Test.YtfbikpddpdkllaaDoorLexPlain
import Derived.Test.YtfbikpddpdkllaaDoorLexWhile
import Derived.Test.YtfbikpddpdkllaaDoorLayB
import Derived.Lib.OthersKept
import Derived.Shelf.Strings.MapGrows
namespace Go.Proofs.YtfbikpddpdkllaaDoor
open Go.RowKit
set_option linter.unusedVariables false
set_option linter.unusedSimpArgs false

theorem tail_at (s : ByteArray) (pos : Nat) (h : pos < (s.extract 1 s.size).size) : (s.data.toList.drop 1)[pos]? = some ((s.extract 1 s.size)[pos]) := by
  rw [← Lib.extract_to_end, List.getElem?_eq_getElem (by simpa using h)]
  rfl
theorem byte_39 {c : UInt8} (h : c.toNat = 39) : c = 39 := UInt8.toNat_inj.1 h
theorem rune_39 (s : ByteArray) (pos : Nat) (h : pos < s.size) (hn : s[pos] ≠ 39) : (((Utf8.decode s pos).1 : Int) == 39) = false := by
  rw [beq_eq_false_iff_ne]
  by_cases ha : (s[pos]).toNat < 128
  · rw [decode_ascii s pos h ha]
    intro e
    have e : (((s[pos]).toNat : Nat) : Int) = 39 := e
    exact hn (byte_39 (by omega))
  · have := (decode_high s pos h (by omega)).1
    omega
theorem ret_sn {a b : ByteArray} {m n : Int} (h : a = b) (h' : m = n) : Ending.returned (.tuple #[.string a, .int .i64 m]) = .returned (.tuple #[.string b, .int .i64 n]) := by rw [h, h']
theorem decode_wd (s : ByteArray) (pos : Nat) (h : pos < s.size) : 1 ≤ (Utf8.decode s pos).2 ∧ pos + (Utf8.decode s pos).2 ≤ s.size := by
  have hl : s.data.toList.length = s.size := by simp
  have h1 := Lib.decodeL_le (s.data.toList.drop pos) (by intro e; have := congrArg List.length e; rw [List.length_drop] at this; simp at this; omega)
  rw [Lib.decodeL_drop, List.length_drop] at h1
  exact ⟨Lib.width_pos s pos, by omega⟩
theorem dec_is {s : ByteArray} {a n : Nat} (h : Lib.decodeGo s = (a, n)) (w : World) (hE : UEnv w) :
    Calls Tryd.prog 31 #[.string s] w fun e w' => e = .returned (.tuple #[.int .i32 (a : Int), .int .i64 (n : Int)]) ∧ Below w.heap.size w w' := by
  have := Tryd.utf8_DecodeRuneInString s w hE
  rwa [h] at this
theorem below_thenw {w w1 w2 : World} (h : Below w.heap.size w w1) (k : Below w1.heap.size w1 w2) : Below w.heap.size w w2 := h.trans (k.mono h.size)
theorem text_any (s : ByteArray) (w : World) (h1 : 1 ≤ s.size) (hs : s.size ≤ 4000) (hE : UEnv w) :
    Calls Tryd.prog 39 #[.string s] w fun e w' => e = .returned (.tuple #[.string ⟨(textV (s.data.toList.drop 1)).1.toArray⟩, .int .i64 ((textV (s.data.toList.drop 1)).2 : Nat)]) ∧ Below w.heap.size w w' := by
  have hsz : (s.extract 1 s.size).size = s.size - 1 := by rw [ByteArray.size_extract]; omega
  have HSZ := Lib.hid hsz
  clear hsz
  go_enter Tryd.func39, Tryd.ntmps39
  go_wp2_with fail
  go_loopw [5] (fun q wr => ∃ (b : Bool) (pos : Nat) (acc : List UInt8), q = .bool b ∧ pos ≤ (s.extract 1 s.size).size ∧ Hid (wr.heap[w.heap.size + 1]? = some (.stringIter (s.extract 1 s.size) pos)) ∧ Hid (Lib.IsBuilderF 75 5 w.heap.size w.heap.size (Lib.byteCells acc) wr) ∧ Below w.heap.size w wr ∧ Hid (TextAt (s.data.toList.drop 1) b pos acc) ∧ acc.length ≤ pos)
    (fun _ wr => (s.extract 1 s.size).size - wr.iterPos (w.heap.size + 1))
  case atStart =>
    refine ⟨false, 0, [], rfl, by omega, Lib.hid ?_, Lib.hid ((Lib.IsBuilderF.of (Lib.fresh_isBuilder _ _ w)).alloc _), ((Below.refl _ w).alloc (Nat.le_refl _) _).alloc (by simp) _, Lib.hid (textAt_start _), by simp⟩
    have := World.iter_heap (w.alloc (.cells #[.pointer none, .slice none 0 0] 75)) (s.extract 1 s.size) 0
    simpa using this
  case round =>
    obtain ⟨b, pos, acc, rfl, hp, hit, hI, hbw, hT, hal⟩ := hrel
    have hz : w.heap.size + 1 < wr.heap.size := (Array.getElem?_eq_some_iff.1 hit.out).1
    have hmu : wr.iterPos (w.heap.size + 1) = pos := by simp [World.iterPos, hit.out]
    have HMU := Lib.hid hmu
    clear hmu
    have hb4 : pos ≤ 3999 := by have := HSZ.out; omega
    by_cases hlt : pos < (s.extract 1 s.size).size
    · have hcd := tail_at s pos hlt
      have hwd := decode_wd (s.extract 1 s.size) pos hlt
      by_cases h39 : (s.extract 1 s.size)[pos] = 39
      · rw [h39] at hcd
        have hnx : ∀ ty, (Instr.next (.pointer (some ⟨w.heap.size + 1, 0, none⟩)) true ty).run Tryd.prog wr = .ok (.tuple #[.bool true, .int .i64 pos, .int .i32 39]) (wr.iterAt (w.heap.size + 1) (s.extract 1 s.size) (pos + 1)) := fun ty => by
          rw [Lib.run_next_ascii_at wr (w.heap.size + 1) _ pos ty hit.out hlt (by rw [h39]; decide), h39]
          rfl
        have HI := Lib.hid (hI.out.iterAt hit.out (pos + 1))
        have HK := Lib.hid (Lib.iterAt_heap wr (w.heap.size + 1) _ pos (pos + 1) hit.out)
        have hb1 := Lib.below_iterAt hbw (k := w.heap.size + 1) (by omega) (s.extract 1 s.size) (pos + 1)
        have hz1 : w.heap.size + 1 < (wr.iterAt (w.heap.size + 1) (s.extract 1 s.size) (pos + 1)).heap.size := by rw [Lib.iterAt_size]; exact hz
        have HC := Lib.hid hcd
        clear hcd h39 hwd hit hI hbw
        generalize wr.iterAt (w.heap.size + 1) (s.extract 1 s.size) (pos + 1) = W1 at *
        cases b with
        | true =>
          have HT2 := Lib.hid (textAt_double hT.out HC.out)
          clear hT HC
          go_wp2_with fail
          refine (Tryd.Builder_WriteByte_k w.heap.size w.heap.size _ 39 W1 HI.out (by rw [Lib.byteCells_length]; have := HSZ.out; omega) (by omega)).mono ?_
          rintro e W2 ⟨rfl, h2, b2, k2⟩
          have HI2 := Lib.hid (show Lib.IsBuilderF 75 5 w.heap.size w.heap.size (Lib.byteCells (acc ++ [39])) W2 by rw [Lib.byteCells_append]; exact .inr h2)
          have HK2 := Lib.hid (k2.iter HK.out (by omega))
          have hb2 := hb1.trans b2
          clear h2 b2 k2 hnx HI HK hb1
          go_wp2_with fail
          go_roundw
          case rel => exact ⟨false, pos + 1, acc ++ [39], rfl, by omega, HK2, HI2, hb2, HT2, by simp; omega⟩
          case measure =>
            have : W2.iterPos (w.heap.size + 1) = pos + 1 := by simp [World.iterPos, HK2.out]
            rw [HMU.out, this]
            omega
        | false =>
          have HT2 := Lib.hid (textAt_quote hT.out HC.out)
          clear hT HC
          go_wp2_with fail
          go_roundw
          case rel => exact ⟨true, pos + 1, acc, rfl, by omega, HK, HI, hb1, HT2, by omega⟩
          case measure =>
            have : W1.iterPos (w.heap.size + 1) = pos + 1 := by simp [World.iterPos, HK.out]
            rw [HMU.out, this]
            omega
      · have hr := rune_39 (s.extract 1 s.size) pos hlt h39
        have hnx : ∀ ty, (Instr.next (.pointer (some ⟨w.heap.size + 1, 0, none⟩)) true ty).run Tryd.prog wr = _ := fun ty => Lib.run_next_any_at wr (w.heap.size + 1) _ pos ty hit.out hlt
        obtain ⟨n, hn⟩ : ∃ n, n = (Utf8.decode (s.extract 1 s.size) pos).2 := ⟨_, rfl⟩
        obtain ⟨x, hx⟩ : ∃ x, x = ((Utf8.decode (s.extract 1 s.size) pos).1 : Int) := ⟨_, rfl⟩
        rw [← hn] at hwd
        rw [← hx] at hr
        simp only [← hn, ← hx] at hnx
        have HI := Lib.hid (hI.out.iterAt hit.out (pos + n))
        have HK := Lib.hid (Lib.iterAt_heap wr (w.heap.size + 1) _ pos (pos + n) hit.out)
        have hb1 := Lib.below_iterAt hbw (k := w.heap.size + 1) (by omega) (s.extract 1 s.size) (pos + n)
        have hz1 : w.heap.size + 1 < (wr.iterAt (w.heap.size + 1) (s.extract 1 s.size) (pos + n)).heap.size := by rw [Lib.iterAt_size]; exact hz
        have HC := Lib.hid hcd
        have HN := Lib.hid hn
        have HX := Lib.hid hx
        have H39 := Lib.hid h39
        obtain ⟨hn1, hn2⟩ := hwd
        clear hcd h39 hit hI hbw hn hx
        generalize wr.iterAt (w.heap.size + 1) (s.extract 1 s.size) (pos + n) = W1 at *
        cases b with
        | true =>
          have HV := Lib.hid (textV_some (textAt_stop hT.out HC.out H39.out))
          clear hT
          go_wp2_with fail
          refine (Tryd.Builder_String_any_k w.heap.size w.heap.size acc W1 HI.out (by omega)).mono ?_
          rintro e W2 ⟨rfl, h2, b2, k2⟩
          go_wp2_with fail
          go_ret2
          exact ⟨ret_sn (by rw [HV.out]) (by rw [HV.out]; simp), hb1.trans b2⟩
        | false =>
          have hps : 1 + pos + n ≤ s.size := by have := HSZ.out; omega
          have hdec : Lib.decodeGo (s.extract (1 + pos) s.size) = ((Utf8.decode (s.extract 1 s.size) pos).1, n) := by
            unfold Lib.decodeGo
            rw [if_neg (by rw [ByteArray.size_extract]; omega), Lib.tail_decode, Nat.add_zero, ← Lib.tail_decode s 1 pos, HN.out]
          have HD := Lib.hid hdec
          have hpc : (s.data.toList.drop (1 + pos)).take n = ((s.data.toList.drop 1).drop pos).take n := by rw [List.drop_drop]
          have hpl : (s.extract (1 + pos) (1 + pos + n)).data.toList = ((s.data.toList.drop 1).drop pos).take n := by
            rw [Lib.extract_data, ← hpc]
            congr 1
            omega
          have hps2 : (s.extract (1 + pos) (1 + pos + n)).size = n := by rw [ByteArray.size_extract]; omega
          have hnq : ∀ c ∈ ((s.data.toList.drop 1).drop pos).take n, c ≠ 39 := by
            have h5 : (s.data.toList.drop 1).drop pos = (s.extract 1 s.size)[pos] :: (s.data.toList.drop 1).drop (pos + 1) := drop_at HC.out
            have h6 := rune_noq ((s.data.toList.drop 1).drop pos) (by rw [h5]; simp) (by rw [h5]; exact H39.out)
            rwa [← Lib.extract_to_end, Lib.decodeL_drop, ← HN.out, Lib.extract_to_end] at h6
          have HT2 := Lib.hid (textAt_skip hT.out hnq (by have := HSZ.out; rw [List.length_drop]; simp; omega))
          have HPL := Lib.hid hpl
          have HP2 := Lib.hid hps2
          clear hdec hpc hpl hps2 hnq hT
          go_wp2_with fail
          refine (dec_is HD.out W1 (hE.below hb1)).mono ?_
          rintro e W2 ⟨rfl, b2⟩
          have HI2 := Lib.hid (HI.out.below b2)
          have HK2 := Lib.hid ((b2.block _ hz1).trans HK.out)
          have hb2 := below_thenw hb1 b2
          have hz2 := hb2.size
          clear b2 HI HK hnx
          go_wp2_with fail
          refine (Tryd.Builder_WriteString_k w.heap.size w.heap.size _ _ W2 HI2.out (by rw [Lib.byteCells_length, HP2.out]; omega) (by omega)).mono ?_
          rintro e W3 ⟨rfl, h3, b3, k3⟩
          have HI3 := Lib.hid (show Lib.IsBuilderF 75 5 w.heap.size w.heap.size (Lib.byteCells (acc ++ ((s.data.toList.drop 1).drop pos).take n)) W3 by
            rw [Lib.byteCells_append, ← HPL.out, ← Lib.strCells_eq]; exact .inr h3)
          have HK3 := Lib.hid (k3.iter HK2.out (by omega))
          have hb3 := hb2.trans b3
          clear h3 b3 k3 HI2 HK2
          go_wp2_with fail
          go_roundw
          case rel => exact ⟨false, pos + n, _, rfl, hn2, HK3, HI3, hb3, HT2, by rw [List.length_append, List.length_take]; omega⟩
          case measure =>
            have : W3.iterPos (w.heap.size + 1) = pos + n := by simp [World.iterPos, HK3.out]
            rw [HMU.out, this]
            omega
    · have hnx : ∀ ty, (Instr.next (.pointer (some ⟨w.heap.size + 1, 0, none⟩)) true ty).run Tryd.prog wr = _ := fun ty => Lib.run_next_end_at wr (w.heap.size + 1) _ pos ty hit.out hlt
      have hl : (s.data.toList.drop 1).length ≤ pos := by
        rw [List.length_drop]
        have := HSZ.out
        simp
        omega
      cases b with
      | true =>
        have HV := Lib.hid (textV_some (textAt_last hT.out hl))
        have HP := Lib.hid (show pos + 1 = s.size by have := HSZ.out; omega)
        clear hT hl
        go_wp2_with fail
        refine (Tryd.Builder_String_any_k w.heap.size w.heap.size acc wr hI.out (by omega)).mono ?_
        rintro e W2 ⟨rfl, h2, b2, k2⟩
        go_wp2_with fail
        go_ret2
        exact ⟨ret_sn (by rw [HV.out]) (by rw [HV.out, ← HP.out]), hbw.trans b2⟩
      | false =>
        have HV := Lib.hid (textV_none (textAt_open hT.out hl))
        clear hT hl
        go_wp2_with fail
        go_ret2
        exact ⟨ret_sn (by rw [HV.out]) (by rw [HV.out]; rfl), hbw⟩
end Go.Proofs.YtfbikpddpdkllaaDoor
